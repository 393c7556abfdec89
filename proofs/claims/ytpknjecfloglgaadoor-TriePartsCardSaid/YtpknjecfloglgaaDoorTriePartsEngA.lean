/- A reading of memory as data, and a symbolic evaluator over it, proved sound; no condition. -/
import Derived.WalkKit
import Derived.ChangeKeysEq
import Derived.DeepKeys
import Derived.Laws.CopyOwn
import Derived.Lib.Strings
set_option linter.unusedVariables false
set_option linter.unusedSimpArgs false
namespace Go.Eng
set_option linter.unusedSimpArgs false
set_option linter.unusedVariables false
open Go Go.RowKit

/-- Abstract values: what a value of the model reads as. -/
inductive AV where
  | bad
  | v (x : Value)
  | sl (z : Nat) (cs : List AV) (n : Nat) (k : Option Nat)
  | ptr (cs : List AV)
  | loc (id off : Nat)
  | bsl (z id off n : Nat)
  | csl (z id off n c : Nat)
  | agg (cs : List AV)
  | tup (vs : List AV)
  | fn (f : Fn) (first caps : List AV)
  | ifc (t : TypeId) (x : AV)

inductive Ob where
  | box (row : List AV)
  | tok
  | raw (o : Obj)

structure S where
  fr : List (Nat × AV)
  sz : Nat
  hp : List (Nat × Ob)
  nx : Nat
  df : List Nat

/-- The ghost: the world; the block from which on all is ours; how many cells of each block stay as they are; the block of each label; labels given out; live tokens. -/
structure Gh where
  w : World
  base : Nat
  im : Nat → Nat
  mu : Nat → Option Nat
  nx : Nat
  al : Nat → Bool
  tk : Nat → Bool

def Tail (γ : Gh) (k : Nat) (a : Option Addr) (n cap z : Nat) : Prop :=
  a = none ∨ ∃ b o cur e, a = some ⟨b, o, none⟩ ∧ γ.mu k = some b ∧ γ.base ≤ b ∧ γ.w.heap[b]? = some (.cells cur e (0, 0)) ∧ γ.im b = o + n * z ∧ o + cap * z ≤ cur.size
def TokOK (γ : Gh) (p : Bool) (k : Option Nat) (a : Option Addr) (n cap z : Nat) : Prop :=
  ∀ k', k = some k' → p = false ∧ k' < γ.nx ∧ γ.tk k' = true ∧ (γ.al k' = true → Tail γ k' a n cap z)

mutual
def R (γ : Gh) (p : Bool) : AV → Value → Prop
  | .bad, _ => True
  | .v x, y => y = x
  | .sl z cs n k, y => ∃ a cap, y = .slice a n cap ∧ n ≤ cap ∧ cap ≤ maxLen ∧ cs.length = n * z ∧ (a = none → cap = 0) ∧
      (n = 0 ∨ ∃ b o, a = some ⟨b, o, none⟩ ∧ o + n * z ≤ γ.im b ∧ RC γ b o cs) ∧ TokOK γ p k a n cap z
  | .ptr cs, y => ∃ b o, y = .pointer (some ⟨b, o, none⟩) ∧ o + cs.length ≤ γ.im b ∧ RC γ b o cs
  | .loc id off, y => p = false ∧ id < γ.nx ∧ ∃ b, γ.mu id = some b ∧ y = .pointer (some ⟨b, off, none⟩)
  | .bsl _ id off n, y => p = false ∧ id < γ.nx ∧ ∃ b a cap, γ.mu id = some b ∧ y = .slice (some a) n cap ∧ n ≤ cap ∧ cap ≤ maxLen ∧ (n = 0 ∨ a = ⟨b, off, none⟩)
  | .csl _ id off n c, y => p = false ∧ id < γ.nx ∧ ∃ b, γ.mu id = some b ∧ y = .slice (some ⟨b, off, none⟩) n c ∧ n ≤ c ∧ c ≤ maxLen
  | .agg cs, y => ∃ vs : List Value, y = .agg vs.toArray ∧ (∀ u ∈ vs, u.oneCell' = true) ∧ RL γ p cs vs
  | .tup cs, y => ∃ vs : List Value, y = .tuple vs.toArray ∧ RL γ p cs vs
  | .fn f fs cs, y => ∃ us vs : List Value, y = .func f us.toArray vs.toArray ∧ RL γ p fs us ∧ RL γ p cs vs
  | .ifc t x, y => ∃ u, y = .iface t u ∧ R γ p x u
def RL (γ : Gh) (p : Bool) : List AV → List Value → Prop
  | [], vs => vs = []
  | x :: xs, vs => ∃ u us, vs = u :: us ∧ R γ p x u ∧ RL γ p xs us
def RC (γ : Gh) (b : Nat) : Nat → List AV → Prop
  | _, [] => True
  | o, x :: xs => (∃ u, γ.w.cell? ⟨b, o, none⟩ = some u ∧ u.oneCell' = true ∧ R γ true x u) ∧ RC γ b (o + 1) xs
end
mutual
def lab (lo : Nat) : AV → Prop
  | .bad => True
  | .v _ => True
  | .sl _ _ _ k => ∀ k', k = some k' → k' < lo
  | .ptr _ => True
  | .loc id _ => id < lo
  | .bsl _ id _ _ => id < lo
  | .csl _ id _ _ _ => id < lo
  | .agg cs => labL lo cs
  | .tup cs => labL lo cs
  | .fn _ fs cs => labL lo fs ∧ labL lo cs
  | .ifc _ x => lab lo x
def labL (lo : Nat) : List AV → Prop
  | [] => True
  | x :: xs => lab lo x ∧ labL lo xs
end
structure Gh.le (lo : Nat) (γ γ' : Gh) : Prop where
  base : γ'.base = γ.base
  below : Below γ.base γ.w γ'.w
  im : ∀ b, γ.im b ≤ γ'.im b
  imo : ∀ b, b < γ.base → γ'.im b = γ.im b
  cell : ∀ b o, o < γ.im b → γ'.w.cell? ⟨b, o, none⟩ = γ.w.cell? ⟨b, o, none⟩
  nxl : lo ≤ γ'.nx
  mu : ∀ l b, l < lo → γ.mu l = some b → γ'.mu l = some b
  tk : ∀ k, k < lo → γ.tk k = true → γ'.tk k = true
  al : ∀ k, k < lo → γ.tk k = true → γ'.al k = true → γ.al k = true
  tok : ∀ k b, k < lo → γ.tk k = true → γ'.al k = true → γ.mu k = some b → γ'.im b = γ.im b ∧
    ∀ cur e, γ.w.heap[b]? = some (.cells cur e (0, 0)) → ∃ cur', γ'.w.heap[b]? = some (.cells cur' e (0, 0)) ∧ cur'.size = cur.size

theorem Gh.le.refl {lo : Nat} {γ : Gh} (h : lo ≤ γ.nx) : γ.le lo γ :=
  ⟨rfl, Below.refl _ _, fun _ => Nat.le_refl _, fun _ _ => rfl, fun _ _ _ => rfl, h, fun _ _ _ h => h, fun _ _ h => h, fun _ _ _ h => h, fun _ _ _ _ _ _ => ⟨rfl, fun cur _ h => ⟨cur, h, rfl⟩⟩⟩

theorem Gh.le.trans {lo : Nat} {a b c : Gh} (h : a.le lo b) (k : b.le lo c) : a.le lo c where
  base := k.base.trans h.base
  below := h.below.trans (by have := k.below; rw [h.base] at this; exact this)
  im := fun i => Nat.le_trans (h.im i) (k.im i)
  imo := fun i hi => (k.imo i (by rw [h.base]; exact hi)).trans (h.imo i hi)
  cell := fun i o ho => (k.cell i o (Nat.lt_of_lt_of_le ho (h.im i))).trans (h.cell i o ho)
  nxl := k.nxl
  mu := fun l i hl hm => k.mu l i hl (h.mu l i hl hm)
  tk := fun i hi ht => k.tk i hi (h.tk i hi ht)
  al := fun i hi ht ha => h.al i hi ht (k.al i hi (h.tk i hi ht) ha)
  tok := fun i j hi ht ha hm => by
    have h1 := h.tok i j hi ht (k.al i hi (h.tk i hi ht) ha) hm
    have h2 := k.tok i j hi (h.tk i hi ht) ha (h.mu i j hi hm)
    refine ⟨h2.1.trans h1.1, fun cur e hc => ?_⟩
    obtain ⟨c1, hc1, s1⟩ := h1.2 cur e hc
    obtain ⟨c2, hc2, s2⟩ := h2.2 c1 e hc1
    exact ⟨c2, hc2, s2.trans s1⟩

theorem Gh.le.mono {lo lo' : Nat} {a b : Gh} (h : a.le lo b) (hl : lo' ≤ lo) : a.le lo' b :=
  ⟨h.base, h.below, h.im, h.imo, h.cell, Nat.le_trans hl h.nxl, fun l i hi => h.mu l i (Nat.lt_of_lt_of_le hi hl), fun k hk => h.tk k (Nat.lt_of_lt_of_le hk hl), fun k hk => h.al k (Nat.lt_of_lt_of_le hk hl), fun k b hk => h.tok k b (Nat.lt_of_lt_of_le hk hl)⟩

theorem TokOK.mono {lo : Nat} {γ γ' : Gh} (h : γ.le lo γ') {p : Bool} {k : Option Nat} {a : Option Addr} {n cap z : Nat} (hk : ∀ k', k = some k' → k' < lo) (t : TokOK γ p k a n cap z) : TokOK γ' p k a n cap z := by
  intro k' e
  have hlt := hk k' e
  obtain ⟨hp, _, htk, ht⟩ := t k' e
  refine ⟨hp, Nat.lt_of_lt_of_le hlt h.nxl, h.tk k' hlt htk, fun ha => ?_⟩
  rcases ht (h.al k' hlt htk ha) with hc | ⟨b, o, cur, e', h1, h2, h3, h4, h5, h6⟩
  · exact .inl hc
  · obtain ⟨i1, i2⟩ := h.tok k' b hlt htk ha h2
    obtain ⟨cur', hc', hs⟩ := i2 cur e' h4
    exact .inr ⟨b, o, cur', e', h1, h.mu k' b hlt h2, by rw [h.base]; exact h3, hc', by rw [i1, h5], by omega⟩

mutual
theorem R_mono {lo : Nat} {γ γ' : Gh} (h : γ.le lo γ') (p : Bool) : ∀ (x : AV) (y : Value), (p = true ∨ lab lo x) → R γ p x y → R γ' p x y
  | .bad, _, _, _ => by simp [R]
  | .v _, _, _, r => by simpa [R] using r
  | .sl z cs n k, y, hl, r => by
    simp only [R] at r ⊢
    obtain ⟨a, cap, h1, h2, h3, h4, h4', h5, h6⟩ := r
    refine ⟨a, cap, h1, h2, h3, h4, h4', ?_, ?_⟩
    · rcases h5 with h5 | ⟨b, o, e, hi, hc⟩
      · exact .inl h5
      · exact .inr ⟨b, o, e, Nat.le_trans hi (h.im b), RC_mono h b cs o (by rw [h4]; exact hi) hc⟩
    · rcases hl with hl | hl
      · intro k' e
        have := (h6 k' e).1
        rw [hl] at this
        cases this
      · exact TokOK.mono h (by simpa [lab] using hl) h6
  | .ptr cs, y, _, r => by
    simp only [R] at r ⊢
    obtain ⟨b, o, h1, h2, h3⟩ := r
    exact ⟨b, o, h1, Nat.le_trans h2 (h.im b), RC_mono h b cs o h2 h3⟩
  | .loc id off, y, hl, r => by
    simp only [R] at r ⊢
    obtain ⟨hp, h1, b, h2, h3⟩ := r
    have hlt : id < lo := by rcases hl with hl | hl; · rw [hp] at hl; cases hl
                             · simpa [lab] using hl
    exact ⟨hp, Nat.lt_of_lt_of_le hlt h.nxl, b, h.mu id b hlt h2, h3⟩
  | .bsl z id off n, y, hl, r => by
    simp only [R] at r ⊢
    obtain ⟨hp, h1, b, a, cap, h2, h3⟩ := r
    have hlt : id < lo := by rcases hl with hl | hl; · rw [hp] at hl; cases hl
                             · simpa [lab] using hl
    exact ⟨hp, Nat.lt_of_lt_of_le hlt h.nxl, b, a, cap, h.mu id b hlt h2, h3⟩
  | .csl z id off n c, y, hl, r => by
    simp only [R] at r ⊢
    obtain ⟨hp, h1, b, h2, h3⟩ := r
    have hlt : id < lo := by rcases hl with hl | hl; · rw [hp] at hl; cases hl
                             · simpa [lab] using hl
    exact ⟨hp, Nat.lt_of_lt_of_le hlt h.nxl, b, h.mu id b hlt h2, h3⟩
  | .agg cs, y, hl, r => by
    simp only [R] at r ⊢
    obtain ⟨vs, h1, h1', h2⟩ := r
    exact ⟨vs, h1, h1', RL_mono h p cs vs (by simpa [lab] using hl) h2⟩
  | .tup cs, y, hl, r => by
    simp only [R] at r ⊢
    obtain ⟨vs, h1, h2⟩ := r
    exact ⟨vs, h1, RL_mono h p cs vs (by simpa [lab] using hl) h2⟩
  | .fn f fs cs, y, hl, r => by
    simp only [R] at r ⊢
    obtain ⟨us, vs, h1, h2, h3⟩ := r
    have hl' : (p = true ∨ labL lo fs) ∧ (p = true ∨ labL lo cs) := by
      rcases hl with hl | hl
      · exact ⟨.inl hl, .inl hl⟩
      · simp only [lab] at hl; exact ⟨.inr hl.1, .inr hl.2⟩
    exact ⟨us, vs, h1, RL_mono h p fs us hl'.1 h2, RL_mono h p cs vs hl'.2 h3⟩
  | .ifc t x, y, hl, r => by
    simp only [R] at r ⊢
    obtain ⟨u, h1, h2⟩ := r
    exact ⟨u, h1, R_mono h p x u (by simpa [lab] using hl) h2⟩
theorem RL_mono {lo : Nat} {γ γ' : Gh} (h : γ.le lo γ') (p : Bool) : ∀ (xs : List AV) (ys : List Value), (p = true ∨ labL lo xs) → RL γ p xs ys → RL γ' p xs ys
  | [], _, _, r => by simpa [RL] using r
  | x :: xs, ys, hl, r => by
    simp only [RL] at r ⊢
    obtain ⟨u, us, h1, h2, h3⟩ := r
    have hl' : (p = true ∨ lab lo x) ∧ (p = true ∨ labL lo xs) := by
      rcases hl with hl | hl
      · exact ⟨.inl hl, .inl hl⟩
      · simp only [labL] at hl; exact ⟨.inr hl.1, .inr hl.2⟩
    exact ⟨u, us, h1, R_mono h p x u hl'.1 h2, RL_mono h p xs us hl'.2 h3⟩
theorem RC_mono {lo : Nat} {γ γ' : Gh} (h : γ.le lo γ') (b : Nat) : ∀ (xs : List AV) (o : Nat), o + xs.length ≤ γ.im b → RC γ b o xs → RC γ' b o xs
  | [], _, _, _ => by simp [RC]
  | x :: xs, o, hi, r => by
    simp only [RC] at r ⊢
    obtain ⟨⟨u, h1, h2, h3⟩, h4⟩ := r
    simp only [List.length_cons] at hi
    exact ⟨⟨u, (h.cell b o (by omega)).trans h1, h2, R_mono h true x u (.inl rfl) h3⟩, RC_mono h b xs (o + 1) (by omega) h4⟩
end
mutual
theorem R_lab {γ : Gh} {p : Bool} : ∀ (x : AV) (y : Value), R γ p x y → lab γ.nx x
  | .bad, _, _ => by simp [lab]
  | .v _, _, _ => by simp [lab]
  | .sl z cs n k, y, r => by
    simp only [R] at r
    obtain ⟨a, cap, _, _, _, _, _, _, h6⟩ := r
    simp only [lab]
    exact fun k' e => (h6 k' e).2.1
  | .ptr cs, y, _ => by simp [lab]
  | .loc id off, y, r => by simp only [R] at r; simp only [lab]; exact r.2.1
  | .bsl z id off n, y, r => by simp only [R] at r; simp only [lab]; exact r.2.1
  | .csl z id off n c, y, r => by simp only [R] at r; simp only [lab]; exact r.2.1
  | .agg cs, y, r => by simp only [R] at r; simp only [lab]; obtain ⟨vs, _, _, h⟩ := r; exact RL_lab cs vs h
  | .tup cs, y, r => by simp only [R] at r; simp only [lab]; obtain ⟨vs, _, h⟩ := r; exact RL_lab cs vs h
  | .fn f fs cs, y, r => by simp only [R] at r; simp only [lab]; obtain ⟨us, vs, _, h, h'⟩ := r; exact ⟨RL_lab fs us h, RL_lab cs vs h'⟩
  | .ifc t x, y, r => by simp only [R] at r; simp only [lab]; obtain ⟨u, _, h⟩ := r; exact R_lab x u h
theorem RL_lab {γ : Gh} {p : Bool} : ∀ (xs : List AV) (ys : List Value), RL γ p xs ys → labL γ.nx xs
  | [], _, _ => by simp [labL]
  | x :: xs, ys, r => by simp only [RL] at r; simp only [labL]; obtain ⟨u, us, _, h, h'⟩ := r; exact ⟨R_lab x u h, RL_lab xs us h'⟩
end
theorem csl_bsl {γ : Gh} {p : Bool} {z id off n c : Nat} {y : Value} (h : R γ p (.csl z id off n c) y) : R γ p (.bsl z id off n) y := by
  simp only [R] at h ⊢
  obtain ⟨h1, h2, b, h3, h4, h5, h6⟩ := h
  exact ⟨h1, h2, b, _, c, h3, h4, h5, h6, .inr rfl⟩

theorem R_le {γ γ' : Gh} (h : γ.le γ.nx γ') {p : Bool} {x : AV} {y : Value} (r : R γ p x y) : R γ' p x y := R_mono h p x y (.inr (R_lab x y r)) r
theorem RL_le {γ γ' : Gh} (h : γ.le γ.nx γ') {p : Bool} {x : List AV} {y : List Value} (r : RL γ p x y) : RL γ' p x y := RL_mono h p x y (.inr (RL_lab x y r)) r

def shaFirst : List UInt32 := [1779033703, 3144134277, 1013904242, 2773480762, 1359893119, 2600822924, 528734635, 1541459225]
def shaK : List UInt32 := [1116352408, 1899447441, 3049323471, 3921009573, 961987163, 1508970993, 2453635748, 2870763221, 3624381080, 310598401, 607225278, 1426881987, 1925078388, 2162078206, 2614888103, 3248222580, 3835390401, 4022224774, 264347078, 604807628, 770255983, 1249150122, 1555081692, 1996064986, 2554220882, 2821834349, 2952996808, 3210313671, 3336571891, 3584528711, 113926993, 338241895, 666307205, 773529912, 1294757372, 1396182291, 1695183700, 1986661051, 2177026350, 2456956037, 2730485921, 2820302411, 3259730800, 3345764771, 3516065817, 3600352804, 4094571909, 275423344, 430227734, 506948616, 659060556, 883997877, 958139571, 1322822218, 1537002063, 1747873779, 1955562222, 2024104815, 2227730452, 2361852424, 2428436474, 2756734187, 3204031479, 3329325298]
def gtab (g : Nat) : Option (List AV) := match g with
  | 0 => some (shaFirst.map fun x => .v (.int .u32 x.toNat))
  | 1 => some (shaK.map fun x => .v (.int .u32 x.toNat))
  | _ => none
def GOK (γ : Gh) : Prop := ∀ g cs, gtab g = some cs → cs.length ≤ γ.im g ∧ RC γ g 0 cs
theorem GOK.le {lo : Nat} {γ γ' : Gh} (h : GOK γ) (hle : γ.le lo γ') : GOK γ' := fun g cs hg =>
  ⟨Nat.le_trans (h g cs hg).1 (hle.im g), RC_mono hle g cs 0 (by have := (h g cs hg).1; omega) (h g cs hg).2⟩

end Go.Eng

namespace Go.Eng
set_option linter.unusedSimpArgs false
set_option linter.unusedVariables false
open Go Go.RowKit

def look {α : Type} : List (Nat × α) → Nat → Option α
  | [], _ => none
  | (k, x) :: r, t => bif Nat.beq k t then some x else look r t
theorem look_nil {α : Type} (t : Nat) : look ([] : List (Nat × α)) t = none := rfl
theorem look_cons {α : Type} (k : Nat) (x : α) (r : List (Nat × α)) (t : Nat) : look ((k, x) :: r) t = if k = t then some x else look r t := by
  by_cases h : k = t
  · subst h; simp [look]
  · have : Nat.beq k t = false := by
      rcases hb : Nat.beq k t with _ | _
      · rfl
      · exact absurd (Nat.eq_of_beq_eq_true hb) h
    simp [look, this, h]
/-- strike a label -/
def del {α : Type} : List (Nat × α) → Nat → List (Nat × α)
  | [], _ => []
  | (k, x) :: r, t => bif Nat.beq k t then del r t else (k, x) :: del r t
theorem look_del {α : Type} (l : List (Nat × α)) (k t : Nat) : look (del l k) t = if k = t then none else look l t := by
  induction l with
  | nil => simp [del, look_nil]
  | cons e r ih =>
    obtain ⟨j, x⟩ := e
    by_cases h : j = k
    · subst h
      simp only [del, Nat.beq_refl, cond_true, ih, look_cons]
      split <;> simp_all
    · have hb : Nat.beq j k = false := by
        rcases hb : Nat.beq j k with _ | _
        · rfl
        · exact absurd (Nat.eq_of_beq_eq_true hb) h
      simp only [del, hb, cond_false, look_cons, ih]
      by_cases h2 : j = t
      · subst h2; simp [Ne.symm h]
      · simp [h2]

/-- the label's block, what is known of it -/
structure HRel (γ : Gh) (hp : List (Nat × Ob)) : Prop where
  box : ∀ l row, look hp l = some (.box row) → ∃ b cur e, γ.mu l = some b ∧ γ.base ≤ b ∧ γ.w.heap[b]? = some (.cells cur e (0, 0)) ∧ γ.im b = 0 ∧
    (∀ u ∈ cur.toList, u.oneCell' = true) ∧ RL γ false row cur.toList
  tok : ∀ k, γ.al k = true ↔ look hp k = some .tok
  inj : ∀ l l' b, (look hp l).isSome = true → (look hp l').isSome = true → γ.mu l = some b → γ.mu l' = some b → l = l'
  fresh : ∀ l, γ.nx ≤ l → γ.mu l = none ∧ look hp l = none ∧ γ.tk l = false
  tkal : ∀ k, γ.al k = true → γ.tk k = true
  imz : ∀ b, γ.w.heap.size ≤ b → γ.im b = 0
  live : ∀ l b, γ.mu l = some b → γ.base ≤ b ∧ b < γ.w.heap.size
  raw : ∀ l o, look hp l = some (.raw o) → ∃ b, γ.mu l = some b ∧ γ.base ≤ b ∧ γ.w.heap[b]? = some o ∧ γ.im b = 0
  gok : GOK γ

/-- a label that is not given out -/
def Free (γ : Gh) (hp : List (Nat × Ob)) (l : Nat) : Prop := l < γ.nx ∧ γ.mu l = none ∧ look hp l = none ∧ γ.tk l = false
/-- from one ghost to the next; the labels from a to b may be given out -/
structure Stp (γ : Gh) (hp : List (Nat × Ob)) (γ' : Gh) (hp' : List (Nat × Ob)) (a b : Nat) : Prop where
  le : γ.le γ.nx γ'
  hr : HRel γ' hp'
  nx : γ'.nx = γ.nx
  free : ∀ l, Free γ hp l → ¬ (a ≤ l ∧ l < b) → Free γ' hp' l

/-- deferred calls: marks of ranges over functions, by their blocks' labels -/
def DF (γ : Gh) : List Nat → List Deferred → Prop
  | [], ds => ds = []
  | k :: ks, ds => ∃ D r, ds = { target := .collected D, args := #[] } :: r ∧ k < γ.nx ∧ γ.mu k = some D ∧ DF γ ks r
theorem DF_le {γ γ' : Gh} (h : γ.le γ.nx γ') : ∀ {ks : List Nat} {ds : List Deferred}, DF γ ks ds → DF γ' ks ds
  | [], _, d => d
  | k :: ks, _, d => by
    obtain ⟨D, r, h1, h2, h3, h4⟩ := d
    exact ⟨D, r, h1, Nat.lt_of_lt_of_le h2 h.nxl, h.mu k D h2 h3, DF_le h h4⟩

/-- what a state says, but for the label that comes next -/
structure Rel0 (γ : Gh) (s : S) (a : Act) : Prop where
  fr : ∀ t x, look s.fr t = some x → R γ false x (a.tmps.getD t undef)
  sz : a.tmps.size = s.sz
  hr : HRel γ s.hp
  df : DF γ s.df a.defers
  bs : γ.base ≤ γ.w.heap.size
structure Rel (γ : Gh) (s : S) (a : Act) : Prop extends Rel0 γ s a where
  nx : γ.nx = s.nx

theorem RL_length {γ : Gh} {p : Bool} : ∀ {xs : List AV} {ys : List Value}, RL γ p xs ys → xs.length = ys.length
  | [], _, r => by simp only [RL] at r; simp [r]
  | x :: xs, ys, r => by simp only [RL] at r; obtain ⟨u, us, rfl, _, h⟩ := r; simp [RL_length h]
theorem RL_get {γ : Gh} {p : Bool} : ∀ {xs : List AV} {ys : List Value}, RL γ p xs ys → ∀ (i : Nat) (x : AV), xs[i]? = some x → ∃ y, ys[i]? = some y ∧ R γ p x y
  | [], _, _, i, x, h => by simp at h
  | a :: xs, ys, r, i, x, h => by
    simp only [RL] at r
    obtain ⟨u, us, rfl, h1, h2⟩ := r
    cases i with
    | zero => simp at h; subst h; exact ⟨u, by simp, h1⟩
    | succ i => simp at h; obtain ⟨y, hy, hr⟩ := RL_get h2 i x h; exact ⟨y, by simpa using hy, hr⟩
theorem RL_of_get {γ : Gh} {p : Bool} : ∀ {xs : List AV} {ys : List Value}, xs.length = ys.length → (∀ (i : Nat) (x : AV) (y : Value), xs[i]? = some x → ys[i]? = some y → R γ p x y) → RL γ p xs ys
  | [], ys, h, _ => by simp only [RL]; exact List.eq_nil_of_length_eq_zero (by simpa using h.symm)
  | x :: xs, [], h, _ => by simp at h
  | x :: xs, y :: ys, h, H => by
    simp only [RL]
    exact ⟨y, ys, rfl, H 0 x y (by simp) (by simp), RL_of_get (by simpa using h) fun i x y hx hy => H (i + 1) x y (by simpa using hx) (by simpa using hy)⟩
theorem RL_append {γ : Gh} {p : Bool} {xs xs' : List AV} {ys ys' : List Value} (h : RL γ p xs ys) (h' : RL γ p xs' ys') : RL γ p (xs ++ xs') (ys ++ ys') := by
  refine RL_of_get (by simp [RL_length h, RL_length h']) fun i x y hx hy => ?_
  have hl := RL_length h
  rw [List.getElem?_append] at hx hy
  by_cases hi : i < xs.length
  · rw [if_pos hi] at hx; rw [if_pos (by omega)] at hy
    obtain ⟨y', hy', hr⟩ := RL_get h i x hx
    rw [hy'] at hy; cases hy; exact hr
  · rw [if_neg hi] at hx; rw [if_neg (by omega)] at hy
    obtain ⟨y', hy', hr⟩ := RL_get h' _ x hx
    rw [← hl, hy'] at hy; cases hy; exact hr
theorem RL_take {γ : Gh} {p : Bool} {xs : List AV} {ys : List Value} (h : RL γ p xs ys) (n : Nat) : RL γ p (xs.take n) (ys.take n) := by
  refine RL_of_get (by simp [RL_length h]) fun i x y hx hy => ?_
  rw [List.getElem?_take] at hx hy
  split at hx
  · rename_i hi; rw [if_pos hi] at hy
    obtain ⟨y', hy', hr⟩ := RL_get h i x hx
    rw [hy'] at hy; cases hy; exact hr
  · cases hx
theorem RL_drop {γ : Gh} {p : Bool} {xs : List AV} {ys : List Value} (h : RL γ p xs ys) (n : Nat) : RL γ p (xs.drop n) (ys.drop n) := by
  refine RL_of_get (by simp [RL_length h]) fun i x y hx hy => ?_
  rw [List.getElem?_drop] at hx hy
  obtain ⟨y', hy', hr⟩ := RL_get h _ x hx
  rw [hy'] at hy; cases hy; exact hr
theorem RL_nil {γ : Gh} {p : Bool} : RL γ p [] [] := by simp [RL]
theorem RL_one {γ : Gh} {p : Bool} {x : AV} {y : Value} (h : R γ p x y) : RL γ p [x] [y] := by simp [RL, h]
theorem RL_cons {γ : Gh} {p : Bool} {x : AV} {y : Value} {xs : List AV} {ys : List Value} (h : R γ p x y) (h' : RL γ p xs ys) : RL γ p (x :: xs) (y :: ys) := by simp only [RL]; exact ⟨y, ys, rfl, h, h'⟩
theorem RL_vs (γ : Gh) (p : Bool) : ∀ (ys : List Value), RL γ p (ys.map .v) ys
  | [] => by simp [RL]
  | y :: ys => RL_cons (by simp [R]) (RL_vs γ p ys)

mutual
theorem R_np {γ : Gh} : ∀ (x : AV) (y : Value), R γ true x y → R γ false x y
  | .bad, _, _ => by simp [R]
  | .v _, _, r => by simpa [R] using r
  | .sl z cs n k, y, r => by
    simp only [R] at r ⊢
    obtain ⟨a, cap, h1, h2, h3, h4, h4', h5, h6⟩ := r
    exact ⟨a, cap, h1, h2, h3, h4, h4', h5, fun k' e => by have := (h6 k' e).1; cases this⟩
  | .ptr cs, y, r => by simpa only [R] using r
  | .loc id off, y, r => by simp [R] at r
  | .bsl z id off n, y, r => by simp [R] at r
  | .csl z id off n c, y, r => by simp [R] at r
  | .agg cs, y, r => by simp only [R] at r ⊢; obtain ⟨vs, h1, h2, h3⟩ := r; exact ⟨vs, h1, h2, RL_np cs vs h3⟩
  | .tup cs, y, r => by simp only [R] at r ⊢; obtain ⟨vs, h1, h3⟩ := r; exact ⟨vs, h1, RL_np cs vs h3⟩
  | .fn f fs cs, y, r => by simp only [R] at r ⊢; obtain ⟨us, vs, h1, h3, h4⟩ := r; exact ⟨us, vs, h1, RL_np fs us h3, RL_np cs vs h4⟩
  | .ifc t x, y, r => by simp only [R] at r ⊢; obtain ⟨u, h1, h3⟩ := r; exact ⟨u, h1, R_np x u h3⟩
theorem RL_np {γ : Gh} : ∀ (xs : List AV) (ys : List Value), RL γ true xs ys → RL γ false xs ys
  | [], _, r => by simpa [RL] using r
  | x :: xs, ys, r => by simp only [RL] at r ⊢; obtain ⟨u, us, h1, h2, h3⟩ := r; exact ⟨u, us, h1, R_np x u h2, RL_np xs us h3⟩
end
theorem RC_get {γ : Gh} {b : Nat} : ∀ {xs : List AV} {o : Nat}, RC γ b o xs → ∀ (i : Nat) (x : AV), xs[i]? = some x → ∃ u, γ.w.cell? ⟨b, o + i, none⟩ = some u ∧ u.oneCell' = true ∧ R γ true x u
  | [], _, _, i, x, h => by simp at h
  | a :: xs, o, r, i, x, h => by
    simp only [RC] at r
    obtain ⟨⟨u, h1, h2, h3⟩, h4⟩ := r
    cases i with
    | zero => simp at h; subst h; exact ⟨u, by simpa using h1, h2, h3⟩
    | succ i => simp at h; obtain ⟨y, hy, hr⟩ := RC_get h4 i x h; exact ⟨y, by rw [← hy]; congr 2; omega, hr⟩
theorem RC_of_get {γ : Gh} {b : Nat} : ∀ {xs : List AV} {o : Nat}, (∀ (i : Nat) (x : AV), xs[i]? = some x → ∃ u, γ.w.cell? ⟨b, o + i, none⟩ = some u ∧ u.oneCell' = true ∧ R γ true x u) → RC γ b o xs
  | [], _, _ => by simp [RC]
  | a :: xs, o, H => by
    simp only [RC]
    refine ⟨by simpa using H 0 a (by simp), RC_of_get fun i x h => ?_⟩
    obtain ⟨u, hu, r⟩ := H (i + 1) x (by simpa using h)
    exact ⟨u, by rw [← hu]; congr 2; omega, r⟩
theorem RC_drop {γ : Gh} {b : Nat} {xs : List AV} {o : Nat} (h : RC γ b o xs) (n : Nat) : RC γ b (o + n) (xs.drop n) :=
  RC_of_get fun i x hx => by
    rw [List.getElem?_drop] at hx
    obtain ⟨u, hu, r⟩ := RC_get h _ x hx
    exact ⟨u, by rw [← hu]; congr 2; omega, r⟩
theorem RC_take {γ : Gh} {b : Nat} {xs : List AV} {o : Nat} (h : RC γ b o xs) (n : Nat) : RC γ b o (xs.take n) :=
  RC_of_get fun i x hx => by
    rw [List.getElem?_take] at hx
    split at hx
    · exact RC_get h _ x hx
    · cases hx
/-- the cells of a memory row, as values -/
theorem RC_values {γ : Gh} {b : Nat} : ∀ {xs : List AV} {o : Nat}, RC γ b o xs → ∃ vs : List Value, RL γ true xs vs ∧ (∀ u ∈ vs, u.oneCell' = true) ∧ (∀ j u, vs[j]? = some u → γ.w.cell? ⟨b, o + j, none⟩ = some u)
  | [], _, _ => ⟨[], by simp [RL], by simp, by simp⟩
  | a :: xs, o, r => by
    simp only [RC] at r
    obtain ⟨⟨u, h1, h2, h3⟩, h4⟩ := r
    obtain ⟨vs, hr, ho, hc⟩ := RC_values h4
    refine ⟨u :: vs, RL_cons h3 hr, by simpa [h2] using ho, fun j v hv => ?_⟩
    cases j with
    | zero => simp at hv; subst hv; simpa using h1
    | succ j => simp at hv; have := hc j v hv; rw [← this]; congr 2; omega
theorem RC_intro {γ : Gh} {b : Nat} {xs : List AV} {vs : List Value} {o : Nat} (h : RL γ true xs vs) (ho : ∀ u ∈ vs, u.oneCell' = true) (hc : ∀ j u, vs[j]? = some u → γ.w.cell? ⟨b, o + j, none⟩ = some u) : RC γ b o xs :=
  RC_of_get fun i x hx => by
    obtain ⟨y, hy, r⟩ := RL_get h i x hx
    exact ⟨y, hc i y hy, ho y (List.mem_of_getElem? hy), r⟩

end Go.Eng

namespace Go.Eng
set_option linter.unusedSimpArgs false
set_option linter.unusedVariables false
open Go Go.RowKit

def fldsT (P : Program) (q : TypeId → Bool) : Nat → List Field → Nat → Bool
  | o, [], n => o == n
  | o, f :: r, n => f.offset == o && q f.type && fldsT P q (o + P.cellsOf f.type) r n
def u8T (P : Program) : Nat → TypeId → Bool
  | 0, _ => false
  | d + 1, t => match P.underlying t with
    | some (.int .u8) => P.cellsOf t == 1
    | some (.array n e) => u8T P d e && P.cellsOf t == n * P.cellsOf e
    | some (.struct fs) => fldsT P (u8T P d) 0 fs.toList (P.cellsOf t) && fs.all (·.name != "_")
    | _ => false
def cell8 (b : UInt8) : Value := .int .u8 b.toNat
def lit8 (b : UInt8) : Lit := .int .u8 b.toNat
theorem wf8 (b : UInt8) : (Lit.int .u8 (b.toNat : Int)).wf = true := by
  have := b.toNat_lt
  simp [Lit.wf, IntKind.min, IntKind.max, IntKind.signed, IntKind.bits]
  omega
theorem mapM_some' {α β : Type} {f : α → Option β} {g : α → β} : ∀ {l : List α}, (∀ x ∈ l, f x = some (g x)) → l.mapM f = some (l.map g)
  | [], _ => rfl
  | x :: l, h => by
    rw [List.mapM_cons, h x (by simp), mapM_some' fun y hy => h y (by simp [hy])]
    rfl
theorem chunks_flat {α : Type} (z : Nat) : ∀ (n : Nat) (l : List α), l.length = n * z → ((List.range n).map fun i => (l.drop (i * z)).take z).flatten = l
  | 0, l, h => by
    have : l = [] := List.eq_nil_of_length_eq_zero (by simpa using h)
    subst this; rfl
  | n + 1, l, h => by
    have ih := chunks_flat z n (l.drop z) (by rw [List.length_drop, h, Nat.add_mul]; omega)
    rw [List.range_succ_eq_map, List.map_cons, List.map_map, List.flatten_cons, Nat.zero_mul, List.drop_zero]
    conv => rhs; rw [← List.take_append_drop z l]
    congr 1
    refine Eq.trans ?_ ih
    congr 1
    refine List.map_congr_left fun i _ => ?_
    simp only [Function.comp]
    rw [List.drop_drop, Nat.succ_mul, Nat.add_comm]
theorem keyLits_u8 (P : Program) : ∀ (d : Nat) (t : TypeId), u8T P d t = true → ∀ bs : List UInt8, bs.length = P.cellsOf t → P.keyLits d t (bs.map cell8) = some (bs.map lit8)
  | 0, _, h, _, _ => by simp [u8T] at h
  | d + 1, t, h, bs, hl => by
    unfold u8T at h
    unfold Program.keyLits
    split at h
    · rename_i hu
      rw [hu]
      have h1 : P.cellsOf t = 1 := by simpa using h
      rw [h1] at hl
      match bs, hl with
      | [b], _ => simp [cell8, lit8, wf8]
    · rename_i n e hu
      rw [hu]
      simp only [Bool.and_eq_true, beq_iff_eq] at h
      obtain ⟨h1, h2⟩ := h
      simp only
      rw [if_pos (by rw [List.length_map, hl])]
      rw [mapM_some' (g := fun i => ((bs.drop (i * P.cellsOf e)).take (P.cellsOf e)).map lit8)]
      · have := chunks_flat (P.cellsOf e) n (bs.map lit8) (by rw [List.length_map, hl, h2])
        simp only [Option.map_some, Option.some.injEq]
        conv => rhs; rw [← this]
        simp only [List.map_take, List.map_drop]
      · intro i hi
        have hi := List.mem_range.1 hi
        rw [← List.map_drop, ← List.map_take]
        refine keyLits_u8 P d e h1 _ ?_
        rw [List.length_take, List.length_drop, hl, h2]
        have : (i + 1) * P.cellsOf e ≤ n * P.cellsOf e := Nat.mul_le_mul_right _ hi
        rw [Nat.add_mul] at this
        omega
    · rename_i fs hu
      rw [hu]
      simp only [Bool.and_eq_true] at h
      obtain ⟨h1, h2⟩ := h
      simp only
      rw [if_pos ⟨by rw [List.length_map, hl], h2⟩]
      have key : ∀ (fl : List Field) (o : Nat), fldsT P (u8T P d) o fl (P.cellsOf t) = true → ∃ ls : List (List Lit), fl.mapM (fun f => P.keyLits d f.type (((bs.map cell8).drop f.offset).take (P.cellsOf f.type))) = some ls ∧ ls.flatten = (bs.map lit8).drop o := by
        intro fl
        induction fl with
        | nil =>
          intro o ho
          have ho : o = P.cellsOf t := by simpa [fldsT] using ho
          exact ⟨[], rfl, by rw [List.drop_of_length_le (by rw [List.length_map, hl, ho]; exact Nat.le_refl _)]; rfl⟩
        | cons f r ih =>
          intro o ho
          simp only [fldsT, Bool.and_eq_true, beq_iff_eq] at ho
          obtain ⟨⟨ho1, ho2⟩, ho3⟩ := ho
          obtain ⟨ls, hm, hf⟩ := ih _ ho3
          have hle : ∀ (r : List Field) (o : Nat), fldsT P (u8T P d) o r (P.cellsOf t) = true → o ≤ P.cellsOf t := by
            intro r
            induction r with
            | nil => intro o h; have : o = P.cellsOf t := by simpa [fldsT] using h
                     omega
            | cons g r ih => intro o h; simp only [fldsT, Bool.and_eq_true] at h; have := ih _ h.2; omega
          have hle' := hle _ _ ho3
          have hc := keyLits_u8 P d f.type ho2 ((bs.drop o).take (P.cellsOf f.type)) (by rw [List.length_take, List.length_drop]; omega)
          refine ⟨((bs.drop o).take (P.cellsOf f.type)).map lit8 :: ls, ?_, ?_⟩
          · rw [List.mapM_cons, ho1, ← List.map_drop, ← List.map_take, hc, hm]; rfl
          · rw [List.flatten_cons, hf, List.map_take, List.map_drop, ← List.drop_drop, List.take_append_drop]
      obtain ⟨ls, hm, hf⟩ := key fs.toList 0 h1
      rw [hm]
      simp [hf]
    · cases h
theorem lit8_inj {as bs : List UInt8} (h : as.map lit8 = bs.map lit8) : as = bs := by
  refine (List.map_inj_right fun x y e => ?_).1 h
  simp only [lit8, Lit.int.injEq, true_and] at e
  exact UInt8.toNat_inj.1 (by omega)
def deepT (P : Program) (t : TypeId) : Bool := P.keyTypeAt 10 t && u8T P 10 t && (match P.underlying t with
  | some (.array _ _) => true
  | some (.struct _) => true
  | _ => false)
theorem run_equal_u8 {P : Program} (w : World) {t : TypeId} (h : deepT P t = true) (as bs : List UInt8) (ha : as.length = P.cellsOf t) (hb : bs.length = P.cellsOf t) :
    (Op.equalIn 10000 t (.agg (as.map cell8).toArray) (.agg (bs.map cell8).toArray)).run P w = .ok (decide (as = bs)) w := by
  simp only [deepT, Bool.and_eq_true] at h
  obtain ⟨⟨h1, h2⟩, h3⟩ := h
  have fm : ∀ cs : List UInt8, cs.length = P.cellsOf t → (Value.agg (cs.map cell8).toArray).formed P t = true := by
    intro cs hc
    unfold Value.formed
    split at h3
    · rename_i n e hu; rw [hu]; simp [hc]
    · rename_i fs hu; rw [hu]; simp [hc]
    · cases h3
  obtain ⟨r, hr, hiff⟩ := run_equalIn_deep (P := P) 9990 10 t h1 w 10 10 (.agg (as.map cell8).toArray) (.agg (bs.map cell8).toArray) _ _ (fm as ha) (fm bs hb) (keyLits_u8 P 10 t h2 as ha) (keyLits_u8 P 10 t h2 bs hb)
  rw [show (10000 : Nat) = 9990 + 10 from rfl, hr]
  congr 1
  rw [Bool.eq_iff_iff, hiff, decide_eq_true_iff]
  exact ⟨lit8_inj, fun e => by rw [e]⟩
end Go.Eng

namespace Go.Eng
set_option linter.unusedSimpArgs false
set_option linter.unusedVariables false
open Go Go.RowKit

abbrev int (n : Int) : AV := .v (.int .i64 n)
abbrev u8 (x : UInt8) : AV := .v (.int .u8 x.toNat)
abbrev u16 (x : UInt16) : AV := .v (.int .u16 x.toNat)
abbrev u32 (x : UInt32) : AV := .v (.int .u32 x.toNat)
abbrev u64 (x : UInt64) : AV := .v (.int .u64 x.toNat)
abbrev boo (b : Bool) : AV := .v (.bool b)
abbrev nilS : AV := .v (.slice none 0 0)
abbrev unit : AV := .v undef
def inI (n : Int) : Prop := -9223372036854775808 ≤ n ∧ n ≤ 9223372036854775807

def S.ev (s : S) : Operand → AV
  | .tmp t => (look s.fr t).getD .bad
  | .const v => .v v
  | .global g => .v (.pointer (some ⟨g, 0, none⟩))
  | .func f => .v (.func (.func f) #[] #[])
/-- a pointer to such a variable reads as what it holds -/
def gl (A : AV) : AV := match A with
  | .v (.pointer (some ⟨g, 0, none⟩)) => match gtab g with
    | some cs => .ptr cs
    | none => A
  | A => A
theorem gl_R {γ : Gh} (h : GOK γ) {A : AV} {y : Value} (hR : R γ false A y) : R γ false (gl A) y := by
  unfold gl
  split
  · rename_i g
    split
    · rename_i cs hg
      simp only [R] at hR ⊢
      obtain ⟨h1, h2⟩ := h g cs hg
      exact ⟨g, 0, hR, by omega, h2⟩
    · exact hR
  · exact hR
def S.set (s : S) (d : Option Nat) (x : AV) (hp : List (Nat × Ob)) (nx : Nat) : S :=
  ⟨match d with | some d => (d, x) :: s.fr | none => s.fr, s.sz, hp, nx, s.df⟩

/-- What an operation comes to: when it goes through; its value; the labels behind it. -/
structure Out where
  ok : Prop
  x : AV
  hp : List (Nat × Ob)
  nx : Nat
def S.o (s : S) (ok : Prop) (x : AV) : Out := ⟨ok, x, s.hp, s.nx⟩
def S.no (s : S) : Out := ⟨False, .bad, s.hp, s.nx⟩

def Out.Sound (P : Program) (o : Oper) (s : S) (u : Out) : Prop :=
  u.ok → ∀ (γ : Gh) (a : Act), Rel0 γ s a → (∀ l, s.nx ≤ l → l < u.nx → Free γ s.hp l) → ∃ v γ', ((execOp a.eval o).run P γ.w = .ok (.value v) γ'.w ∨ ((execOp a.eval o).run P γ.w = .ok .skip γ'.w ∧ v = undef)) ∧
    Stp γ s.hp γ' u.hp s.nx u.nx ∧ R γ' false u.x v

theorem Rel0.ev {γ : Gh} {s : S} {a : Act} (h : Rel0 γ s a) (x : Operand) : R γ false (s.ev x) (a.eval x) := by
  cases x with
  | tmp t =>
    simp only [S.ev, Act.eval]
    cases hl : look s.fr t with
    | none => simp [R]
    | some y => exact h.fr t y hl
  | const v => simp [S.ev, Act.eval, R]
  | global g => simp [S.ev, R, Act.eval]
  | func f => simp [S.ev, Act.eval, R]

theorem Stp.refl {γ : Gh} {hp : List (Nat × Ob)} (hr : HRel γ hp) (a b : Nat) : Stp γ hp γ hp a b := ⟨Gh.le.refl (Nat.le_refl _), hr, rfl, fun _ h _ => h⟩
theorem sound_val {P : Program} {o : Oper} {s : S} {ok : Prop} {x : AV}
    (h : ok → ∀ (γ : Gh) (a : Act), Rel0 γ s a → ∃ v, (execOp a.eval o).run P γ.w = .ok (.value v) γ.w ∧ R γ false x v) : (s.o ok x).Sound P o s := by
  intro hk γ a hr _
  obtain ⟨v, h1, h2⟩ := h hk γ a hr
  exact ⟨v, γ, .inl h1, Stp.refl hr.hr _ _, h2⟩
theorem sound_no {P : Program} {o : Oper} {s : S} : s.no.Sound P o s := fun h => h.elim

def pickA : AV → AV → AV → AV
  | .v (.bool true), a, _ => a
  | .v (.bool false), _, b => b
  | _, _, _ => .bad
def pickOk : AV → Prop
  | .v (.bool _) => True
  | _ => False
/-- arrays of numbers -/
def intA : AV → Int
  | .v (.int _ n) => n
  | _ => 0
def intsOk (k : IntKind) (cs : List AV) : Prop := ∀ x ∈ cs, ∃ n, x = .v (.int k n)
def okU8 (cs : List AV) : Prop := ∃ bs : List UInt8, cs = bs.map fun b => .v (.int .u8 b.toNat)
def deepOk (P : Program) (t : TypeId) (as bs : List AV) : Prop := deepT P t = true ∧ as.length = P.cellsOf t ∧ bs.length = P.cellsOf t ∧ okU8 as ∧ okU8 bs
def aggOk (P : Program) (t : TypeId) (as bs : List AV) : Prop := P.eqGuardType P.depth t = false ∧ match P.underlying t with
  | some (.array n e) => (match P.underlying e with
    | some (.int k) => P.cellsOf e = 1 ∧ as.length = n ∧ bs.length = n ∧ intsOk k as ∧ intsOk k bs
    | _ => deepOk P t as bs)
  | some (.struct _) => deepOk P t as bs
  | _ => False
def aggEq (as bs : List AV) : Bool := decide (as.map intA = bs.map intA)
theorem ints_RL {γ : Gh} {p : Bool} {k : IntKind} : ∀ {as : List AV} {vs : List Value}, RL γ p as vs → intsOk k as → vs = (as.map intA).map (.int k)
  | [], vs, h, _ => by simp only [RL] at h; simp [h]
  | a :: as, vs, h, hk => by
    simp only [RL] at h
    obtain ⟨u, us, rfl, h1, h2⟩ := h
    obtain ⟨n, rfl⟩ := hk a (by simp)
    simp only [R] at h1
    rw [ints_RL h2 fun x hx => hk x (List.mem_cons_of_mem _ hx), h1]
    rfl
theorem run_eqItems_int {P : Program} (w : World) (d : Nat) {e : TypeId} {k : IntKind} (he : P.underlying e = some (.int k)) (xs ys : List Int) : ∀ (is : List Nat), (∀ i ∈ is, i < xs.length ∧ i < ys.length) →
    (Op.eqItems (d + 1) e 1 (xs.map (Value.int k)).toArray (ys.map (Value.int k)).toArray is).run P w = .ok (decide (∀ i ∈ is, xs[i]? = ys[i]?)) w
  | [], _ => by simp [Op.eqItems]
  | i :: is, h => by
    obtain ⟨h1, h2⟩ := h i (by simp)
    have hp : P.plainKey e = true := by simp [Program.plainKey, he]
    have ih := run_eqItems_int w d he xs ys is fun j hj => h j (List.mem_cons_of_mem _ hj)
    simp only [Op.eqItems, Sem.run_bind, Nat.mul_one, run_part_plain w hp (xs := (xs.map (Value.int k)).toArray) (off := i) (v := .int k xs[i]) (by simp [h1]), run_part_plain w hp (xs := (ys.map (Value.int k)).toArray) (off := i) (v := .int k ys[i]) (by simp [h2]), Result.andThen_ok,
      run_equalIn_int w d e k k _ _ he]
    by_cases hxy : xs[i] = ys[i]
    · simp only [hxy, beq_self_eq_true, Bool.not_true, Bool.false_eq_true, if_false, ih]
      congr 1
      simp [h1, h2, hxy]
    · have hb : (xs[i] == ys[i]) = false := by simpa using hxy
      simp only [hb, Bool.not_false, if_true, Sem.run_pure]
      congr 1
      simp [h1, h2, hxy]
theorem run_equal_ints {P : Program} (w : World) {t e : TypeId} {n : Nat} {k : IntKind} (ht : P.underlying t = some (.array n e)) (hc : P.cellsOf e = 1) (he : P.underlying e = some (.int k)) (xs ys : List Int) (hx : xs.length = n) (hy : ys.length = n) :
    (Op.equalIn 10000 t (.agg (xs.map (Value.int k)).toArray) (.agg (ys.map (Value.int k)).toArray)).run P w = .ok (decide (xs = ys)) w := by
  obtain ⟨i, hi⟩ := info_of_underlying he
  rw [show (10000 : Nat) = 9998 + 1 + 1 from rfl, run_equalIn_array w (9998 + 1) _ _ ht hi, hc, run_eqItems_int w 9998 he xs ys _ (by intro i hi; rw [List.mem_range] at hi; omega)]
  congr 1
  rw [Bool.eq_iff_iff, decide_eq_true_iff, decide_eq_true_iff]
  constructor
  · intro h
    apply List.ext_getElem? 
    intro j
    by_cases hj : j < n
    · exact h j (List.mem_range.2 hj)
    · rw [List.getElem?_eq_none (by omega), List.getElem?_eq_none (by omega)]
  · rintro rfl j _; rfl
def binO (P : Program) (t : TypeId) (op : BinOp) : AV → AV → Prop × AV
  | .v (.int k x), .v (.int k' y) => match op with
    | .shl => (0 ≤ y, .v (.int k (k.wrap (x * 2 ^ (min y.toNat k.bits)))))
    | .shr => (0 ≤ y, .v (.int k (x.fdiv (2 ^ (min y.toNat k.bits)))))
    | .add => match k with
      | .i64 => (k' = .i64 ∧ inI (x + y), int (x + y))
      | k => (k' = k, .v (.int k (k.wrap (x + y))))
    | .sub => match k with
      | .i64 => (k' = .i64 ∧ inI (x - y), int (x - y))
      | k => (k' = k, .v (.int k (k.wrap (x - y))))
    | .mul => match k with
      | .i64 => (k' = .i64 ∧ inI (x * y), int (x * y))
      | k => (k' = k, .v (.int k (k.wrap (x * y))))
    | .quo => (k' = k ∧ y ≠ 0, .v (.int k (k.wrap (x.tdiv y))))
    | .rem => (k' = k ∧ y ≠ 0, .v (.int k (x.tmod y)))
    | .and => (k' = k, .v (.int k (bits .and k x y)))
    | .or => (k' = k, .v (.int k (bits .or k x y)))
    | .xor => (k' = k, .v (.int k (bits .xor k x y)))
    | .andNot => (k' = k, .v (.int k (bits .andNot k x y)))
    | .eql => (k' = k, boo (decide (x = y)))
    | .neq => (k' = k, boo (decide (x ≠ y)))
    | .lss => (k' = k, boo (decide (x < y)))
    | .leq => (k' = k, boo (decide (x ≤ y)))
    | .gtr => (k' = k, boo (decide (y < x)))
    | .geq => (k' = k, boo (decide (y ≤ x)))
  | .v (.bool x), .v (.bool y) => match op with
    | .eql => (P.underlying t = some .bool, boo (x == y))
    | .neq => (P.underlying t = some .bool, boo (x != y))
    | _ => (False, .bad)
  | .v (.string x), .v (.string y) => match op with
    | .eql => (True, boo (decide (x.data.toList = y.data.toList)))
    | .neq => (True, boo (decide (x.data.toList ≠ y.data.toList)))
    | .add => (x.size + y.size ≤ 9223372036854775807, .v (.string (x ++ y)))
    | _ => (False, .bad)
  | .agg as, .agg bs => match op with
    | .eql => (aggOk P t as bs, boo (aggEq as bs))
    | .neq => (aggOk P t as bs, boo (!aggEq as bs))
    | _ => (False, .bad)
  | _, _ => (False, .bad)

theorem wrapI (n : Int) (h : inI n) : IntKind.i64.wrap n = n := by
  unfold inI at h
  rw [IntKind.wrap_i64]; omega

theorem binO_sound (P : Program) (t : TypeId) (op : BinOp) (x y : Operand) (A B : AV) (u v : Value) (γ : Gh) (hA : R γ false A u) (hB : R γ false B v) (hk : (binO P t op A B).1) :
    ∃ r, (eqGuard op t x y u v).run P γ.w = .ok () γ.w ∧ (binOp op t u v).run P γ.w = .ok r γ.w ∧ R γ false (binO P t op A B).2 r := by
  cases A with
  | v a =>
    cases B with
    | v b =>
      simp only [R] at hA hB
      subst hA; subst hB
      cases u with
      | int k a =>
        cases v with
        | int k' b =>
          refine ⟨(match (binO P t op (.v (.int k a)) (.v (.int k' b))).2 with | .v z => z | _ => undef), by rw [eqGuard_at_int]; rfl, ?_⟩
          cases op <;> simp only [binO] at hk ⊢
          case shl => exact ⟨by simp only [binOp_shl, Op.shift, if_neg (show ¬ b < 0 by omega)]; rfl, by simp [R]⟩
          case shr => exact ⟨by simp only [binOp_shr, Op.shift, if_neg (show ¬ b < 0 by omega)]; rfl, by simp [R]⟩
          case add =>
            cases k <;> simp only at hk ⊢ <;> first
              | (obtain ⟨rfl, hi⟩ := hk; simp only [binOp_add, Op.intArith, wrapI _ hi]; exact ⟨rfl, by simp [R, int]⟩)
              | (subst hk; simp only [binOp_add, Op.intArith]; exact ⟨rfl, by simp [R]⟩)
          case sub =>
            cases k <;> simp only at hk ⊢ <;> first
              | (obtain ⟨rfl, hi⟩ := hk; simp only [binOp_sub, Op.intArith, wrapI _ hi]; exact ⟨rfl, by simp [R, int]⟩)
              | (subst hk; simp only [binOp_sub, Op.intArith]; exact ⟨rfl, by simp [R]⟩)
          case mul =>
            cases k <;> simp only at hk ⊢ <;> first
              | (obtain ⟨rfl, hi⟩ := hk; simp only [binOp_mul, Op.intArith, wrapI _ hi]; exact ⟨rfl, by simp [R, int]⟩)
              | (subst hk; simp only [binOp_mul, Op.intArith]; exact ⟨rfl, by simp [R]⟩)
          case quo => obtain ⟨rfl, hb⟩ := hk; simp only [binOp_quo, Op.intDiv, if_neg hb]; exact ⟨rfl, by simp [R]⟩
          case rem => obtain ⟨rfl, hb⟩ := hk; simp only [binOp_rem, Op.intDiv, if_neg hb]; exact ⟨rfl, by simp [R]⟩
          case and => subst hk; simp only [binOp_and, intBits_and]; exact ⟨rfl, by simp [R]⟩
          case or => subst hk; simp only [binOp_or, intBits_or]; exact ⟨rfl, by simp [R]⟩
          case xor => subst hk; simp only [binOp_xor, intBits_xor]; exact ⟨rfl, by simp [R]⟩
          case andNot => subst hk; simp only [binOp_andNot, intBits_andNot]; exact ⟨rfl, by simp [R]⟩
          case eql => subst hk; simp only [binOp_eql]; exact ⟨by simp only [boo, Sem.run_pure]; congr 2, by simp [R, boo]⟩
          case neq => subst hk; simp only [binOp_neq]; exact ⟨by simp only [boo, Sem.run_pure]; congr 2; simp [bne]; rfl, by simp [R, boo]⟩
          case lss => subst hk; simp only [binOp_lss]; exact ⟨rfl, by simp [R, boo]⟩
          case leq => subst hk; simp only [binOp_leq]; exact ⟨rfl, by simp [R, boo]⟩
          case gtr => subst hk; simp only [binOp_gtr]; exact ⟨rfl, by simp [R, boo]⟩
          case geq => subst hk; simp only [binOp_geq]; exact ⟨rfl, by simp [R, boo]⟩
        | _ => simp [binO] at hk
      | bool a =>
        cases v with
        | bool b =>
          have he : ∀ w : World, P.underlying t = some .bool → (Op.equal t (.bool a) (.bool b)).run P w = .ok (a == b) w := fun w h => run_equalIn_bool' w 9999 t a b h
          cases op <;> simp only [binO] at hk ⊢ <;> first | exact hk.elim | skip
          · exact ⟨.bool (a == b), by rw [eqGuard_at_bool]; rfl, by simp only [binOp, Sem.run_bind, he _ hk]; rfl, by simp only [R, boo]⟩
          · exact ⟨.bool (a != b), by rw [eqGuard_at_bool]; rfl, by simp only [binOp, Sem.run_bind, he _ hk]; rfl, by simp only [R, boo]⟩
        | _ => simp [binO] at hk
      | string a =>
        cases v with
        | string b =>
          cases op <;> simp only [binO] at hk ⊢ <;> first | exact hk.elim | skip
          · exact ⟨.string (a ++ b), by rw [eqGuard_at_string]; rfl, by rw [binOp_string_add]; simp only [Op.stringOp]; rw [if_neg (by simp only [IntKind.max_i64]; omega)]; rfl, by simp only [R]⟩
          · exact ⟨_, by rw [eqGuard_at_string]; rfl, by rw [binOp_string_eql]; rfl, by simp only [R, boo, ByteArray.toList_eq]; congr 1; rw [Bool.eq_iff_iff]; simp⟩
          · exact ⟨_, by rw [eqGuard_at_string]; rfl, by rw [binOp_string_neq]; rfl, by simp only [R, boo, ByteArray.toList_eq]; congr 1; rw [Bool.eq_iff_iff]; simp⟩
        | _ => simp [binO] at hk
      | _ => simp [binO] at hk
    | _ => cases a <;> exact hk.elim
  | agg as =>
    cases B with
    | agg bs =>
      simp only [R] at hA hB
      obtain ⟨us, rfl, _, hu⟩ := hA
      obtain ⟨vs, rfl, _, hv⟩ := hB
      have key : aggOk P t as bs → (eqGuard op t x y (.agg us.toArray) (.agg vs.toArray)).run P γ.w = .ok () γ.w ∧ (Op.equalIn 10000 t (.agg us.toArray) (.agg vs.toArray)).run P γ.w = .ok (aggEq as bs) γ.w := by
        rintro ⟨hg, h⟩
        refine ⟨run_eqGuard_agg γ.w op t x y _ _ hg, ?_⟩
        have deep : deepOk P t as bs → (Op.equalIn 10000 t (.agg us.toArray) (.agg vs.toArray)).run P γ.w = .ok (aggEq as bs) γ.w := by
          rintro ⟨hd, ha, hb, ⟨xs, rfl⟩, ⟨ys, rfl⟩⟩
          have io : ∀ zs : List UInt8, intsOk .u8 (zs.map fun b => AV.v (.int .u8 b.toNat)) := fun zs x hx => by
            obtain ⟨b, _, rfl⟩ := List.mem_map.1 hx; exact ⟨_, rfl⟩
          have eI : ∀ zs : List UInt8, ((zs.map fun b => AV.v (.int .u8 b.toNat)).map intA).map (Value.int .u8) = zs.map cell8 := fun zs => by
            simp only [List.map_map]; rfl
          rw [ints_RL hu (io xs), ints_RL hv (io ys), eI, eI, run_equal_u8 γ.w hd xs ys (by simpa using ha) (by simpa using hb)]
          congr 1
          rw [Bool.eq_iff_iff, aggEq, decide_eq_true_iff, decide_eq_true_iff]
          constructor
          · rintro rfl; rfl
          · intro e
            simp only [List.map_map] at e
            refine (List.map_inj_right fun x y e => ?_).1 e
            simp only [Function.comp, intA] at e
            exact UInt8.toNat_inj.1 (by omega)
        split at h
        · rename_i n e ht
          split at h
          · rename_i k he
            obtain ⟨hc, ha, hb, h⟩ := h
            rw [ints_RL hu h.1, ints_RL hv h.2]
            exact run_equal_ints γ.w ht hc he _ _ (by simpa using ha) (by simpa using hb)
          · exact deep h
        · exact deep h
        · exact h.elim
      cases op <;> simp only [binO] at hk ⊢ <;> first | exact hk.elim | skip
      · obtain ⟨k1, k2⟩ := key hk
        exact ⟨_, k1, by rw [run_eql_struct, k2]; rfl, by simp only [R, boo]⟩
      · obtain ⟨k1, k2⟩ := key hk
        exact ⟨_, k1, by rw [run_neq_struct, k2]; rfl, by simp only [R, boo]⟩
    | _ => exact hk.elim
  | _ => exact hk.elim

end Go.Eng

namespace Go.Eng
set_option linter.unusedSimpArgs false
set_option linter.unusedVariables false
open Go Go.RowKit

def upd {β : Type} (f : Nat → β) (k : Nat) (x : β) : Nat → β := fun i => if i = k then x else f i
theorem upd_same {β : Type} (f : Nat → β) (k : Nat) (x : β) : upd f k x k = x := by simp [upd]
theorem upd_ne {β : Type} (f : Nat → β) (k i : Nat) (x : β) (h : i ≠ k) : upd f k x i = f i := by simp [upd, h]

theorem cell_eq_of_heap {w w' : World} {b o : Nat} (h : w'.heap[b]? = w.heap[b]?) : w'.cell? ⟨b, o, none⟩ = w.cell? ⟨b, o, none⟩ := World.cell?_of_block (w := w) (w' := w') (a := ⟨b, o, none⟩) h

/-- A new block, of which nothing is known yet. -/
theorem le_alloc {γ : Gh} {hp : List (Nat × Ob)} (hr : HRel γ hp) (bs : γ.base ≤ γ.w.heap.size) (o : Obj) (im : Nat → Nat) (mu : Nat → Option Nat) (al tk : Nat → Bool)
    (him : ∀ b, b ≠ γ.w.heap.size → im b = γ.im b) (hmu : ∀ l b, γ.mu l = some b → mu l = some b) (htk : ∀ k, γ.tk k = true → tk k = true) (hal : ∀ k, γ.tk k = true → al k = γ.al k) :
    γ.le γ.nx ⟨γ.w.alloc o, γ.base, im, mu, γ.nx, al, tk⟩ where
  base := rfl
  below := (Below.refl _ _).alloc bs o
  im := fun b => by
    by_cases h : b = γ.w.heap.size
    · subst h; rw [hr.imz _ (Nat.le_refl _)]; exact Nat.zero_le _
    · exact Nat.le_of_eq (him b h).symm
  imo := fun b hb => him b (by omega)
  cell := fun b i hi => by
    have hb : b < γ.w.heap.size := by
      rcases Nat.lt_or_ge b γ.w.heap.size with h | h
      · exact h
      · rw [hr.imz b h] at hi; omega
    exact cell_eq_of_heap (Below.heap_alloc γ.w o b hb)
  nxl := Nat.le_refl _
  mu := fun l b _ hm => hmu l b hm
  tk := fun k _ ht => htk k ht
  al := fun k _ ht ha => (hal k ht).symm.trans ha
  tok := fun k b hk _ _ hm => by
    have hb := (hr.live k b hm).2
    refine ⟨him b (by omega), fun cur e hc => ⟨cur, ?_, rfl⟩⟩
    exact (Below.heap_alloc γ.w o b hb).trans hc

theorem hrel_keep {γ γ' : Gh} {hp : List (Nat × Ob)} (hr : HRel γ hp) (h : γ.le γ.nx γ') (l : Nat) (row : List AV) (hl : look hp l = some (.box row))
    (hh : ∀ b, γ.mu l = some b → γ'.w.heap[b]? = γ.w.heap[b]? ∧ γ'.im b = γ.im b) :
    ∃ b cur e, γ'.mu l = some b ∧ γ'.base ≤ b ∧ γ'.w.heap[b]? = some (.cells cur e (0, 0)) ∧ γ'.im b = 0 ∧ (∀ u ∈ cur.toList, u.oneCell' = true) ∧ RL γ' false row cur.toList := by
  obtain ⟨b, cur, e, h1, h2, h3, h4, h5, h6⟩ := hr.box l row hl
  have hlt : l < γ.nx := by
    rcases Nat.lt_or_ge l γ.nx with h | h
    · exact h
    · rw [(hr.fresh l h).2.1] at hl; cases hl
  obtain ⟨g1, g2⟩ := hh b h1
  exact ⟨b, cur, e, h.mu l b hlt h1, by rw [h.base]; exact h2, g1.trans h3, g2.trans h4, h5, RL_le h h6⟩

theorem hrel_raw {γ γ' : Gh} {hp : List (Nat × Ob)} (hr : HRel γ hp) (h : γ.le γ.nx γ') (l : Nat) (o : Obj) (hl : look hp l = some (.raw o))
    (hh : ∀ b, γ.mu l = some b → γ'.w.heap[b]? = γ.w.heap[b]? ∧ γ'.im b = γ.im b) : ∃ b, γ'.mu l = some b ∧ γ'.base ≤ b ∧ γ'.w.heap[b]? = some o ∧ γ'.im b = 0 := by
  obtain ⟨b, h1, h2, h3, h4⟩ := hr.raw l o hl
  have hlt : l < γ.nx := by
    rcases Nat.lt_or_ge l γ.nx with h | h
    · exact h
    · rw [(hr.fresh l h).2.1] at hl; cases hl
  exact ⟨b, h.mu l b hlt h1, by rw [h.base]; exact h2, (hh b h1).1.trans h3, (hh b h1).2.trans h4⟩

theorem look_lt {γ : Gh} {hp : List (Nat × Ob)} (hr : HRel γ hp) {l : Nat} (h : (look hp l).isSome = true) : l < γ.nx := by
  rcases Nat.lt_or_ge l γ.nx with h' | h'
  · exact h'
  · rw [(hr.fresh l h').2.1] at h; cases h

/-- A new box. -/
theorem ghost_box {γ : Gh} {hp : List (Nat × Ob)} (hr : HRel γ hp) (bs : γ.base ≤ γ.w.heap.size) {L : Nat} (hL : Free γ hp L) (cs : List AV) (vs : List Value) (h1 : ∀ u ∈ vs, u.oneCell' = true) (hv : RL γ false cs vs) (e : TypeId) :
    ∃ γ', γ'.w = γ.w.alloc (.cells vs.toArray e) ∧ Stp γ hp γ' ((L, .box cs) :: hp) L (L + 1) ∧ R γ' false (.loc L 0) (.pointer (some ⟨γ.w.heap.size, 0, none⟩)) := by
  obtain ⟨hLn, hLm, hLh, hLt⟩ := hL
  have hle : γ.le γ.nx ⟨γ.w.alloc (.cells vs.toArray e), γ.base, γ.im, upd γ.mu L (some γ.w.heap.size), γ.nx, γ.al, γ.tk⟩ :=
    le_alloc hr bs _ _ _ _ _ (fun _ _ => rfl) (fun l b hm => by rw [upd_ne _ _ _ _ (by intro h; subst h; rw [hLm] at hm; cases hm)]; exact hm) (fun _ h => h) (fun _ _ => rfl)
  refine ⟨_, rfl, ⟨hle, ⟨?_, ?_, ?_, ?_, ?_, ?_, ?_, ?_, hr.gok.le hle⟩, rfl, ?_⟩, ?_⟩
  · intro l row hl
    rw [look_cons] at hl
    by_cases h : L = l
    · rw [if_pos h] at hl
      cases hl
      refine ⟨γ.w.heap.size, vs.toArray, e, by rw [← h]; exact upd_same _ _ _, bs, heap_alloc_new _ _, hr.imz _ (Nat.le_refl _), by simpa using h1, ?_⟩
      simpa using RL_le hle hv
    · rw [if_neg h] at hl
      exact hrel_keep hr hle l row hl fun b hb => ⟨Below.heap_alloc _ _ _ ((hr.live l b hb).2), rfl⟩
  · intro k
    rw [look_cons]
    by_cases h : L = k
    · rw [if_pos h]
      subst h
      have h2 := hr.tok L
      rw [hLh] at h2
      constructor
      · intro ha; exact absurd (h2.1 ha) (by simp)
      · intro ha; cases ha
    · rw [if_neg h]; exact hr.tok k
  · intro l l' b hl hl' hm hm'
    have key : ∀ l, (look ((L, Ob.box cs) :: hp) l).isSome = true → upd γ.mu L (some γ.w.heap.size) l = some b → (l = L ∧ b = γ.w.heap.size) ∨ (l ≠ L ∧ (look hp l).isSome = true ∧ γ.mu l = some b ∧ b < γ.w.heap.size) := by
      intro l hl hm
      by_cases h : l = L
      · subst h; rw [upd_same] at hm; cases hm; exact .inl ⟨rfl, rfl⟩
      · rw [upd_ne _ _ _ _ h] at hm
        rw [look_cons, if_neg (Ne.symm h)] at hl
        exact .inr ⟨h, hl, hm, (hr.live l b hm).2⟩
    rcases key l hl hm with ⟨rfl, e1⟩ | ⟨n1, a1, a2, a3⟩ <;> rcases key l' hl' hm' with ⟨rfl, e2⟩ | ⟨n2, b1, b2, b3⟩
    · rfl
    · omega
    · omega
    · exact hr.inj l l' b a1 b1 a2 b2
  · intro l hl
    dsimp only at hl ⊢
    rw [upd_ne _ _ _ _ (by omega), look_cons, if_neg (by omega)]
    exact hr.fresh l hl
  · exact hr.tkal
  · intro b hb
    dsimp only at hb ⊢
    rw [World.size_alloc] at hb
    exact hr.imz b (by omega)
  · intro l b hm
    dsimp only at hm ⊢
    rw [World.size_alloc]
    by_cases h : l = L
    · subst h; rw [upd_same] at hm; cases hm; omega
    · rw [upd_ne _ _ _ _ h] at hm; have := hr.live l b hm; omega
  · intro l o hl
    rw [look_cons] at hl
    by_cases h : L = l
    · rw [if_pos h] at hl; cases hl
    · rw [if_neg h] at hl
      refine hrel_raw hr hle l o hl fun b hb => ?_
      have := (hr.live l b hb).2
      exact ⟨Below.heap_alloc _ _ _ this, by first | rfl | (dsimp only; exact upd_ne _ _ _ _ (by omega))⟩
  · rintro l ⟨g1, g2, g3, g4⟩ hn
    have hne : l ≠ L := by omega
    exact ⟨g1, by dsimp only; rw [upd_ne _ _ _ _ hne]; exact g2, by rw [look_cons, if_neg (Ne.symm hne)]; exact g3, g4⟩
  · simp only [R]
    exact ⟨trivial, hLn, γ.w.heap.size, upd_same _ _ _, rfl⟩

/-- A new row that stays as it is, its end ours: a slice with a token. -/
theorem ghost_sl {γ : Gh} {hp : List (Nat × Ob)} (hr : HRel γ hp) (bs : γ.base ≤ γ.w.heap.size) {L : Nat} (hL : Free γ hp L) (z n cap : Nat) (cs : List AV) (vs : List Value) (h1 : ∀ u ∈ vs, u.oneCell' = true) (hv : RL γ true cs vs) (e : TypeId)
    (arr : Array Value) (ha : arr.toList.take vs.length = vs) (hn : cs.length = n * z) (hc : n ≤ cap) (hm : cap ≤ maxLen) (hs : cap * z ≤ arr.size) :
    ∃ γ', γ'.w = γ.w.alloc (.cells arr e) ∧ Stp γ hp γ' ((L, .tok) :: hp) L (L + 1) ∧ R γ' false (.sl z cs n (some L)) (.slice (some ⟨γ.w.heap.size, 0, none⟩) n cap) := by
  obtain ⟨hLn, hLm, hLh, hLt⟩ := hL
  have hle : γ.le γ.nx ⟨γ.w.alloc (.cells arr e), γ.base, upd γ.im γ.w.heap.size (n * z), upd γ.mu L (some γ.w.heap.size), γ.nx, upd γ.al L true, upd γ.tk L true⟩ :=
    le_alloc hr bs _ _ _ _ _ (fun b hb => upd_ne _ _ _ _ hb) (fun l b hm => by rw [upd_ne _ _ _ _ (by intro h; subst h; rw [hLm] at hm; cases hm)]; exact hm)
      (fun k hk => by by_cases h : k = L; · subst h; exact upd_same _ _ _
                      · rw [upd_ne _ _ _ _ h]; exact hk) (fun k hk => upd_ne _ _ _ _ (by intro h; subst h; rw [hLt] at hk; cases hk))
  refine ⟨_, rfl, ⟨hle, ⟨?_, ?_, ?_, ?_, ?_, ?_, ?_, ?_, hr.gok.le hle⟩, rfl, ?_⟩, ?_⟩
  · intro l row hl
    rw [look_cons] at hl
    by_cases h : L = l
    · rw [if_pos h] at hl; cases hl
    · rw [if_neg h] at hl
      refine hrel_keep hr hle l row hl fun b hb => ?_
      have := (hr.live l b hb).2
      exact ⟨Below.heap_alloc _ _ _ this, upd_ne _ _ _ _ (by omega)⟩
  · intro k
    dsimp only
    rw [look_cons]
    by_cases h : L = k
    · subst h; simp [upd_same]
    · rw [if_neg h, upd_ne _ _ _ _ (Ne.symm h)]; exact hr.tok k
  · intro l l' b hl hl' hm hm'
    have key : ∀ l, (look ((L, Ob.tok) :: hp) l).isSome = true → upd γ.mu L (some γ.w.heap.size) l = some b → (l = L ∧ b = γ.w.heap.size) ∨ (l ≠ L ∧ (look hp l).isSome = true ∧ γ.mu l = some b ∧ b < γ.w.heap.size) := by
      intro l hl hm
      by_cases h : l = L
      · subst h; rw [upd_same] at hm; cases hm; exact .inl ⟨rfl, rfl⟩
      · rw [upd_ne _ _ _ _ h] at hm
        rw [look_cons, if_neg (Ne.symm h)] at hl
        exact .inr ⟨h, hl, hm, (hr.live l b hm).2⟩
    rcases key l hl hm with ⟨rfl, e1⟩ | ⟨n1, a1, a2, a3⟩ <;> rcases key l' hl' hm' with ⟨rfl, e2⟩ | ⟨n2, b1, b2, b3⟩
    · rfl
    · omega
    · omega
    · exact hr.inj l l' b a1 b1 a2 b2
  · intro l hl
    dsimp only at hl ⊢
    rw [upd_ne _ _ _ _ (by omega), look_cons, if_neg (by omega), upd_ne _ _ _ _ (by omega)]
    exact hr.fresh l hl
  · intro k hk
    dsimp only at hk ⊢
    by_cases h : k = L
    · subst h; exact upd_same _ _ _
    · rw [upd_ne _ _ _ _ h] at hk ⊢; exact hr.tkal k hk
  · intro b hb
    dsimp only at hb ⊢
    rw [World.size_alloc] at hb
    rw [upd_ne _ _ _ _ (by omega)]
    exact hr.imz b (by omega)
  · intro l b hm
    dsimp only at hm ⊢
    rw [World.size_alloc]
    by_cases h : l = L
    · subst h; rw [upd_same] at hm; cases hm; omega
    · rw [upd_ne _ _ _ _ h] at hm; have := hr.live l b hm; omega
  · intro l o hl
    rw [look_cons] at hl
    by_cases h : L = l
    · rw [if_pos h] at hl; cases hl
    · rw [if_neg h] at hl
      refine hrel_raw hr hle l o hl fun b hb => ?_
      have := (hr.live l b hb).2
      exact ⟨Below.heap_alloc _ _ _ this, by first | rfl | (dsimp only; exact upd_ne _ _ _ _ (by omega))⟩
  · rintro l ⟨g1, g2, g3, g4⟩ hn
    have hne : l ≠ L := by omega
    exact ⟨g1, by dsimp only; rw [upd_ne _ _ _ _ hne]; exact g2, by rw [look_cons, if_neg (Ne.symm hne)]; exact g3, by dsimp only; rw [upd_ne _ _ _ _ hne]; exact g4⟩
  · have hvl : vs.length = n * z := by rw [← RL_length hv, hn]
    simp only [R]
    refine ⟨_, cap, rfl, hc, hm, hn, by simp, ?_, ?_⟩
    · by_cases h0 : n = 0
      · exact .inl h0
      refine .inr ⟨γ.w.heap.size, 0, rfl, ?_, ?_⟩
      · rw [upd_same]; omega
      · refine RC_intro (RL_le hle hv) h1 fun j u hj => ?_
        rw [Nat.zero_add]
        dsimp only
        rw [World.cell?_alloc_new]
        rw [← ha, List.getElem?_take] at hj
        split at hj
        · simpa using hj
        · cases hj
    · intro k' e'
      cases e'
      refine ⟨rfl, hLn, upd_same _ _ _, fun _ => .inr ⟨γ.w.heap.size, 0, arr, e, rfl, upd_same _ _ _, bs, heap_alloc_new _ _, ?_, by omega⟩⟩
      dsimp only; rw [upd_same]; omega

end Go.Eng

namespace Go.Eng
set_option linter.unusedSimpArgs false
set_option linter.unusedVariables false
open Go Go.RowKit

/-- another object for a label -/
def rep {α : Type} : List (Nat × α) → Nat → α → List (Nat × α)
  | [], _, _ => []
  | (k, x) :: r, t, y => bif Nat.beq k t then (k, y) :: r else (k, x) :: rep r t y
theorem beq_ne {k t : Nat} (h : k ≠ t) : Nat.beq k t = false := by
  rcases hb : Nat.beq k t with _ | _
  · rfl
  · exact absurd (Nat.eq_of_beq_eq_true hb) h
theorem look_rep {α : Type} (l : List (Nat × α)) (k : Nat) (y : α) (t : Nat) (h : (look l k).isSome = true) : look (rep l k y) t = if k = t then some y else look l t := by
  induction l with
  | nil => simp [look] at h
  | cons e r ih =>
    obtain ⟨j, x⟩ := e
    by_cases hj : j = k
    · subst hj
      simp only [rep, Nat.beq_refl, cond_true, look_cons]
      split <;> rfl
    · rw [look_cons, if_neg hj] at h
      simp only [rep, beq_ne hj, cond_false, look_cons, ih h]
      by_cases h2 : j = t
      · subst h2; rw [if_pos rfl, if_neg (Ne.symm hj), if_pos rfl]
      · rw [if_neg h2]; split <;> simp_all

theorem RL_splice {γ : Gh} {p : Bool} {xs cs : List AV} {ys vs : List Value} (h : RL γ p xs ys) (h' : RL γ p cs vs) (o : Nat) : RL γ p (splice xs o cs) (splice ys o vs) := by
  unfold splice
  rw [RL_length h']
  exact RL_append (RL_take h o) (RL_append h' (RL_drop h _))

theorem below_row {γ : Gh} {b : Nat} (hb : γ.base ≤ b) (cs : Array Value) : Below γ.base γ.w (γ.w.setRow b cs) :=
  ⟨rfl, rfl, rfl, by simp, fun k hk => setRow_other γ.w b k cs (by omega)⟩

/-- What a label's block is. -/
theorem box_block {γ : Gh} {hp : List (Nat × Ob)} (hr : HRel γ hp) {id : Nat} {row : List AV} (hl : look hp id = some (.box row)) {b : Nat} (hb : γ.mu id = some b) :
    ∃ cur e, γ.base ≤ b ∧ γ.w.heap[b]? = some (.cells cur e (0, 0)) ∧ γ.im b = 0 ∧ (∀ u ∈ cur.toList, u.oneCell' = true) ∧ RL γ false row cur.toList := by
  obtain ⟨b', cur, e, h1, h2, h3, h4, h5, h6⟩ := hr.box id row hl
  rw [hb] at h1
  cases h1
  exact ⟨cur, e, h2, h3, h4, h5, h6⟩

/-- A store into a box. -/
theorem ghost_store {γ : Gh} {hp : List (Nat × Ob)} (hr : HRel γ hp) {id : Nat} {row : List AV} (hl : look hp id = some (.box row)) {b : Nat} (hb : γ.mu id = some b)
    (cur : Array Value) (e : TypeId) (hc : γ.w.heap[b]? = some (.cells cur e (0, 0))) (off : Nat) (cs : List AV) (vs : List Value) (h1 : ∀ u ∈ vs, u.oneCell' = true) (hv : RL γ false cs vs) (hf : off + cs.length ≤ row.length) :
    ∃ γ', γ'.w = γ.w.setRow b (cur.toList.take off ++ vs ++ cur.toList.drop (off + vs.length)).toArray ∧ Stp γ hp γ' (rep hp id (.box (splice row off cs))) 0 0 := by
  obtain ⟨cur', e', k1, k2, k3, k4, k5⟩ := box_block hr hl hb
  rw [hc] at k2
  cases k2
  obtain ⟨new, hnew⟩ : ∃ new, new = (cur.toList.take off ++ vs ++ cur.toList.drop (off + vs.length)).toArray := ⟨_, rfl⟩
  have hnl : new.toList = splice cur.toList off vs := by rw [hnew]; simp [splice, List.append_assoc]
  rw [← hnew]
  have hsz : new.size = cur.size := by
    have : new.toList.length = cur.toList.length := by
      rw [hnl]; exact length_splice _ _ _ (by rw [← RL_length hv, ← RL_length k5]; exact hf)
    simpa using this
  have hidlt : id < γ.nx := look_lt hr (by rw [hl]; rfl)
  have hother : ∀ k b', γ.al k = true → γ.mu k = some b' → b' ≠ b := by
    intro k b' ha hm heq
    subst heq
    have ht := (hr.tok k).1 ha
    have := hr.inj k id b' (by rw [ht]; rfl) (by rw [hl]; rfl) hm hb
    subst this
    rw [hl] at ht; cases ht
  have hle : γ.le γ.nx { γ with w := γ.w.setRow b new } := by
    refine ⟨rfl, below_row k1 _, fun _ => Nat.le_refl _, fun _ _ => rfl, fun b' o ho => ?_, Nat.le_refl _, fun _ _ _ h => h, fun _ _ h => h, fun _ _ _ h => h, fun k b' _ _ ha hm => ⟨rfl, fun c e hce => ?_⟩⟩
    · have : b' ≠ b := by intro h; subst h; omega
      exact cell_eq_of_heap (setRow_other _ _ _ _ this)
    · exact ⟨c, (setRow_other _ _ _ _ (hother k b' ha hm)).trans hce, rfl⟩
  refine ⟨_, rfl, ⟨hle, ⟨?_, ?_, ?_, ?_, hr.tkal, ?_, ?_, ?_, hr.gok.le hle⟩, rfl, ?_⟩⟩
  · intro l r hlr
    rw [look_rep _ _ _ _ (by rw [hl]; rfl)] at hlr
    by_cases h : id = l
    · subst h
      rw [if_pos rfl] at hlr
      cases hlr
      refine ⟨b, new, e, hb, k1, setRow_heap _ _ _ _ _ _ hc, k3, ?_, ?_⟩
      · intro u hu
        rw [hnl] at hu
        simp only [splice, List.mem_append] at hu
        rcases hu with hu | hu | hu
        · exact k4 u (List.mem_of_mem_take hu)
        · exact h1 u hu
        · exact k4 u (List.mem_of_mem_drop hu)
      · rw [hnl]; exact RL_le hle (RL_splice k5 hv off)
    · rw [if_neg h] at hlr
      refine hrel_keep hr hle l r hlr fun b' hb' => ⟨setRow_other _ _ _ _ ?_, rfl⟩
      intro heq
      subst heq
      exact h (hr.inj id l b' (by rw [hl]; rfl) (by rw [hlr]; rfl) hb hb')
  · intro k
    rw [look_rep _ _ _ _ (by rw [hl]; rfl)]
    dsimp only
    by_cases h : id = k
    · subst h
      rw [if_pos rfl, hr.tok id, hl]
      simp
    · rw [if_neg h]; exact hr.tok k
  · intro l l' b' h1 h2 h3 h4
    refine hr.inj l l' b' ?_ ?_ h3 h4
    · rw [look_rep _ _ _ _ (by rw [hl]; rfl)] at h1
      by_cases h : id = l
      · subst h; rw [hl]; rfl
      · rwa [if_neg h] at h1
    · rw [look_rep _ _ _ _ (by rw [hl]; rfl)] at h2
      by_cases h : id = l'
      · subst h; rw [hl]; rfl
      · rwa [if_neg h] at h2
  · intro l h
    refine ⟨(hr.fresh l h).1, ?_, (hr.fresh l h).2.2⟩
    have : id ≠ l := by intro e; subst e; dsimp only at h; omega
    rw [look_rep _ _ _ _ (by rw [hl]; rfl), if_neg this]
    exact (hr.fresh l h).2.1
  · intro b' h
    dsimp only at h ⊢
    rw [size_setRow] at h
    exact hr.imz b' h
  · intro l b' h
    dsimp only at h ⊢
    rw [size_setRow]
    exact hr.live l b' h
  · intro l o hlr
    rw [look_rep _ _ _ _ (by rw [hl]; rfl)] at hlr
    by_cases h : id = l
    · rw [if_pos h] at hlr; cases hlr
    · rw [if_neg h] at hlr
      refine hrel_raw hr hle l o hlr fun b' hb' => ⟨setRow_other _ _ _ _ ?_, rfl⟩
      intro heq
      subst heq
      exact h (hr.inj id l b' (by rw [hl]; rfl) (by rw [hlr]; rfl) hb hb')
  · rintro l ⟨g1, g2, g3, g4⟩ _
    refine ⟨g1, g2, ?_, g4⟩
    rw [look_rep _ _ _ _ (by rw [hl]; rfl), if_neg (by intro e; subst e; rw [hl] at g3; cases g3)]
    exact g3

/-- A token is given up. -/
theorem ghost_del {γ : Gh} {hp : List (Nat × Ob)} (hr : HRel γ hp) (k : Nat) :
    ∃ γ', γ'.w = γ.w ∧ Stp γ hp γ' (del hp k) 0 0 ∧ γ'.base = γ.base ∧ γ'.mu = γ.mu ∧ γ'.im = γ.im := by
  have hle : γ.le γ.nx { γ with al := upd γ.al k false } := by
    refine ⟨rfl, Below.refl _ _, fun _ => Nat.le_refl _, fun _ _ => rfl, fun _ _ _ => rfl, Nat.le_refl _, fun _ _ _ h => h, fun _ _ h => h, fun j _ _ h => ?_, fun _ _ _ _ _ _ => ⟨rfl, fun c _ h => ⟨c, h, rfl⟩⟩⟩
    dsimp only at h
    by_cases e : j = k
    · subst e; rw [upd_same] at h; cases h
    · rwa [upd_ne _ _ _ _ e] at h
  refine ⟨{ γ with al := upd γ.al k false }, rfl, ⟨hle, ⟨?_, ?_, ?_, ?_, ?_, hr.imz, hr.live, ?_, hr.gok.le hle⟩, rfl, ?_⟩, rfl, rfl, rfl⟩
  · intro l row h
    rw [look_del] at h
    split at h
    · cases h
    · exact hrel_keep hr hle l row h fun _ _ => ⟨rfl, rfl⟩
  · intro j
    dsimp only
    rw [look_del]
    by_cases e : k = j
    · subst e; simp [upd_same]
    · rw [if_neg e, upd_ne _ _ _ _ (Ne.symm e)]; exact hr.tok j
  · intro l l' b h1 h2 h3 h4
    rw [look_del] at h1 h2
    split at h1
    · cases h1
    split at h2
    · cases h2
    exact hr.inj l l' b h1 h2 h3 h4
  · intro l h
    refine ⟨(hr.fresh l h).1, ?_, (hr.fresh l h).2.2⟩
    rw [look_del, (hr.fresh l h).2.1]; split <;> rfl
  · intro j hj
    dsimp only at hj ⊢
    by_cases e : j = k
    · subst e; rw [upd_same] at hj; cases hj
    · rw [upd_ne _ _ _ _ e] at hj; exact hr.tkal j hj
  · intro l o h
    rw [look_del] at h
    split at h
    · cases h
    · exact hrel_raw hr hle l o h fun _ _ => ⟨rfl, rfl⟩
  · rintro l ⟨g1, g2, g3, g4⟩ _
    exact ⟨g1, g2, by rw [look_del]; split; · rfl
                      · exact g3, g4⟩

/-- An append in place. -/
theorem ghost_append {γ : Gh} {hp : List (Nat × Ob)} (hr : HRel γ hp) {L : Nat} (hL : Free γ hp L) {k : Nat} (hk : look hp k = some .tok) (z n m cap o : Nat) (cs ds : List AV) (vs : List Value) {b : Nat} (hb : γ.mu k = some b)
    (cur : Array Value) (e : TypeId) (hc : γ.w.heap[b]? = some (.cells cur e (0, 0))) (hbase : γ.base ≤ b) (him : γ.im b = o + n * z) (hcap : o + cap * z ≤ cur.size)
    (hcs : RC γ b o cs) (hn : cs.length = n * z) (h1 : ∀ u ∈ vs, u.oneCell' = true) (hv : RL γ true ds vs) (hm : ds.length = m * z) (hroom : n + m ≤ cap) (hmax : cap ≤ maxLen) :
    ∃ γ', γ'.w = γ.w.setRow b (cur.toList.take (o + n * z) ++ vs ++ cur.toList.drop (o + n * z + vs.length)).toArray ∧ Stp γ hp γ' ((L, .tok) :: del hp k) L (L + 1) ∧
      R γ' false (.sl z (cs ++ ds) (n + m) (some L)) (.slice (some ⟨b, o, none⟩) (n + m) cap) := by
  obtain ⟨hLn, hLm, hLh, hLt⟩ := hL
  obtain ⟨new, hnew⟩ : ∃ new, new = (cur.toList.take (o + n * z) ++ vs ++ cur.toList.drop (o + n * z + vs.length)).toArray := ⟨_, rfl⟩
  have hnl : new.toList = splice cur.toList (o + n * z) vs := by rw [hnew]; simp [splice, List.append_assoc]
  rw [← hnew]
  have hvl : vs.length = m * z := by rw [← RL_length hv, hm]
  have hmz : (n + m) * z ≤ cap * z := Nat.mul_le_mul_right _ hroom
  rw [Nat.add_mul] at hmz
  have hsz : new.size = cur.size := by
    have : new.toList.length = cur.toList.length := by
      rw [hnl]; exact length_splice _ _ _ (by simp; omega)
    simpa using this
  have hkL : k ≠ L := by intro e; subst e; rw [hk] at hLh; cases hLh
  have hblt : b < γ.w.heap.size := (hr.live k b hb).2
  have hother : ∀ l b', (look hp l).isSome = true → l ≠ k → γ.mu l = some b' → b' ≠ b := by
    intro l b' hl hne hm' heq
    subst heq
    exact hne (hr.inj l k b' hl (by rw [hk]; rfl) hm' hb)
  have hcell : ∀ i, i < o + n * z → (γ.w.setRow b new).cell? ⟨b, i, none⟩ = γ.w.cell? ⟨b, i, none⟩ := by
    intro i hi
    rw [cell_of_row _ b i new e (0, 0) (setRow_heap _ _ _ _ _ _ hc), cell_of_row _ b i cur e (0, 0) hc]
    rw [← Array.getElem?_toList, ← Array.getElem?_toList, hnl]
    unfold splice
    rw [List.getElem?_append_left (by simp; omega), List.getElem?_take, if_pos hi]
  have hle : γ.le γ.nx ⟨γ.w.setRow b new, γ.base, upd γ.im b (o + (n + m) * z), upd γ.mu L (some b), γ.nx, upd (upd γ.al k false) L true, upd γ.tk L true⟩ := by
    refine ⟨rfl, below_row hbase _, fun b' => ?_, fun b' hb' => upd_ne _ _ _ _ (by omega), fun b' i hi => ?_, Nat.le_refl _, fun l b' hl hm' => ?_, fun j hj ht => ?_, fun j hj ht ha => ?_, fun j b' hj ht ha hm' => ?_⟩
    · dsimp only
      by_cases h : b' = b
      · subst h; rw [upd_same, him, Nat.add_mul]; omega
      · rw [upd_ne _ _ _ _ h]; exact Nat.le_refl _
    · by_cases h : b' = b
      · subst h; exact hcell i (by omega)
      · exact cell_eq_of_heap (setRow_other _ _ _ _ h)
    · dsimp only; rw [upd_ne _ _ _ _ (by intro h; subst h; rw [hLm] at hm'; cases hm')]; exact hm'
    · dsimp only
      by_cases h : j = L
      · subst h; exact upd_same _ _ _
      · rw [upd_ne _ _ _ _ h]; exact ht
    · have hjL : j ≠ L := by intro h; subst h; rw [hLt] at ht; cases ht
      dsimp only at ha
      rw [upd_ne _ _ _ _ hjL] at ha
      by_cases h : j = k
      · subst h; rw [upd_same] at ha; cases ha
      · rwa [upd_ne _ _ _ _ h] at ha
    · have hjL : j ≠ L := by intro h; subst h; rw [hLt] at ht; cases ht
      dsimp only at ha ⊢
      rw [upd_ne _ _ _ _ hjL] at ha
      have hjk : j ≠ k := by intro h; subst h; rw [upd_same] at ha; cases ha
      rw [upd_ne _ _ _ _ hjk] at ha
      have hne := hother j b' (by rw [(hr.tok j).1 ha]; rfl) hjk hm'
      exact ⟨upd_ne _ _ _ _ hne, fun c e' hce => ⟨c, (setRow_other _ _ _ _ hne).trans hce, rfl⟩⟩
  refine ⟨_, rfl, ⟨hle, ⟨?_, ?_, ?_, ?_, ?_, ?_, ?_, ?_, hr.gok.le hle⟩, rfl, ?_⟩, ?_⟩
  · intro l row h
    rw [look_cons] at h
    by_cases hl : L = l
    · rw [if_pos hl] at h; cases h
    · rw [if_neg hl, look_del] at h
      by_cases hlk : k = l
      · rw [if_pos hlk] at h; cases h
      rw [if_neg hlk] at h
      refine hrel_keep hr hle l row h fun b' hb' => ?_
      have hne := hother l b' (by rw [h]; rfl) (Ne.symm hlk) hb'
      exact ⟨setRow_other _ _ _ _ hne, upd_ne _ _ _ _ hne⟩
  · intro j
    dsimp only
    rw [look_cons]
    by_cases hj : L = j
    · subst hj; rw [upd_same]; simp
    · rw [if_neg hj, upd_ne _ _ _ _ (Ne.symm hj), look_del]
      by_cases hjk : k = j
      · subst hjk; rw [upd_same]; simp
      · rw [if_neg hjk, upd_ne _ _ _ _ (Ne.symm hjk)]; exact hr.tok j
  · intro l l' b' g1 g2 g3 g4
    dsimp only at g3 g4
    rw [look_cons, look_del] at g1 g2
    have key : ∀ l, (if L = l then some Ob.tok else if k = l then none else look hp l).isSome = true → upd γ.mu L (some b) l = some b' → (l = L ∧ b' = b) ∨ (l ≠ L ∧ l ≠ k ∧ (look hp l).isSome = true ∧ γ.mu l = some b') := by
      intro l g1 g3
      by_cases h : l = L
      · subst h; rw [upd_same] at g3; cases g3; exact .inl ⟨rfl, rfl⟩
      · rw [upd_ne _ _ _ _ h] at g3
        rw [if_neg (Ne.symm h)] at g1
        by_cases h2 : k = l
        · rw [if_pos h2] at g1; cases g1
        · rw [if_neg h2] at g1; exact .inr ⟨h, Ne.symm h2, g1, g3⟩
    rcases key l g1 g3 with ⟨rfl, e1⟩ | ⟨n1, n1', a1, a2⟩ <;> rcases key l' g2 g4 with ⟨rfl, e2⟩ | ⟨n2, n2', b1, b2⟩
    · rfl
    · exact absurd e1 (hother l' b' b1 n2' b2)
    · exact absurd e2 (hother l b' a1 n1' a2)
    · exact hr.inj l l' b' a1 b1 a2 b2
  · intro l h
    dsimp only at h ⊢
    rw [upd_ne _ _ _ _ (by omega), look_cons, if_neg (by omega), look_del, (hr.fresh l (by omega)).2.1, upd_ne _ _ _ _ (by omega)]
    exact ⟨(hr.fresh l (by omega)).1, by split <;> rfl, (hr.fresh l (by omega)).2.2⟩
  · intro j hj
    dsimp only at hj ⊢
    by_cases h : j = L
    · subst h; exact upd_same _ _ _
    · rw [upd_ne _ _ _ _ h] at hj ⊢
      by_cases h2 : j = k
      · subst h2; rw [upd_same] at hj; cases hj
      · rw [upd_ne _ _ _ _ h2] at hj; exact hr.tkal j hj
  · intro b' h
    dsimp only at h ⊢
    rw [size_setRow] at h
    rw [upd_ne _ _ _ _ (by omega)]
    exact hr.imz b' h
  · intro l b' h
    dsimp only at h ⊢
    rw [size_setRow]
    by_cases hl : l = L
    · subst hl; rw [upd_same] at h; cases h; exact ⟨(hr.live _ _ hb).1, hblt⟩
    · rw [upd_ne _ _ _ _ hl] at h; exact hr.live l b' h
  · intro l o' h
    rw [look_cons] at h
    by_cases hl : L = l
    · rw [if_pos hl] at h; cases h
    · rw [if_neg hl, look_del] at h
      by_cases hlk : k = l
      · rw [if_pos hlk] at h; cases h
      rw [if_neg hlk] at h
      refine hrel_raw hr hle l o' h fun b' hb' => ?_
      have hne := hother l b' (by rw [h]; rfl) (Ne.symm hlk) hb'
      exact ⟨setRow_other _ _ _ _ hne, upd_ne _ _ _ _ hne⟩
  · rintro l ⟨g1, g2, g3, g4⟩ hn
    have hne : l ≠ L := by omega
    refine ⟨g1, by dsimp only; rw [upd_ne _ _ _ _ hne]; exact g2, ?_, by dsimp only; rw [upd_ne _ _ _ _ hne]; exact g4⟩
    rw [look_cons, if_neg (Ne.symm hne), look_del]
    split
    · rfl
    · exact g3
  · simp only [R]
    refine ⟨_, cap, rfl, hroom, hmax, by rw [List.length_append, hn, hm, Nat.add_mul], by simp, ?_, ?_⟩
    · refine .inr ⟨b, o, rfl, by rw [upd_same]; exact Nat.le_refl _, ?_⟩
      refine RC_of_get fun i x hx => ?_
      rw [List.getElem?_append] at hx
      by_cases hi : i < cs.length
      · rw [if_pos hi] at hx
        obtain ⟨u, g1, g2, g3⟩ := RC_get hcs i x hx
        exact ⟨u, (hcell (o + i) (by omega)).trans g1, g2, R_le hle g3⟩
      · rw [if_neg hi] at hx
        obtain ⟨u, g1, g2⟩ := RL_get hv _ x hx
        refine ⟨u, ?_, h1 u (List.mem_of_getElem? g1), R_le hle g2⟩
        rw [cell_of_row _ b _ new e (0, 0) (setRow_heap _ _ _ _ _ _ hc), ← Array.getElem?_toList, hnl]
        unfold splice
        rw [List.getElem?_append_right (by simp; omega), List.getElem?_append_left (by have := (List.getElem?_eq_some_iff.1 g1).1; simp; omega), ← g1]
        congr 1
        simp
        omega
    · intro k' e'
      cases e'
      exact ⟨rfl, hLn, upd_same _ _ _, fun _ => .inr ⟨b, o, new, e, rfl, upd_same _ _ _, hbase, setRow_heap _ _ _ _ _ _ hc, upd_same _ _ _, by rw [hsz]; exact hcap⟩⟩

end Go.Eng

namespace Go.Eng
set_option linter.unusedSimpArgs false
set_option linter.unusedVariables false
open Go Go.RowKit

theorem run_sizeOf {P : Program} {t : TypeId} (h : 0 < P.cellsOf t) (w : World) : (sizeOf t).run P w = .ok (P.cellsOf t) w := by
  unfold Program.cellsOf at h ⊢
  cases hi : P.info? t with
  | none => rw [hi] at h; simp at h
  | some i => simp [sizeOf, typeInfo, hi]
def aggD : TypeDesc → Bool
  | .struct _ => true
  | .array _ _ => true
  | _ => false
theorem run_isAgg {P : Program} {t : TypeId} {d : TypeDesc} (h : P.underlying t = some d) (w : World) : (isAgg t).run P w = .ok (aggD d) w := by
  unfold isAgg
  simp only [Sem.run_bind, run_underlying h, Result.andThen_ok]
  cases d <;> rfl

theorem Stp.widen {γ γ' : Gh} {hp hp' : List (Nat × Ob)} (h : Stp γ hp γ' hp' 0 0) (a b : Nat) : Stp γ hp γ' hp' a b := ⟨h.le, h.hr, h.nx, fun l hl _ => h.free l hl (by omega)⟩
def rowOf (hp : List (Nat × Ob)) (id : Nat) : List AV := match look hp id with
  | some (.box row) => row
  | _ => []
/-- the cells that an address leads to -/
def placeA (hp : List (Nat × Ob)) : AV → List AV
  | .loc id off => (rowOf hp id).drop off
  | .ptr cs => cs
  | _ => []

theorem rowOf_some {hp : List (Nat × Ob)} {id : Nat} (h : 0 < (rowOf hp id).length) : look hp id = some (.box (rowOf hp id)) := by
  unfold rowOf at h ⊢
  split
  · assumption
  · rename_i h'
    split at h
    · rename_i row hr; exact absurd hr (h' row)
    · simp at h

theorem place_read {γ : Gh} {hp : List (Nat × Ob)} (hr : HRel γ hp) {A : AV} {y : Value} (h : R γ false A y) (hl : 0 < (placeA hp A).length) :
    ∃ (b o : Nat) (vs : List Value), y = .pointer (some ⟨b, o, none⟩) ∧ RL γ false (placeA hp A) vs ∧ (∀ u ∈ vs, u.oneCell' = true) ∧ ∀ (j : Nat) (u : Value), vs[j]? = some u → γ.w.cell? ⟨b, o + j, none⟩ = some u := by
  cases A with
  | loc id off =>
    simp only [R] at h
    obtain ⟨_, _, b, hb, rfl⟩ := h
    simp only [placeA] at hl ⊢
    have hrow := rowOf_some (hp := hp) (id := id) (by simp at hl; omega)
    obtain ⟨cur, e, _, hc, _, h1, hv⟩ := box_block hr hrow hb
    refine ⟨b, off, cur.toList.drop off, rfl, RL_drop hv off, fun u hu => h1 u (List.mem_of_mem_drop hu), fun j u hu => ?_⟩
    rw [List.getElem?_drop] at hu
    rw [cell_of_row _ b _ cur e (0, 0) hc, ← Array.getElem?_toList, hu]
  | ptr cs =>
    simp only [R] at h
    obtain ⟨b, o, rfl, _, hc⟩ := h
    obtain ⟨vs, hv, h1, hx⟩ := RC_values hc
    exact ⟨b, o, vs, rfl, RL_np _ _ hv, h1, hx⟩
  | _ => simp [placeA] at hl

def loadA (d : TypeDesc) (sz : Nat) (cs : List AV) : AV := bif aggD d then .agg (cs.take sz) else cs.getD 0 .bad
theorem getD_of_lt {α : Type} (l : List α) (i : Nat) (x : α) (h : i < l.length) : l[i]? = some (l.getD i x) := by
  rw [List.getD_eq_getElem?_getD, List.getElem?_eq_getElem h]; rfl
theorem R_loadA {γ : Gh} {p : Bool} {cs : List AV} {vs : List Value} (h : RL γ p cs vs) (h1 : ∀ u ∈ vs, u.oneCell' = true) (d : TypeDesc) (sz : Nat) (hs : 0 < sz) (hl : sz ≤ cs.length) :
    R γ p (loadA d sz cs) (if aggD d then .agg (vs.take sz).toArray else vs.getD 0 undef) := by
  unfold loadA
  cases aggD d with
  | true =>
    simp only [cond_true, if_true, R]
    exact ⟨vs.take sz, rfl, fun u hu => h1 u (List.mem_of_mem_take hu), RL_take h sz⟩
  | false =>
    simp only [cond_false, if_false, Bool.false_eq_true]
    obtain ⟨y, hy, r⟩ := RL_get h 0 _ (getD_of_lt cs 0 .bad (by omega))
    have e : vs.getD 0 undef = y := by rw [List.getD_eq_getElem?_getD, hy]; rfl
    rw [e]
    exact r

theorem run_loadVar {P : Program} {t : TypeId} {d : TypeDesc} (hd : P.underlying t = some d) (hz : 0 < P.cellsOf t) (w : World) (b o : Nat) (vs : List Value) (hl : P.cellsOf t ≤ vs.length)
    (hc : ∀ (j : Nat) (u : Value), vs[j]? = some u → w.cell? ⟨b, o + j, none⟩ = some u) :
    (loadVar t ⟨b, o, none⟩).run P w = .ok (if aggD d then .agg (vs.take (P.cellsOf t)).toArray else vs.getD 0 undef) w := by
  unfold loadVar
  simp only [Sem.run_bind, run_isAgg hd, Result.andThen_ok]
  cases ha : aggD d with
  | true =>
    have := run_loadCells_list (P := P) w ⟨b, o, none⟩ (vs.take (P.cellsOf t)) (fun j u hj => by
      rw [List.getElem?_take] at hj
      split at hj
      · rw [Addr.add_lit]; exact hc j u hj
      · cases hj)
    rw [List.length_take, Nat.min_eq_left hl] at this
    simp only [if_true, Sem.run_bind, run_sizeOf hz, Result.andThen_ok, this]
    rfl
  | false =>
    have h0 := hc 0 _ (getD_of_lt vs 0 undef (by omega))
    simp only [Bool.false_eq_true, if_false]
    rw [run_load]
    rw [Nat.add_zero] at h0
    rw [h0]

section ops
variable {P : Program} {o : Oper} {s : S}

def loadO (P : Program) (s : S) (t : TypeId) (A : AV) : Out := match P.underlying t with
  | some d => s.o (0 < P.cellsOf t ∧ P.cellsOf t ≤ (placeA s.hp A).length) (loadA d (P.cellsOf t) (placeA s.hp A))
  | none => s.no
theorem sound_load {t : TypeId} {x : Operand} (ho : o.op = .load t x) : (loadO P s t (gl (s.ev x))).Sound P o s := by
  unfold loadO
  split
  · rename_i d hd
    refine sound_val fun ⟨h1, h2⟩ γ a hr => ?_
    obtain ⟨b, off, vs, hy, hv, h1', hc⟩ := place_read hr.hr (gl_R hr.hr.gok (hr.ev x)) (by omega)
    refine ⟨_, ?_, R_loadA hv h1' d _ h1 h2⟩
    unfold execOp
    simp only [ho, hy, Instr.loadAt, Instr.sureAddr, Sem.run_bind, Sem.run_pure, Result.andThen_ok, run_loadVar hd h1 γ.w b off vs (by rw [← RL_length hv]; exact h2) hc]
  · exact sound_no

def cellsA : AV → List AV
  | .agg cs => cs
  | x => [x]
def oneA : AV → Bool
  | .bad => false
  | .v x => x.oneCell'
  | .tup _ => false
  | _ => true
theorem cells_R {γ : Gh} {p : Bool} {x : AV} {y : Value} (h : R γ p x y) (h1 : oneA x = true) : RL γ p (cellsA x) y.cells.toList ∧ ∀ u ∈ y.cells.toList, u.oneCell' = true := by
  cases x with
  | bad => cases h1
  | tup vs => cases h1
  | agg cs =>
    simp only [R] at h
    obtain ⟨vs, rfl, h2, h3⟩ := h
    simp only [cellsA, Value.cells]
    exact ⟨by simpa using h3, by simpa using h2⟩
  | v x =>
    simp only [R] at h
    subst h
    simp only [oneA] at h1
    have hc : y.cells = #[y] := by cases y <;> first | rfl | cases h1
    simp only [cellsA, hc]
    exact ⟨RL_one (by simp only [R]), by simpa using h1⟩
  | sl z cs n k =>
    have h' := h
    simp only [R] at h
    obtain ⟨a, cap, rfl, _⟩ := h
    exact ⟨RL_one h', by simp [Value.cells, Value.oneCell']⟩
  | ptr cs =>
    have h' := h
    simp only [R] at h
    obtain ⟨b, off, rfl, _⟩ := h
    exact ⟨RL_one h', by simp [Value.cells, Value.oneCell']⟩
  | loc id off =>
    have h' := h
    simp only [R] at h
    obtain ⟨_, _, b, _, rfl⟩ := h
    exact ⟨RL_one h', by simp [Value.cells, Value.oneCell']⟩
  | bsl z id off n =>
    have h' := h
    simp only [R] at h
    obtain ⟨_, _, b, a, cap, _, rfl, _⟩ := h
    exact ⟨RL_one h', by simp [Value.cells, Value.oneCell']⟩
  | csl z id off n c =>
    have h' := h
    simp only [R] at h
    obtain ⟨_, _, b, _, rfl, _⟩ := h
    exact ⟨RL_one h', by simp [Value.cells, Value.oneCell']⟩
  | fn f fs cs =>
    have h' := h
    simp only [R] at h
    obtain ⟨us, vs, rfl, _⟩ := h
    exact ⟨RL_one h', by simp [Value.cells, Value.oneCell']⟩
  | ifc t x =>
    have h' := h
    simp only [R] at h
    obtain ⟨u, rfl, _⟩ := h
    exact ⟨RL_one h', by simp [Value.cells, Value.oneCell']⟩

def boxO (s : S) (ok : Prop) (cs : List AV) : Out := ⟨ok, .loc s.nx 0, (s.nx, .box cs) :: s.hp, s.nx + 1⟩
theorem sound_box {t : TypeId} {x : Operand} (ho : o.op = .box t x) : (boxO s (oneA (s.ev x) = true) (cellsA (s.ev x))).Sound P o s := by
  intro h γ a hr hf
  obtain ⟨hv, h1⟩ := cells_R (hr.ev x) h
  obtain ⟨γ', hw, hst, hR⟩ := ghost_box hr.hr hr.bs (hf s.nx (Nat.le_refl _) (Nat.lt_succ_self _)) _ _ h1 hv t
  refine ⟨.pointer (some ⟨γ.w.heap.size, 0, none⟩), γ', .inl ?_, hst, hR⟩
  unfold execOp
  simp only [ho, Instr.box, newVar, newRow, Sem.run_bind, Sem.run_pure, Result.andThen_ok, run_newObj, hw]
  rfl

def zeroC (P : Program) (t : TypeId) : List AV := match (P.info? t).bind (·.zero) with
  | some z => z.cells.toList.map .v
  | none => []
def zeroOk (P : Program) (t : TypeId) : Bool := match (P.info? t).bind (·.zero) with
  | some z => z.cells.toList.all (·.oneCell')
  | none => false
theorem zero_run {P : Program} {t : TypeId} (h : zeroOk P t = true) : ∃ z : Value, (∀ w, (zeroValue t).run P w = .ok z w) ∧ (∀ γ p, RL γ p (zeroC P t) z.cells.toList) ∧ ∀ u ∈ z.cells.toList, u.oneCell' = true := by
  unfold zeroOk at h
  unfold zeroC
  cases hz : (P.info? t).bind (·.zero) with
  | none => rw [hz] at h; cases h
  | some z =>
    rw [hz] at h
    obtain ⟨i, hi, hz'⟩ := Option.bind_eq_some_iff.1 hz
    refine ⟨z, fun w => by simp [zeroValue, typeInfo, hi, hz'], fun γ p => RL_vs γ p _, fun u hu => List.all_eq_true.1 h u hu⟩
theorem sound_alloc {t : TypeId} (ho : o.op = .alloc t) : (boxO s (zeroOk P t = true) (zeroC P t)).Sound P o s := by
  intro h γ a hr hf
  obtain ⟨z, hz, hv, h1⟩ := zero_run h
  obtain ⟨γ', hw, hst, hR⟩ := ghost_box hr.hr hr.bs (hf s.nx (Nat.le_refl _) (Nat.lt_succ_self _)) _ _ h1 (hv γ false) t
  refine ⟨.pointer (some ⟨γ.w.heap.size, 0, none⟩), γ', .inl ?_, hst, hR⟩
  unfold execOp
  simp only [ho, Instr.alloc, newVar, newRow, Sem.run_bind, Sem.run_pure, Result.andThen_ok, run_newObj, hw, hz]
  rfl

def storeO (P : Program) (s : S) (t : TypeId) (A X : AV) : Out := match A with
  | .loc id off => ⟨0 < P.cellsOf t ∧ oneA X = true ∧ (cellsA X).length = P.cellsOf t ∧ off + P.cellsOf t ≤ (rowOf s.hp id).length, unit, rep s.hp id (.box (splice (rowOf s.hp id) off (cellsA X))), s.nx⟩
  | _ => s.no
theorem sound_store {t : TypeId} {x y : Operand} (ho : o.op = .store t x y) : (storeO P s t (s.ev x) (s.ev y)).Sound P o s := by
  unfold storeO
  split
  · rename_i id off hx
    intro ⟨h0, h1, h2, h3⟩ γ a hr _
    have hA := hr.ev x
    rw [hx] at hA
    simp only [R] at hA
    obtain ⟨_, _, b, hb, hy⟩ := hA
    have hrow := rowOf_some (hp := s.hp) (id := id) (by omega)
    obtain ⟨cur, e, _, hc, _, k1, hv⟩ := box_block hr.hr hrow hb
    obtain ⟨hv', h1'⟩ := cells_R (hr.ev y) h1
    obtain ⟨γ', hw, hst0⟩ := ghost_store hr.hr hrow hb cur e hc off _ _ h1' hv' (by omega)
    refine ⟨undef, γ', .inr ⟨?_, rfl⟩, hst0.widen s.nx s.nx, by simp [R, unit]⟩
    have hlen : (a.eval y).cells.toList.length = P.cellsOf t := by rw [← RL_length hv', h2]
    have hst := run_storeCells_at P b off e (a.eval y).cells.toList 0 cur γ.w hc (by have := RL_length hv; simp at this hlen ⊢; omega) h1'
    unfold execOp
    simp only [ho, hy, Instr.storeAt, Instr.sureAddr, Sem.run_bind, Sem.run_pure, Result.andThen_ok, storeVar, run_sizeOf h0]
    rw [if_neg (by simp only [ne_eq, Decidable.not_not]; simpa using hlen)]
    simp only [Nat.add_zero] at hst
    simp only [hst, Result.andThen_ok, hw]
  · exact sound_no

end ops
end Go.Eng

namespace Go.Eng
set_option linter.unusedSimpArgs false
set_option linter.unusedVariables false
open Go Go.RowKit

/-- a struct's field: its offset and type -/
def fldOf (P : Program) (t : TypeId) (f : Nat) : Option (Nat × TypeId) := match P.underlying t with
  | some (.struct fs) => (fs[f]?).map fun d => (d.offset, d.type)
  | _ => none
theorem fldOf_some {P : Program} {t : TypeId} {f : Nat} {x : Nat × TypeId} (h : fldOf P t f = some x) : ∃ fs d, P.underlying t = some (.struct fs) ∧ fs[f]? = some d ∧ d.offset = x.1 ∧ d.type = x.2 := by
  unfold fldOf at h
  split at h
  · rename_i fs hu
    obtain ⟨d, hd, rfl⟩ := Option.map_eq_some_iff.1 h
    exact ⟨fs, d, hu, hd, rfl, rfl⟩
  · cases h

theorem R_loc_add {γ : Gh} {id off : Nat} {y : Value} (h : R γ false (.loc id off) y) (n : Nat) : ∃ b, y = .pointer (some ⟨b, off, none⟩) ∧ R γ false (.loc id (off + n)) (.pointer (some ⟨b, off + n, none⟩)) := by
  simp only [R] at h
  obtain ⟨h1, h2, b, h3, rfl⟩ := h
  exact ⟨b, rfl, by simp only [R]; exact ⟨h1, h2, b, h3, rfl⟩⟩
theorem R_ptr_add {γ : Gh} {cs : List AV} {y : Value} (h : R γ false (.ptr cs) y) (n : Nat) (hn : n ≤ cs.length) : ∃ b o, y = .pointer (some ⟨b, o, none⟩) ∧ R γ false (.ptr (cs.drop n)) (.pointer (some ⟨b, o + n, none⟩)) := by
  simp only [R] at h
  obtain ⟨b, o, rfl, h2, h3⟩ := h
  exact ⟨b, o, rfl, by simp only [R]; exact ⟨b, o + n, rfl, by simp; omega, RC_drop h3 n⟩⟩

section ops
variable {P : Program} {o : Oper} {s : S}

def fieldAddrO (P : Program) (s : S) (t : TypeId) (A : AV) (f : Nat) : Out := match fldOf P t f with
  | some x => match A with
    | .loc id off => s.o (0 < P.cellsOf x.2) (.loc id (off + x.1))
    | .ptr cs => s.o (0 < P.cellsOf x.2 ∧ x.1 ≤ cs.length) (.ptr (cs.drop x.1))
    | _ => s.no
  | none => s.no
theorem sound_fieldAddr {t : TypeId} {x : Operand} {f : Nat} (ho : o.op = .fieldAddr t x f) : (fieldAddrO P s t (gl (s.ev x)) f).Sound P o s := by
  unfold fieldAddrO
  split
  · rename_i xf hx
    obtain ⟨fs, d, hu, hf, h1, h2⟩ := fldOf_some hx
    have key : ∀ (w : World) (b off : Nat), 0 < P.cellsOf xf.2 → (Instr.fieldAt t (.pointer (some ⟨b, off, none⟩)) f).run P w = .ok (.pointer (some ⟨b, off + xf.1, none⟩)) w := by
      intro w b off hz
      have hz' : 0 < P.cellsOf d.type := by rw [h2]; exact hz
      simp only [Instr.fieldAt, Sem.run_bind, run_underlying hu, Result.andThen_ok, hf, Instr.sureAddr, Sem.run_pure, fieldPlace, run_sizeOf hz']
      rw [if_neg (by omega)]
      simp only [Sem.run_pure, Result.andThen_ok, Addr.add_lit, h1]
    split
    · rename_i id off hA
      refine sound_val fun hz γ a hr => ?_
      have hR := gl_R hr.hr.gok (hr.ev x)
      rw [hA] at hR
      obtain ⟨b, hy, hR'⟩ := R_loc_add hR xf.1
      refine ⟨_, ?_, hR'⟩
      unfold execOp
      simp only [ho, hy, Sem.run_bind, Sem.run_pure, key γ.w b off hz, Result.andThen_ok]
    · rename_i cs hA
      refine sound_val fun hz γ a hr => ?_
      have hR := gl_R hr.hr.gok (hr.ev x)
      rw [hA] at hR
      obtain ⟨b, off, hy, hR'⟩ := R_ptr_add hR xf.1 hz.2
      refine ⟨_, ?_, hR'⟩
      unfold execOp
      simp only [ho, hy, Sem.run_bind, Sem.run_pure, key γ.w b off hz.1, Result.andThen_ok]
    · exact sound_no
  · exact sound_no

theorem run_part {P : Program} {t : TypeId} {d : TypeDesc} (hd : P.underlying t = some d) (hz : 0 < P.cellsOf t) (w : World) (vs : List Value) (off : Nat) (hl : off + P.cellsOf t ≤ vs.length) :
    (part t vs.toArray off).run P w = .ok (if aggD d then .agg ((vs.drop off).take (P.cellsOf t)).toArray else (vs.drop off).getD 0 undef) w := by
  unfold part
  simp only [Sem.run_bind, run_isAgg hd, Result.andThen_ok]
  cases ha : aggD d with
  | true =>
    simp only [if_true, Sem.run_bind, run_sizeOf hz, Result.andThen_ok, Sem.run_pure]
    congr 2
    apply Array.ext'
    simp [List.extract_eq_take_drop]
  | false =>
    simp only [Bool.false_eq_true, if_false]
    have h0 : vs.toArray[off]? = some ((vs.drop off).getD 0 undef) := by
      rw [List.getElem?_toArray, List.getD_eq_getElem?_getD, List.getElem?_drop, Nat.add_zero, List.getElem?_eq_getElem (by omega)]
      rfl
    rw [h0]
    rfl

def fieldO (P : Program) (s : S) (t : TypeId) (A : AV) (f : Nat) : Out := match fldOf P t f, A with
  | some x, .agg cs => match P.underlying x.2 with
    | some d => s.o (0 < P.cellsOf x.2 ∧ x.1 + P.cellsOf x.2 ≤ cs.length) (loadA d (P.cellsOf x.2) (cs.drop x.1))
    | none => s.no
  | _, _ => s.no
theorem sound_field {t : TypeId} {x : Operand} {f : Nat} (ho : o.op = .field t x f) : (fieldO P s t (s.ev x) f).Sound P o s := by
  unfold fieldO
  split
  · rename_i xf cs hx hA
    obtain ⟨fs, d, hu, hf, h1, h2⟩ := fldOf_some hx
    split
    · rename_i d' hd'
      refine sound_val fun ⟨hz, hl⟩ γ a hr => ?_
      have hR := hr.ev x
      rw [hA] at hR
      simp only [R] at hR
      obtain ⟨vs, hy, k1, hv⟩ := hR
      have hd2 : P.underlying d.type = some d' := by rw [h2]; exact hd'
      have hp := run_part (P := P) hd2 (by rw [h2]; exact hz) γ.w vs d.offset (by rw [h1, h2, ← RL_length hv]; exact hl)
      rw [h1, h2] at hp
      refine ⟨_, ?_, R_loadA (RL_drop hv xf.1) (fun u hu => k1 u (List.mem_of_mem_drop hu)) d' _ hz (by simp; omega)⟩
      unfold execOp
      simp only [ho, hy, Instr.field, Sem.run_bind, run_underlying hu, Result.andThen_ok, hf, asAgg, Sem.run_pure, h1, h2, hp]
    · exact sound_no
  · exact sound_no

def indexAddrO (P : Program) (s : S) (t : TypeId) (A B : AV) : Out := match P.underlying t, B with
  | some (.slice e), .v (.int _ i) => match A with
    | .sl z cs n _ => s.o (z = P.cellsOf e ∧ 0 < z ∧ 0 ≤ i ∧ i < n) (.ptr (cs.drop (i.toNat * z)))
    | .bsl z id off n => s.o (z = P.cellsOf e ∧ 0 < z ∧ 0 ≤ i ∧ i < n) (.loc id (off + i.toNat * z))
    | .csl z id off n _ => s.o (z = P.cellsOf e ∧ 0 < z ∧ 0 ≤ i ∧ i < n) (.loc id (off + i.toNat * z))
    | _ => s.no
  | some (.array n e), .v (.int _ i) => match A with
    | .loc id off => s.o (0 < P.cellsOf e ∧ 0 ≤ i ∧ i < n) (.loc id (off + i.toNat * P.cellsOf e))
    | .ptr cs => s.o (0 < P.cellsOf e ∧ 0 ≤ i ∧ i < n ∧ i.toNat * P.cellsOf e ≤ cs.length) (.ptr (cs.drop (i.toNat * P.cellsOf e)))
    | _ => s.no
  | _, _ => s.no
theorem sound_indexAddr {t : TypeId} {x y : Operand} (ho : o.op = .indexAddr t x y) : (indexAddrO P s t (gl (s.ev x)) (s.ev y)).Sound P o s := by
  unfold indexAddrO
  split
  · rename_i e k i hu hB
    have hy : ∀ {γ : Gh} {a : Act}, Rel0 γ s a → a.eval y = .int k i := fun hr => by have := hr.ev y; rw [hB] at this; simpa [R] using this
    have key : ∀ (w : World) (b off len cap : Nat), 0 < P.cellsOf e → 0 ≤ i → i < len → (Instr.indexAt t (.slice (some ⟨b, off, none⟩) len cap) (.int k i)).run P w = .ok (.pointer (some ⟨b, off + i.toNat * P.cellsOf e, none⟩)) w := by
      intro w b off len cap hz h0 h1
      simp only [Instr.indexAt, asIntOf, Sem.run_bind, Sem.run_pure, Result.andThen_ok, run_underlying hu]
      rw [if_pos ⟨h0, h1⟩]
      simp only [Sem.run_bind, run_sizeOf hz, Result.andThen_ok, Sem.run_pure, Addr.add_lit]
    split
    · rename_i z cs n kk hA
      refine sound_val fun ⟨hz, hz0, h0, h1⟩ γ a hr => ?_
      have hR := gl_R hr.hr.gok (hr.ev x)
      rw [hA] at hR
      simp only [R] at hR
      obtain ⟨ad, cap, hx, _, _, hl, _, h5, _⟩ := hR
      rcases h5 with h5 | ⟨b, off, rfl, him, hc⟩
      · omega
      subst hz
      have hle : i.toNat * P.cellsOf e ≤ n * P.cellsOf e := Nat.mul_le_mul_right _ (by omega)
      refine ⟨.pointer (some ⟨b, off + i.toNat * P.cellsOf e, none⟩), ?_, ?_⟩
      · unfold execOp
        simp only [ho, hx, hy hr, Sem.run_bind, Sem.run_pure, key γ.w b off n cap hz0 h0 h1, Result.andThen_ok]
      · simp only [R]
        exact ⟨b, off + i.toNat * P.cellsOf e, rfl, by simp; omega, RC_drop hc _⟩
    · rename_i z id off n hA
      refine sound_val fun ⟨hz, hz0, h0, h1⟩ γ a hr => ?_
      have hR := gl_R hr.hr.gok (hr.ev x)
      rw [hA] at hR
      simp only [R] at hR
      obtain ⟨hp, hid, b, ad, cap, hb, hx, _, _, h5⟩ := hR
      rcases h5 with h5 | rfl
      · omega
      subst hz
      refine ⟨.pointer (some ⟨b, off + i.toNat * P.cellsOf e, none⟩), ?_, ?_⟩
      · unfold execOp
        simp only [ho, hx, hy hr, Sem.run_bind, Sem.run_pure, key γ.w b off n cap hz0 h0 h1, Result.andThen_ok]
      · simp only [R]
        exact ⟨trivial, hid, b, hb, rfl⟩
    · rename_i z id off n c hA
      refine sound_val fun ⟨hz, hz0, h0, h1⟩ γ a hr => ?_
      have hR := gl_R hr.hr.gok (hr.ev x)
      rw [hA] at hR
      simp only [R] at hR
      obtain ⟨hp, hid, b, hb, hx, _⟩ := hR
      subst hz
      refine ⟨.pointer (some ⟨b, off + i.toNat * P.cellsOf e, none⟩), ?_, ?_⟩
      · unfold execOp
        simp only [ho, hx, hy hr, Sem.run_bind, Sem.run_pure, key γ.w b off n c hz0 h0 h1, Result.andThen_ok]
      · simp only [R]
        exact ⟨trivial, hid, b, hb, rfl⟩
    · exact sound_no
  · rename_i n e k i hu hB
    have hy : ∀ {γ : Gh} {a : Act}, Rel0 γ s a → a.eval y = .int k i := fun hr => by have := hr.ev y; rw [hB] at this; simpa [R] using this
    have key : ∀ (w : World) (b off : Nat), 0 < P.cellsOf e → 0 ≤ i → i < n → (Instr.indexAt t (.pointer (some ⟨b, off, none⟩)) (.int k i)).run P w = .ok (.pointer (some ⟨b, off + i.toNat * P.cellsOf e, none⟩)) w := by
      intro w b off hz h0 h1
      simp only [Instr.indexAt, asIntOf, Sem.run_bind, Sem.run_pure, Result.andThen_ok, run_underlying hu, Instr.sureAddr]
      rw [if_pos ⟨h0, h1⟩]
      simp only [Sem.run_bind, run_sizeOf hz, Result.andThen_ok, Sem.run_pure, Addr.add_lit]
    split
    · rename_i id off hA
      refine sound_val fun ⟨hz, h0, h1⟩ γ a hr => ?_
      have hR := gl_R hr.hr.gok (hr.ev x)
      rw [hA] at hR
      obtain ⟨b, hx, hR'⟩ := R_loc_add hR (i.toNat * P.cellsOf e)
      refine ⟨_, ?_, hR'⟩
      unfold execOp
      simp only [ho, hx, hy hr, Sem.run_bind, Sem.run_pure, key γ.w b off hz h0 h1, Result.andThen_ok]
    · rename_i cs hA
      refine sound_val fun ⟨hz, h0, h1, h2⟩ γ a hr => ?_
      have hR := gl_R hr.hr.gok (hr.ev x)
      rw [hA] at hR
      obtain ⟨b, off, hx, hR'⟩ := R_ptr_add hR (i.toNat * P.cellsOf e) h2
      refine ⟨_, ?_, hR'⟩
      unfold execOp
      simp only [ho, hx, hy hr, Sem.run_bind, Sem.run_pure, key γ.w b off hz h0 h1, Result.andThen_ok]
    · exact sound_no
  · exact sound_no

def indexO (P : Program) (s : S) (t : TypeId) (A B : AV) : Out := match P.underlying t, A, B with
  | some (.array n e), .agg cs, .v (.int _ i) => match P.underlying e with
    | some d => s.o (0 < P.cellsOf e ∧ 0 ≤ i ∧ i < n ∧ i.toNat * P.cellsOf e + P.cellsOf e ≤ cs.length) (loadA d (P.cellsOf e) (cs.drop (i.toNat * P.cellsOf e)))
    | none => s.no
  | _, _, _ => s.no
theorem sound_index {t : TypeId} {x y : Operand} (ho : o.op = .index t x y) : (indexO P s t (s.ev x) (s.ev y)).Sound P o s := by
  unfold indexO
  split
  · rename_i n e cs k i hu hA hB
    split
    · rename_i d hd
      refine sound_val fun ⟨hz, h0, h1, h2⟩ γ a hr => ?_
      have hy : a.eval y = .int k i := by have := hr.ev y; rw [hB] at this; simpa [R] using this
      have hR := hr.ev x
      rw [hA] at hR
      simp only [R] at hR
      obtain ⟨vs, hx, k1, hv⟩ := hR
      have hp := run_part (P := P) hd hz γ.w vs (i.toNat * P.cellsOf e) (by rw [← RL_length hv]; exact h2)
      refine ⟨_, ?_, R_loadA (RL_drop hv _) (fun u hu => k1 u (List.mem_of_mem_drop hu)) d _ hz (by simp; omega)⟩
      unfold execOp
      simp only [ho, hx, hy, Instr.index, asIntOf, Sem.run_bind, Sem.run_pure, Result.andThen_ok, run_underlying hu]
      rw [if_pos ⟨h0, h1⟩]
      simp only [Sem.run_bind, run_sizeOf hz, Result.andThen_ok, hp]
    · exact sound_no
  · exact sound_no

def extractO (s : S) (A : AV) (i : Nat) : Out := match A with
  | .tup vs => s.o (i < vs.length) (vs.getD i .bad)
  | _ => s.no
theorem sound_extract {x : Operand} {i : Nat} (ho : o.op = .extract x i) : (extractO s (s.ev x) i).Sound P o s := by
  unfold extractO
  split
  · rename_i vs hA
    refine sound_val fun hl γ a hr => ?_
    have hR := hr.ev x
    rw [hA] at hR
    simp only [R] at hR
    obtain ⟨us, hx, hv⟩ := hR
    obtain ⟨u, hu, hr'⟩ := RL_get hv i _ (getD_of_lt vs i .bad hl)
    refine ⟨u, ?_, hr'⟩
    unfold execOp
    simp only [ho, hx, Instr.extract, List.getElem?_toArray, hu, Sem.run_bind, Sem.run_pure, Result.andThen_ok]
  · exact sound_no

def makeFuncO (s : S) (f : Fn) (fs cs : List AV) : Out := s.o True (.fn f fs cs)
theorem RL_map {γ : Gh} {s : S} {a : Act} (hr : Rel0 γ s a) : ∀ (xs : List Operand), RL γ false (xs.map s.ev) (xs.map a.eval)
  | [] => by simp [RL]
  | x :: xs => RL_cons (hr.ev x) (RL_map hr xs)
theorem List.map_toArray_toList' {α β : Type} (xs : Array α) {f : α → β} : (xs.toList.map f).toArray = xs.map f := by apply Array.ext'; simp
theorem sound_makeFunc {f : Fn} {fs cs : Array Operand} (ho : o.op = .makeFunc f fs cs) : (makeFuncO s f (fs.toList.map s.ev) (cs.toList.map s.ev)).Sound P o s := by
  refine sound_val fun _ γ a hr => ?_
  refine ⟨.func f (fs.map a.eval) (cs.map a.eval), ?_, ?_⟩
  · unfold execOp
    simp only [ho, Instr.makeFunc, Sem.run_bind, Sem.run_pure, Result.andThen_ok]
  · simp only [R]
    exact ⟨fs.toList.map a.eval, cs.toList.map a.eval, by rw [List.map_toArray_toList' fs, List.map_toArray_toList' cs], RL_map hr _, RL_map hr _⟩

def unO (op : UnOp) : AV → Prop × AV
  | .v (.bool b) => match op with
    | .not => (True, boo (!b))
    | _ => (False, .bad)
  | .v (.int k n) => match op with
    | .neg => match k with
      | .i64 => (inI (0 - n), int (0 - n))
      | k => (True, .v (.int k (k.wrap (0 - n))))
    | .xor => (True, .v (.int k (bits .xor k (if k.signed then -1 else k.max) n)))
    | _ => (False, .bad)
  | _ => (False, .bad)
theorem sound_unOp {op : UnOp} {t : TypeId} {x : Operand} (ho : o.op = .unOp op t x) : (s.o (unO op (s.ev x)).1 (unO op (s.ev x)).2).Sound P o s := by
  refine sound_val fun h γ a hr => ?_
  have hR := hr.ev x
  unfold execOp
  simp only [ho]
  cases hA : s.ev x with
  | v y =>
    rw [hA] at h hR
    simp only [R] at hR
    rw [hR]
    cases y with
    | bool b =>
      cases op <;> simp only [unO] at h ⊢ <;> first | exact h.elim | skip
      exact ⟨.bool (!b), rfl, by simp only [R, boo]⟩
    | int k n =>
      cases op <;> simp only [unO] at h ⊢ <;> first | exact h.elim | skip
      · cases k <;> simp only at h ⊢
        case i64 =>
          have hw := wrapI _ h
          exact ⟨_, by simp only [Op.unary, Op.intArith, Sem.run_bind, Sem.run_pure, Result.andThen_ok, hw]; rfl, by simp only [R, int]⟩
        all_goals exact ⟨_, rfl, by simp only [R]⟩
      · exact ⟨_, rfl, by simp only [R]; rfl⟩
    | _ => exact h.elim
  | _ => rw [hA] at h; exact h.elim

end ops
end Go.Eng

namespace Go.Eng
set_option linter.unusedSimpArgs false
set_option linter.unusedVariables false
open Go Go.RowKit

section ops
variable {P : Program} {o : Oper} {s : S}

def lenO (P : Program) (s : S) (t : TypeId) (A : AV) : Out := match P.underlying t with
  | some (.slice _) => match A with
    | .sl _ _ n _ => s.o True (int n)
    | .bsl _ _ _ n => s.o True (int n)
    | .csl _ _ _ n _ => s.o True (int n)
    | .v (.slice none 0 0) => s.o True (int 0)
    | _ => s.no
  | some .string => match A with
    | .v (.string b) => s.o True (int b.size)
    | _ => s.no
  | some (.array n _) => s.o True (int n)
  | _ => s.no
theorem sound_len {t : TypeId} {x : Operand} (ho : o.op = .call { callee := .builtin .len, args := #[x], argTypes := #[t] }) : (lenO P s t (s.ev x)).Sound P o s := by
  have key : ∀ (γ : Gh) (a : Act) (n : Int), (Builtin.len_ #[t] o.type #[a.eval x]).run P γ.w = .ok (goInt n) γ.w → (execOp a.eval o).run P γ.w = .ok (.value (.int .i64 n)) γ.w := by
    intro γ a n h
    unfold execOp
    simp only [ho, resolve, invoke, builtin, Sem.run_bind, Sem.run_pure, Result.andThen_ok, List.map_toArray, List.map_cons, List.map_nil, h]
    rfl
  unfold lenO
  split
  · rename_i e hu
    split
    · rename_i z cs n k hA
      refine sound_val fun _ γ a hr => ?_
      have hR := hr.ev x
      rw [hA] at hR
      simp only [R] at hR
      obtain ⟨ad, cap, hx, _⟩ := hR
      exact ⟨_, key γ a n (by rw [hx]; simp [Builtin.len_, run_underlying hu]), by simp only [R, int]⟩
    · rename_i z id off n hA
      refine sound_val fun _ γ a hr => ?_
      have hR := hr.ev x
      rw [hA] at hR
      simp only [R] at hR
      obtain ⟨_, _, b, ad, cap, _, hx, _⟩ := hR
      exact ⟨_, key γ a n (by rw [hx]; simp [Builtin.len_, run_underlying hu]), by simp only [R, int]⟩
    · rename_i z id off n c hA
      refine sound_val fun _ γ a hr => ?_
      have hR := hr.ev x
      rw [hA] at hR
      simp only [R] at hR
      obtain ⟨_, _, b, _, hx, _⟩ := hR
      exact ⟨_, key γ a n (by rw [hx]; simp [Builtin.len_, run_underlying hu]), by simp only [R, int]⟩
    · rename_i hA
      refine sound_val fun _ γ a hr => ?_
      have hR := hr.ev x
      rw [hA] at hR
      simp only [R] at hR
      exact ⟨_, key γ a 0 (by rw [hR]; simp [Builtin.len_, run_underlying hu]), by simp only [R, int]⟩
    · exact sound_no
  · rename_i hu
    split
    · rename_i b hA
      refine sound_val fun _ γ a hr => ?_
      have hR := hr.ev x
      rw [hA] at hR
      simp only [R] at hR
      exact ⟨_, key γ a b.size (by rw [hR]; simp [Builtin.len_, run_underlying hu]), by simp only [R, int]⟩
    · exact sound_no
  · rename_i n e hu
    refine sound_val fun _ γ a hr => ?_
    exact ⟨_, key γ a n (by simp [Builtin.len_, run_underlying hu]), by simp only [R, int]⟩
  · exact sound_no

def bndA : AV → Option Int
  | .v (.int _ i) => some i
  | _ => none
/-- low and high, the high one's default handed in -/
def bndO (s : S) (x : Option Operand) (d : Int) : Option Int := match x with
  | none => some d
  | some x => bndA (s.ev x)
theorem bnd_some {γ : Gh} {a : Act} (hr : Rel0 γ s a) {x : Option Operand} {d i : Int} (h : bndO s x d = some i) : (x = none ∧ i = d) ∨ ∃ y k, x = some y ∧ a.eval y = .int k i := by
  unfold bndO at h
  cases x with
  | none => simp at h; exact .inl ⟨rfl, h.symm⟩
  | some y =>
    have hR := hr.ev y
    simp only at h
    cases hA : s.ev y with
    | v u =>
      rw [hA] at h hR
      simp only [R] at hR
      cases u <;> simp [bndA] at h
      subst h
      exact .inr ⟨y, _, rfl, hR⟩
    | _ => rw [hA] at h; simp [bndA] at h

def sliceO (P : Program) (s : S) (t : TypeId) (A : AV) (lo hi mx : Option Operand) : Out := match mx with
  | some _ => s.no
  | none => match P.underlying t, A with
    | some (.slice e), .sl z cs n _ => match bndO s lo 0, bndO s hi n with
      | some l, some h => s.o (z = P.cellsOf e ∧ 0 < z ∧ 0 ≤ l ∧ l ≤ h ∧ h ≤ n) (.sl z ((cs.drop (l.toNat * z)).take ((h - l).toNat * z)) (h - l).toNat none)
      | _, _ => s.no
    | some (.slice e), .bsl z id off n => match bndO s lo 0, bndO s hi n with
      | some l, some h => s.o (z = P.cellsOf e ∧ 0 < z ∧ 0 ≤ l ∧ l ≤ h ∧ h ≤ n) (.bsl z id (off + l.toNat * z) (h - l).toNat)
      | _, _ => s.no
    | some (.slice e), .csl z id off n c => match bndO s lo 0, bndO s hi n with
      | some l, some h => match lo with
        | none => s.o (z = P.cellsOf e ∧ 0 < z ∧ 0 ≤ h ∧ h ≤ c) (.csl z id off h.toNat c)
        | some _ => s.o (z = P.cellsOf e ∧ 0 < z ∧ 0 ≤ l ∧ l ≤ h ∧ h ≤ c) (.bsl z id (off + l.toNat * z) (h - l).toNat)
      | _, _ => s.no
    | some (.slice e), .v (.slice none 0 0) => match bndO s lo 0, bndO s hi 0 with
      | some l, some h => s.o (0 < P.cellsOf e ∧ l = 0 ∧ h = 0) nilS
      | _, _ => s.no
    | some (.array n e), .loc id off => match bndO s lo 0, bndO s hi n with
      | some l, some h => s.o (n ≤ maxLen ∧ 0 < P.cellsOf e ∧ 0 ≤ l ∧ l ≤ h ∧ h ≤ n) (.bsl (P.cellsOf e) id (off + l.toNat * P.cellsOf e) (h - l).toNat)
      | _, _ => s.no
    | some (.array n e), .ptr cs => match bndO s lo 0, bndO s hi n with
      | some l, some h => s.o (n ≤ maxLen ∧ n * P.cellsOf e ≤ cs.length ∧ 0 < P.cellsOf e ∧ 0 ≤ l ∧ l ≤ h ∧ h ≤ n) (.sl (P.cellsOf e) ((cs.drop (l.toNat * P.cellsOf e)).take ((h - l).toNat * P.cellsOf e)) (h - l).toNat none)
      | _, _ => s.no
    | some .string, .v (.string b) => match bndO s lo 0, bndO s hi b.size with
      | some l, some h => s.o (0 ≤ l ∧ l ≤ h ∧ h ≤ b.size) (.v (.string (b.extract l.toNat h.toNat)))
      | _, _ => s.no
    | _, _ => s.no

theorem run_sliceBounds {γ : Gh} {a : Act} (hr : Rel0 γ s a) {lo hi : Option Operand} {len cap : Nat} {isS : Bool} {l h : Int} (hl : bndO s lo 0 = some l) (hh : bndO s hi len = some h)
    (h0 : 0 ≤ l) (h1 : l ≤ h) (h2 : h ≤ cap) (h3 : len ≤ cap) (w : World) :
    (Instr.sliceBounds isS len cap (lo.map a.eval) (hi.map a.eval) none).run P w = .ok (l.toNat, h.toNat, cap) w := by
  unfold Instr.sliceBounds
  rcases bnd_some hr hh with ⟨rfl, rfl⟩ | ⟨y, k, rfl, hy⟩ <;> rcases bnd_some hr hl with ⟨rfl, rfl⟩ | ⟨y', k', rfl, hy'⟩
  · simp
  · simp only [Option.map_none, Option.map_some, hy', Instr.sliceBound, asIntOf, Sem.run_bind, Sem.run_pure, Result.andThen_ok, Option.isSome_none]
    rw [if_pos ⟨by omega, by omega⟩]
    simp only [Sem.run_pure, Result.andThen_ok, Int.toNat_natCast]
  · simp only [Option.map_none, Option.map_some, hy, Instr.sliceBound, asIntOf, Sem.run_bind, Sem.run_pure, Result.andThen_ok, Option.isSome_none]
    rw [if_pos ⟨by omega, by omega⟩]
    simp only [Sem.run_pure, Result.andThen_ok, Int.toNat_zero]
  · simp only [Option.map_none, Option.map_some, hy, hy', Instr.sliceBound, asIntOf, Sem.run_bind, Sem.run_pure, Result.andThen_ok, Option.isSome_none]
    rw [if_pos ⟨by omega, by omega⟩]
    simp only [Sem.run_pure, Result.andThen_ok]
    rw [if_pos ⟨by omega, by omega⟩]
    simp only [Sem.run_pure, Result.andThen_ok]

theorem sound_slice {t : TypeId} {x : Operand} {lo hi mx : Option Operand} (ho : o.op = .slice t x lo hi mx) : (sliceO P s t (s.ev x) lo hi mx).Sound P o s := by
  unfold sliceO
  split
  · exact sound_no
  have key : ∀ (γ : Gh) (a : Act) (v : Value), (Instr.sliceAt t (a.eval x) (lo.map a.eval) (hi.map a.eval) none).run P γ.w = .ok v γ.w → (execOp a.eval o).run P γ.w = .ok (.value v) γ.w := by
    intro γ a v h
    unfold execOp
    simp only [ho, Option.map_none, Sem.run_bind, h, Result.andThen_ok, Sem.run_pure]
  split
  · rename_i e z cs n k hu hA
    split
    · rename_i l h hl hh
      refine sound_val fun ⟨hz, hz0, h0, h1, h2⟩ γ a hr => ?_
      subst hz
      have hR := hr.ev x
      rw [hA] at hR
      simp only [R] at hR
      obtain ⟨ad, cap, hx, hnc, hm, hlen, hnil, h5, h6⟩ := hR
      refine ⟨.slice (if cap = l.toNat then ad else ad.map (·.add (l.toNat * P.cellsOf e))) (h - l).toNat (cap - l.toNat), key γ a _ ?_, ?_⟩
      · unfold Instr.sliceAt Instr.slice
        simp only [hx, Sem.run_bind, run_underlying hu, Result.andThen_ok, run_sliceBounds (P := P) hr hl hh h0 h1 (by omega) hnc, run_sizeOf hz0, Sem.run_pure]
        congr 2
        omega
      · simp only [R]
        refine ⟨_, _, rfl, by omega, by omega, ?_, ?_, ?_, fun k' e' => by cases e'⟩
        · rw [List.length_take, List.length_drop, hlen]
          have : (h - l).toNat * P.cellsOf e + l.toNat * P.cellsOf e ≤ n * P.cellsOf e := by rw [← Nat.add_mul]; exact Nat.mul_le_mul_right _ (by omega)
          omega
        · intro hn
          split at hn
          · omega
          · have := hnil (by simpa using hn); omega
        · by_cases hhl : (h - l).toNat = 0
          · exact .inl hhl
          · refine .inr ?_
            rcases h5 with h5 | ⟨b, off, rfl, him, hc⟩
            · omega
            · rw [if_neg (by omega)]
              refine ⟨b, off + l.toNat * P.cellsOf e, by simp [Addr.add_lit], ?_, RC_take (RC_drop hc _) _⟩
              have : l.toNat * P.cellsOf e + (h - l).toNat * P.cellsOf e ≤ n * P.cellsOf e := by rw [← Nat.add_mul]; exact Nat.mul_le_mul_right _ (by omega)
              omega
    · exact sound_no
  · rename_i e z id off n hu hA
    split
    · rename_i l h hl hh
      refine sound_val fun ⟨hz, hz0, h0, h1, h2⟩ γ a hr => ?_
      subst hz
      have hR := hr.ev x
      rw [hA] at hR
      simp only [R] at hR
      obtain ⟨hp, hid, b, ad, cap, hb, hx, hnc, hm, h5⟩ := hR
      refine ⟨.slice (some (if cap = l.toNat then ad else ad.add (l.toNat * P.cellsOf e))) (h - l).toNat (cap - l.toNat), key γ a _ ?_, ?_⟩
      · unfold Instr.sliceAt Instr.slice
        simp only [hx, Sem.run_bind, run_underlying hu, Result.andThen_ok, run_sliceBounds (P := P) hr hl hh h0 h1 (by omega) hnc, run_sizeOf hz0, Sem.run_pure, Option.map_some]
        have : h.toNat - l.toNat = (h - l).toNat := by omega
        rw [this]
        split <;> rfl
      · simp only [R]
        refine ⟨trivial, hid, b, _, _, hb, rfl, by omega, by omega, ?_⟩
        by_cases hhl : (h - l).toNat = 0
        · exact .inl hhl
        · rcases h5 with h5 | rfl
          · omega
          · rw [if_neg (by omega), Addr.add_lit]; exact .inr rfl
    · exact sound_no
  · rename_i e z id off n c hu hA
    split
    · rename_i l h hl hh
      split
      · refine sound_val fun ⟨hz, hz0, h0, h2⟩ γ a hr => ?_
        have hl0 : (0 : Int) = l := Option.some.inj hl
        subst hl0
        subst hz
        have hR := hr.ev x
        rw [hA] at hR
        simp only [R] at hR
        obtain ⟨hp, hid, b, hb, hx, hnc, hm⟩ := hR
        by_cases hc0 : c = 0
        · refine ⟨.slice (some ⟨b, off, none⟩) h.toNat c, key γ a _ ?_, ?_⟩
          · unfold Instr.sliceAt Instr.slice
            simp only [hx, Sem.run_bind, run_underlying hu, Result.andThen_ok, run_sliceBounds (P := P) hr hl hh (by omega) h0 h2 hnc, run_sizeOf hz0, Sem.run_pure]
            simp [hc0]
          · simp only [R]; exact ⟨trivial, hid, b, hb, rfl, by omega, hm⟩
        · refine ⟨.slice (some ⟨b, off, none⟩) h.toNat c, key γ a _ ?_, ?_⟩
          · unfold Instr.sliceAt Instr.slice
            simp only [hx, Sem.run_bind, run_underlying hu, Result.andThen_ok, run_sliceBounds (P := P) hr hl hh (by omega) h0 h2 hnc, run_sizeOf hz0, Sem.run_pure]
            simp [hc0, Addr.add_lit]
          · simp only [R]; exact ⟨trivial, hid, b, hb, rfl, by omega, hm⟩
      · refine sound_val fun ⟨hz, hz0, h0, h1, h2⟩ γ a hr => ?_
        subst hz
        have hR := hr.ev x
        rw [hA] at hR
        simp only [R] at hR
        obtain ⟨hp, hid, b, hb, hx, hnc, hm⟩ := hR
        refine ⟨.slice (some (if c = l.toNat then ⟨b, off, none⟩ else (⟨b, off, none⟩ : Addr).add (l.toNat * P.cellsOf e))) (h - l).toNat (c - l.toNat), key γ a _ ?_, ?_⟩
        · unfold Instr.sliceAt Instr.slice
          have hsb := run_sliceBounds (P := P) (isS := true) hr hl hh h0 h1 h2 hnc γ.w
          simp only [Option.map_some] at hsb
          simp only [hx, Sem.run_bind, run_underlying hu, Result.andThen_ok, hsb, run_sizeOf hz0, Sem.run_pure, Option.map_some]
          have : h.toNat - l.toNat = (h - l).toNat := by omega
          rw [this]
          split <;> rfl
        · simp only [R]
          refine ⟨trivial, hid, b, _, _, hb, rfl, by omega, by omega, ?_⟩
          by_cases hhl : (h - l).toNat = 0
          · exact .inl hhl
          · rw [if_neg (by omega), Addr.add_lit]; exact .inr rfl
    · exact sound_no
  · rename_i e hu hA
    split
    · rename_i l h hl hh
      refine sound_val fun ⟨hz0, h0, h1⟩ γ a hr => ?_
      subst h0; subst h1
      have hR := hr.ev x
      rw [hA] at hR
      simp only [R] at hR
      refine ⟨.slice none 0 0, key γ a _ ?_, by simp only [R, nilS]⟩
      unfold Instr.sliceAt Instr.slice
      simp only [hR, Sem.run_bind, run_underlying hu, Result.andThen_ok, run_sliceBounds (P := P) (len := 0) (cap := 0) hr hl hh (by omega) (by omega) (by omega) (by omega), run_sizeOf hz0, Sem.run_pure, Option.map_none]
      simp
    · exact sound_no
  · rename_i n e id off hu hA
    split
    · rename_i l h hl hh
      refine sound_val fun ⟨hm, hz0, h0, h1, h2⟩ γ a hr => ?_
      have hR := hr.ev x
      rw [hA] at hR
      simp only [R] at hR
      obtain ⟨hp, hid, b, hb, hx⟩ := hR
      refine ⟨.slice (some (if n = l.toNat then ⟨b, off, none⟩ else (⟨b, off, none⟩ : Addr).add (l.toNat * P.cellsOf e))) (h - l).toNat (n - l.toNat), key γ a _ ?_, ?_⟩
      · unfold Instr.sliceAt
        simp only [hx, Sem.run_bind, run_underlying hu, Result.andThen_ok, run_sliceBounds (P := P) hr hl hh h0 h1 h2 (Nat.le_refl n), run_sizeOf hz0, Sem.run_pure, Instr.sureAddr]
        have : h.toNat - l.toNat = (h - l).toNat := by omega
        rw [this]
      · simp only [R]
        refine ⟨trivial, hid, b, _, _, hb, rfl, by omega, by omega, ?_⟩
        by_cases hhl : (h - l).toNat = 0
        · exact .inl hhl
        · rw [if_neg (by omega), Addr.add_lit]; exact .inr rfl
    · exact sound_no
  · rename_i n e cs hu hA
    split
    · rename_i l h hl hh
      refine sound_val fun ⟨hm, hcl, hz0, h0, h1, h2⟩ γ a hr => ?_
      have hR := hr.ev x
      rw [hA] at hR
      simp only [R] at hR
      obtain ⟨b, off, hx, him, hc⟩ := hR
      refine ⟨.slice (some (if n = l.toNat then ⟨b, off, none⟩ else (⟨b, off, none⟩ : Addr).add (l.toNat * P.cellsOf e))) (h - l).toNat (n - l.toNat), key γ a _ ?_, ?_⟩
      · unfold Instr.sliceAt
        simp only [hx, Sem.run_bind, run_underlying hu, Result.andThen_ok, run_sliceBounds (P := P) hr hl hh h0 h1 h2 (Nat.le_refl n), run_sizeOf hz0, Sem.run_pure, Instr.sureAddr]
        have : h.toNat - l.toNat = (h - l).toNat := by omega
        rw [this]
      · have hle : l.toNat * P.cellsOf e + (h - l).toNat * P.cellsOf e ≤ n * P.cellsOf e := by rw [← Nat.add_mul]; exact Nat.mul_le_mul_right _ (by omega)
        simp only [R]
        refine ⟨_, _, rfl, by omega, by omega, ?_, by simp, ?_, fun k' e' => by cases e'⟩
        · rw [List.length_take, List.length_drop]
          omega
        · by_cases hhl : (h - l).toNat = 0
          · exact .inl hhl
          · refine .inr ⟨b, off + l.toNat * P.cellsOf e, ?_, ?_, RC_take (RC_drop hc _) _⟩
            · rw [if_neg (by omega), Addr.add_lit]
            · omega
    · exact sound_no
  · rename_i b hu hA
    split
    · rename_i l h hl hh
      refine sound_val fun ⟨h0, h1, h2⟩ γ a hr => ?_
      have hR := hr.ev x
      rw [hA] at hR
      simp only [R] at hR
      refine ⟨_, key γ a _ ?_, by simp only [R]; rfl⟩
      unfold Instr.sliceAt Instr.slice
      simp only [hR, Sem.run_bind, run_underlying hu, Result.andThen_ok, Option.isSome_none]
      rw [if_neg (by simp)]
      simp only [Sem.run_bind, Result.andThen_ok, run_sliceBounds (P := P) hr hl hh h0 h1 h2 (Nat.le_refl b.size), Sem.run_pure]
    · exact sound_no
  · exact sound_no

end ops
end Go.Eng

namespace Go.Eng
set_option linter.unusedSimpArgs false
set_option linter.unusedVariables false
open Go Go.RowKit

def bys (b : List UInt8) : List AV := b.map u8
/-- may stand in memory that stays as it is -/
def pl : AV → Bool
  | .v _ => true
  | .sl _ _ _ none => true
  | .ptr _ => true
  | .bad => true
  | _ => false
theorem pl_R {γ : Gh} {x : AV} {y : Value} (h : R γ false x y) (hp : pl x = true) : R γ true x y := by
  cases x with
  | v u => simpa only [R] using h
  | bad => simp [R]
  | sl z cs n k =>
    cases k with
    | none =>
      simp only [R] at h ⊢
      obtain ⟨a, cap, h1, h2, h3, h4, h5, h6, h7⟩ := h
      exact ⟨a, cap, h1, h2, h3, h4, h5, h6, fun k' e => by cases e⟩
    | some k => cases hp
  | ptr cs => simpa only [R] using h
  | _ => cases hp
def plL (cs : List AV) : Prop := ∀ x ∈ cs, pl x = true
theorem plL_R {γ : Gh} {cs : List AV} {vs : List Value} (h : RL γ false cs vs) (hp : plL cs) : RL γ true cs vs :=
  RL_of_get (RL_length h) fun i x y hx hy => by
    obtain ⟨y', hy', r⟩ := RL_get h i x hx
    rw [hy'] at hy; cases hy
    exact pl_R r (hp x (List.mem_of_getElem? hx))

/-- a slice that goes into memory keeps no token -/
def dk : AV → AV
  | .sl z cs n _ => .sl z cs n none
  | x => x
def dkL : List AV → List AV
  | [] => []
  | x :: xs => dk x :: dkL xs
theorem dk_R {γ : Gh} {x : AV} {y : Value} (h : R γ false x y) : R γ false (dk x) y := by
  cases x with
  | sl z cs n k =>
    simp only [R, dk] at h ⊢
    obtain ⟨a, cap, h1, h2, h3, h4, h5, h6, h7⟩ := h
    exact ⟨a, cap, h1, h2, h3, h4, h5, h6, fun k' e => by cases e⟩
  | _ => exact h
theorem dkL_R {γ : Gh} : ∀ {cs : List AV} {vs : List Value}, RL γ false cs vs → RL γ false (dkL cs) vs
  | [], _, h => h
  | x :: xs, _, h => by
    simp only [RL, dkL] at h ⊢
    obtain ⟨u, us, h1, h2, h3⟩ := h
    exact ⟨u, us, h1, dk_R h2, dkL_R h3⟩
theorem dkL_length : ∀ (cs : List AV), (dkL cs).length = cs.length
  | [] => rfl
  | x :: xs => by simp [dkL, dkL_length xs]
/-- what is appended, or copied: its cells, how many elements -/
def srcA (hp : List (Nat × Ob)) (z : Nat) : AV → Option (List AV × Nat)
  | .sl z' cs n _ => if z' = z then some (cs, n) else none
  | .bsl z' id off n => if z' = z then some (((rowOf hp id).drop off).take (n * z), n) else none
  | .csl z' id off n _ => if z' = z then some (((rowOf hp id).drop off).take (n * z), n) else none
  | .v (.slice none 0 0) => some ([], 0)
  | .v (.string b) => if z = 1 then some (bys b.data.toList, b.size) else none
  | _ => none
/-- read out of a box: its cells must be there -/
def srcOk (hp : List (Nat × Ob)) (z : Nat) : AV → Prop
  | .bsl _ id off n => 0 < n * z ∧ off + n * z ≤ (rowOf hp id).length ∧ plL (((rowOf hp id).drop off).take (n * z)) ∨ n = 0
  | .csl _ id off n _ => 0 < n * z ∧ off + n * z ≤ (rowOf hp id).length ∧ plL (((rowOf hp id).drop off).take (n * z)) ∨ n = 0
  | _ => True
/-- as a slice of a box -/
def un : AV → AV
  | .csl z id off n _ => .bsl z id off n
  | x => x
theorem un_R {γ : Gh} {p : Bool} {x : AV} {y : Value} (h : R γ p x y) : R γ p (un x) y := by
  cases x <;> first | exact h | exact csl_bsl h
theorem srcA_un (hp : List (Nat × Ob)) (z : Nat) (x : AV) : srcA hp z (un x) = srcA hp z x := by cases x <;> rfl
theorem srcOk_un (hp : List (Nat × Ob)) (z : Nat) (x : AV) : srcOk hp z (un x) = srcOk hp z x := by cases x <;> rfl
theorem src_read0 {P : Program} {γ : Gh} {hp : List (Nat × Ob)} (hr : HRel γ hp) {z : Nat} {A : AV} {y : Value} (h : R γ false A y) {ds : List AV} {m : Nat} (hs : srcA hp z A = some (ds, m)) (hok : srcOk hp z A) :
    (∀ z id off n c, A ≠ .csl z id off n c) → ds.length = m * z ∧ Builtin.lenOf y = Sem.pure m ∧ ∃ vs : List Value, RL γ true ds vs ∧ (∀ u ∈ vs, u.oneCell' = true) ∧
      ∀ (w' : World) (k : Nat), k ≤ m → (∀ b : Nat, w'.heap[b]? = γ.w.heap[b]?) → (Builtin.firstCells z k y).run P w' = .ok (vs.take (k * z)).toArray w' := by
  intro hnc
  cases A with
  | sl z' cs n kk =>
    simp only [srcA] at hs
    split at hs
    · rename_i hz
      subst hz
      cases hs
      simp only [R] at h
      obtain ⟨a, cap, rfl, _, _, hl, _, h5, _⟩ := h
      refine ⟨hl, rfl, ?_⟩
      rcases h5 with rfl | ⟨b, off, rfl, _, hc⟩
      · have : ds = [] := List.eq_nil_of_length_eq_zero (by simpa using hl)
        subst this
        refine ⟨[], RL_nil, by simp, fun w' k hk _ => ?_⟩
        have : k = 0 := by omega
        subst this
        cases a with
        | none => simp [Builtin.firstCells]
        | some a => simp [Builtin.firstCells, loadCells, loadCellsFrom]
      · obtain ⟨vs, hv, h1, hx⟩ := RC_values hc
        refine ⟨vs, hv, h1, fun w' k hk hw => ?_⟩
        simp only [Builtin.firstCells]
        have hle : k * z' ≤ vs.length := by rw [← RL_length hv, hl]; exact Nat.mul_le_mul_right _ hk
        have := run_loadCells_list (P := P) w' ⟨b, off, none⟩ (vs.take (k * z')) (fun j u hj => by
          rw [List.getElem?_take] at hj
          split at hj
          · rw [Addr.add_lit, cell_eq_of_heap (hw b)]; exact hx j u hj
          · cases hj)
        rw [List.length_take, Nat.min_eq_left hle] at this
        exact this
    · cases hs
  | bsl z' id off n =>
    simp only [srcA] at hs
    split at hs
    · rename_i hz
      subst hz
      simp only [Option.some.injEq, Prod.mk.injEq] at hs
      obtain ⟨rfl, rfl⟩ := hs
      simp only [R] at h
      obtain ⟨_, _, b, a, cap, hb, rfl, _, _, h5⟩ := h
      simp only [srcOk] at hok
      rcases hok with ⟨h0, hfit, hpl⟩ | h0
      · have hrow := rowOf_some (hp := hp) (id := id) (by omega)
        obtain ⟨cur, e, _, hc, _, h1, hv⟩ := box_block hr hrow hb
        have hn0 : n ≠ 0 := by intro e; subst e; simp at h0
        obtain rfl := h5.resolve_left hn0
        refine ⟨by simp; omega, rfl, (cur.toList.drop off).take (n * z'), plL_R (RL_take (RL_drop hv off) _) hpl, fun u hu => h1 u (List.mem_of_mem_drop (List.mem_of_mem_take hu)), fun w' k hk hw => ?_⟩
        simp only [Builtin.firstCells]
        have hkz : k * z' ≤ n * z' := Nat.mul_le_mul_right _ hk
        have hlen : cur.toList.length = (rowOf hp id).length := (RL_length hv).symm
        have := run_loadCells_list (P := P) w' ⟨b, off, none⟩ (((cur.toList.drop off).take (n * z')).take (k * z')) (fun j u hj => by
          rw [List.getElem?_take] at hj
          split at hj
          · rw [List.getElem?_take] at hj
            split at hj
            · rw [List.getElem?_drop] at hj
              rw [Addr.add_lit, cell_eq_of_heap (hw b), cell_of_row _ b _ cur e (0, 0) hc, ← Array.getElem?_toList, hj]
            · cases hj
          · cases hj)
        rw [List.length_take, List.length_take, List.length_drop, Nat.min_eq_left (by omega)] at this
        exact this
      · subst h0
        refine ⟨by simp, rfl, [], by simp [RL], by simp, fun w' k hk _ => ?_⟩
        have : k = 0 := by omega
        subst this
        simp [Builtin.firstCells, loadCells, loadCellsFrom]
    · cases hs
  | csl z id off n c => exact absurd rfl (hnc z id off n c)
  | v u =>
    simp only [R] at h
    subst h
    cases y with
    | slice a n c =>
      cases a with
      | none =>
        match n, c, hs with
        | 0, 0, hs =>
          simp only [srcA] at hs
          cases hs
          exact ⟨by simp, rfl, [], RL_nil, by simp, fun w' k hk _ => by simp [Builtin.firstCells]⟩
        | 0, c + 1, hs => simp [srcA] at hs
        | n + 1, c, hs => simp [srcA] at hs
      | some a => simp [srcA] at hs
    | string b =>
      simp only [srcA] at hs
      split at hs
      · rename_i hz
        subst hz
        cases hs
        refine ⟨by simp [bys], rfl, b.data.toList.map fun x => .int .u8 x.toNat, ?_, by simp [Value.oneCell'], fun w' k hk _ => ?_⟩
        · refine RL_of_get (by simp [bys]) fun i x y hx hy => ?_
          simp only [bys, List.getElem?_map, Option.map_eq_some_iff] at hx hy
          obtain ⟨c, hc, rfl⟩ := hx
          obtain ⟨c', hc', rfl⟩ := hy
          rw [hc] at hc'; cases hc'
          simp [R, u8]
        · simp only [Builtin.firstCells, Sem.run_pure]
          congr 1
          apply Array.ext'
          rw [Array.toList_map, Lib.extract_data]
          simp
      · cases hs
    | _ => simp [srcA] at hs
  | _ => simp [srcA] at hs

theorem src_read {P : Program} {γ : Gh} {hp : List (Nat × Ob)} (hr : HRel γ hp) {z : Nat} {A : AV} {y : Value} (h : R γ false A y) {ds : List AV} {m : Nat} (hs : srcA hp z A = some (ds, m)) (hok : srcOk hp z A) :
    ds.length = m * z ∧ Builtin.lenOf y = Sem.pure m ∧ ∃ vs : List Value, RL γ true ds vs ∧ (∀ u ∈ vs, u.oneCell' = true) ∧
      ∀ (w' : World) (k : Nat), k ≤ m → (∀ b : Nat, w'.heap[b]? = γ.w.heap[b]?) → (Builtin.firstCells z k y).run P w' = .ok (vs.take (k * z)).toArray w' := by
  have := src_read0 (P := P) hr (un_R h) (by rw [srcA_un]; exact hs) (by rw [srcOk_un]; exact hok) (by cases A <;> simp [un])
  exact this

end Go.Eng

namespace Go.Eng
set_option linter.unusedSimpArgs false
set_option linter.unusedVariables false
open Go Go.RowKit

theorem info_of {P : Program} {t : TypeId} (h : 0 < P.cellsOf t) : ∃ i, P.info? t = some i ∧ i.size = P.cellsOf t ∧ i.bytes = P.bytesOf t := by
  unfold Program.cellsOf Program.bytesOf at *
  cases hi : P.info? t with
  | none => rw [hi] at h; simp at h
  | some i => exact ⟨i, rfl, by simp, by simp⟩

def txOk (P : Program) (tx : TypeId) : Bool := match P.underlying tx with
  | some (.slice _) => true
  | some .string => true
  | _ => false
theorem txOk_some {P : Program} {tx : TypeId} (h : txOk P tx = true) : (∃ e, P.underlying tx = some (.slice e)) ∨ P.underlying tx = some .string := by
  unfold txOk at h
  split at h
  · rename_i e he; exact .inl ⟨_, he⟩
  · rename_i he; exact .inr he
  · cases h

theorem run_append_in {P : Program} {t tx ty e : TypeId} {i : TypeInfo} (ht : P.underlying t = some (.slice e)) (hi : P.info? e = some i) (htx : txOk P tx = true) (w w' : World) (base : Option Addr) (n cap m : Nat) (x : Value)
    (hl : Builtin.lenOf x = Sem.pure m) (hroom : n + m ≤ cap) (vs : List Value) (hf : (Builtin.firstCells i.size m x).run P w = .ok vs.toArray w)
    (hst : match base with
      | some a => (storeCells (a.add (n * i.size)) vs).run P w = .ok () w'
      | none => w' = w) :
    (Builtin.append_ #[t, tx] ty #[.slice base n cap, x]).run P w = .ok (.slice base (n + m) cap) w' := by
  rcases txOk_some htx with ⟨e', hd⟩ | hd <;> cases base with
  | none =>
    subst hst
    simp [Builtin.append_, run_underlying ht, run_underlying hd, sizeOf, typeInfo, hi, hl, hroom, hf]
  | some a =>
    simp only at hst
    simp [Builtin.append_, run_underlying ht, run_underlying hd, sizeOf, typeInfo, hi, hl, hroom, hf, hst]

theorem run_append_out {P : Program} {t tx ty e : TypeId} {i : TypeInfo} {z : Value} (ht : P.underlying t = some (.slice e)) (hi : P.info? e = some i) (hz : i.zero = some z) (htx : txOk P tx = true) (w : World) (base : Option Addr) (n cap m : Nat) (x : Value)
    (hl : Builtin.lenOf x = Sem.pure m) (hg : cap < n + m) (h63 : ((n + m : Nat) : Int) ≤ 9223372036854775807) (hfit : Builtin.nextslicecap (n + m) cap * i.bytes ≤ 281474976710656)
    (us vs : List Value) (hu : (Builtin.firstCells i.size n (.slice base n cap)).run P w.drew = .ok us.toArray w.drew) (hf : (Builtin.firstCells i.size m x).run P w.drew = .ok vs.toArray w.drew) :
    (Builtin.append_ #[t, tx] ty #[.slice base n cap, x]).run P w =
      .ok (.slice (some ⟨w.heap.size, 0, none⟩) (n + m) (grownCap w (n + m) cap e))
        (w.drew.alloc (.cells (us.toArray ++ vs.toArray ++ Builtin.zeroCells z.cells (grownCap w (n + m) cap e - (n + m))) e)) := by
  have hn : ¬ (n + m ≤ cap) := by omega
  have h63' : ¬ (9223372036854775807 < ((n : Int) + (m : Int))) := by omega
  have h48' : ¬ (281474976710656 < Builtin.nextslicecap (n + m) cap * i.bytes) := by omega
  rcases txOk_some htx with ⟨e', hd⟩ | hd
  all_goals
    simp [Builtin.append_, run_underlying ht, run_underlying hd, sizeOf, typeInfo, zeroValue, hi, hz, hl, hn, h63', h48', Question.forced, hf, hu, newRow, grownCap]
    congr 2
    apply Array.ext'
    simp [List.append_assoc]

theorem Stp.trans {γ γ1 γ2 : Gh} {hp hp1 hp2 : List (Nat × Ob)} {a b a1 b1 a2 b2 : Nat} (h : Stp γ hp γ1 hp1 a1 b1) (k : Stp γ1 hp1 γ2 hp2 a2 b2) (h1 : ∀ l, a1 ≤ l → l < b1 → a ≤ l ∧ l < b) (h2 : ∀ l, a2 ≤ l → l < b2 → a ≤ l ∧ l < b) : Stp γ hp γ2 hp2 a b :=
  ⟨h.le.trans (k.le.mono (by rw [h.nx]; exact Nat.le_refl _)), k.hr, k.nx.trans h.nx, fun l hl hn => k.free l (h.free l hl fun e => hn (h1 l e.1 e.2)) fun e => hn (h2 l e.1 e.2)⟩

/-- A draw. -/
theorem ghost_drew {γ : Gh} {hp : List (Nat × Ob)} (hr : HRel γ hp) : Stp γ hp { γ with w := γ.w.drew } hp 0 0 := by
  have hle : γ.le γ.nx { γ with w := γ.w.drew } :=
    ⟨rfl, (Below.refl _ _).drew, fun _ => Nat.le_refl _, fun _ _ => rfl, fun _ _ _ => rfl, Nat.le_refl _, fun _ _ _ h => h, fun _ _ h => h, fun _ _ _ h => h, fun _ _ _ _ _ _ => ⟨rfl, fun c _ h => ⟨c, h, rfl⟩⟩⟩
  exact ⟨hle, ⟨fun l row h => hrel_keep hr hle l row h fun _ _ => ⟨rfl, rfl⟩, hr.tok, hr.inj, hr.fresh, hr.tkal, hr.imz, hr.live, (fun l o h => hrel_raw hr hle l o h fun _ _ => ⟨rfl, rfl⟩), hr.gok.le hle⟩, rfl, fun _ h _ => h⟩

/-- Bytes of a constant: a mark behind the row; its end is nobody's. -/
theorem freeze_heap (w : World) (b k : Nat) (cur : Array Value) (e : TypeId) (h : w.heap[b]? = some (.cells cur e (0, 0))) :
    (∀ j, j ≠ b → (w.freeze ⟨b, k, none⟩ 1).heap[j]? = w.heap[j]?) ∧ (w.freeze ⟨b, k, none⟩ 1).heap[b]? = some (.cells cur e (k, k + 1)) ∧ (w.freeze ⟨b, k, none⟩ 1).heap.size = w.heap.size := by
  unfold World.freeze
  rw [if_neg (by decide)]
  refine ⟨fun j hj => ?_, ?_, ?_⟩
  · simp only [Array.getElem?_modify, if_neg (Ne.symm hj)]
  · simp only [Array.getElem?_modify, if_pos, h]
    rfl
  · simp only [Array.size_modify]
theorem ghost_mark {γ : Gh} {hp : List (Nat × Ob)} (hr : HRel γ hp) {k b j : Nat} {cur : Array Value} {e : TypeId} (hk : look hp k = some .tok) (hb : γ.mu k = some b) (hc : γ.w.heap[b]? = some (.cells cur e (0, 0))) :
    ∃ γ', γ'.w = γ.w.freeze ⟨b, j, none⟩ 1 ∧ Stp γ hp γ' (del hp k) 0 0 := by
  obtain ⟨f1, f2, f3⟩ := freeze_heap γ.w b j cur e hc
  have hother : ∀ l b', (look hp l).isSome = true → l ≠ k → γ.mu l = some b' → b' ≠ b := by
    intro l b' hl hne hm' heq
    subst heq
    exact hne (hr.inj l k b' hl (by rw [hk]; rfl) hm' hb)
  have hbs := (hr.live k b hb).1
  have hle : γ.le γ.nx { γ with w := γ.w.freeze ⟨b, j, none⟩ 1, al := upd γ.al k false } := by
    refine ⟨rfl, ⟨rfl, rfl, rfl, Nat.le_of_eq f3.symm, fun i hi => f1 i (by omega)⟩, fun _ => Nat.le_refl _, fun _ _ => rfl, fun b' i hi => ?_, Nat.le_refl _, fun _ _ _ h => h, fun _ _ h => h, fun i _ _ h => ?_, fun i b' _ ht ha hm => ⟨rfl, fun c e' hce => ?_⟩⟩
    · by_cases h : b' = b
      · subst h
        simp only [World.cell?, f2, hc]
      · exact cell_eq_of_heap (f1 b' h)
    · dsimp only at h
      by_cases e : i = k
      · subst e; rw [upd_same] at h; cases h
      · rwa [upd_ne _ _ _ _ e] at h
    · dsimp only at ha
      by_cases e : i = k
      · subst e; rw [upd_same] at ha; cases ha
      · rw [upd_ne _ _ _ _ e] at ha
        have ht' := (hr.tok i).1 ha
        exact ⟨c, (f1 b' (hother i b' (by rw [ht']; rfl) e hm)).trans hce, rfl⟩
  refine ⟨{ γ with w := γ.w.freeze ⟨b, j, none⟩ 1, al := upd γ.al k false }, rfl, ⟨hle, ⟨?_, ?_, ?_, ?_, ?_, ?_, ?_, ?_, hr.gok.le hle⟩, rfl, ?_⟩⟩
  · intro l row h
    rw [look_del] at h
    split at h
    · cases h
    · rename_i hne
      exact hrel_keep hr hle l row h fun b' hb' => ⟨f1 b' (hother l b' (by rw [h]; rfl) (Ne.symm hne) hb'), rfl⟩
  · intro i
    dsimp only
    rw [look_del]
    by_cases e : k = i
    · subst e; simp [upd_same]
    · rw [if_neg e, upd_ne _ _ _ _ (Ne.symm e)]; exact hr.tok i
  · intro l l' b h1 h2 h3 h4
    rw [look_del] at h1 h2
    split at h1
    · cases h1
    split at h2
    · cases h2
    exact hr.inj l l' b h1 h2 h3 h4
  · intro l h
    refine ⟨(hr.fresh l h).1, ?_, (hr.fresh l h).2.2⟩
    rw [look_del, (hr.fresh l h).2.1]; split <;> rfl
  · intro i hj
    dsimp only at hj ⊢
    by_cases e : i = k
    · subst e; rw [upd_same] at hj; cases hj
    · rw [upd_ne _ _ _ _ e] at hj; exact hr.tkal i hj
  · intro b' h
    dsimp only at h ⊢
    rw [f3] at h
    exact hr.imz b' h
  · intro l b' h
    dsimp only
    rw [f3]
    exact hr.live l b' h
  · intro l o h
    rw [look_del] at h
    split at h
    · cases h
    · rename_i hne
      exact hrel_raw hr hle l o h fun b' hb' => ⟨f1 b' (hother l b' (by rw [h]; rfl) (Ne.symm hne) hb'), rfl⟩
  · rintro l ⟨g1, g2, g3, g4⟩ _
    exact ⟨g1, g2, by rw [look_del]; split; · rfl
                      · exact g3, g4⟩
/-- A token without a block. -/
theorem ghost_tok {γ : Gh} {hp : List (Nat × Ob)} (hr : HRel γ hp) {L : Nat} (hL : Free γ hp L) :
    ∃ γ', γ'.w = γ.w ∧ Stp γ hp γ' ((L, .tok) :: hp) L (L + 1) ∧ γ'.im = γ.im ∧ γ'.base = γ.base ∧ γ'.tk L = true := by
  obtain ⟨hLn, hLm, hLh, hLt⟩ := hL
  have hle : γ.le γ.nx ⟨γ.w, γ.base, γ.im, γ.mu, γ.nx, upd γ.al L true, upd γ.tk L true⟩ := by
    refine ⟨rfl, Below.refl _ _, fun _ => Nat.le_refl _, fun _ _ => rfl, fun _ _ _ => rfl, Nat.le_refl _, fun _ _ _ h => h, fun j hj h => ?_, fun j hj ht h => ?_, fun _ _ _ _ _ _ => ⟨rfl, fun c _ h => ⟨c, h, rfl⟩⟩⟩
    · dsimp only
      by_cases e : j = L
      · subst e; exact upd_same _ _ _
      · rw [upd_ne _ _ _ _ e]; exact h
    · dsimp only at h
      rwa [upd_ne _ _ _ _ (by intro e; subst e; rw [hLt] at ht; cases ht)] at h
  refine ⟨⟨γ.w, γ.base, γ.im, γ.mu, γ.nx, upd γ.al L true, upd γ.tk L true⟩, rfl, ⟨hle, ⟨?_, ?_, ?_, ?_, ?_, hr.imz, hr.live, ?_, hr.gok.le hle⟩, rfl, ?_⟩, rfl, rfl, upd_same _ _ _⟩
  · intro l row h
    rw [look_cons] at h
    split at h
    · cases h
    · exact hrel_keep hr hle l row h fun _ _ => ⟨rfl, rfl⟩
  · intro j
    dsimp only
    rw [look_cons]
    by_cases e : L = j
    · subst e; simp [upd_same]
    · rw [if_neg e, upd_ne _ _ _ _ (Ne.symm e)]; exact hr.tok j
  · intro l l' b h1 h2 h3 h4
    have hne : ∀ l, γ.mu l = some b → (look ((L, Ob.tok) :: hp) l).isSome = true → (look hp l).isSome = true := by
      intro l hm h
      rw [look_cons] at h
      by_cases e : L = l
      · subst e; rw [hLm] at hm; cases hm
      · rwa [if_neg e] at h
    exact hr.inj l l' b (hne l h3 h1) (hne l' h4 h2) h3 h4
  · intro l h
    dsimp only at h ⊢
    rw [look_cons, if_neg (by omega), upd_ne _ _ _ _ (by omega)]
    exact hr.fresh l h
  · intro j hj
    dsimp only at hj ⊢
    by_cases e : j = L
    · subst e; exact upd_same _ _ _
    · rw [upd_ne _ _ _ _ e] at hj ⊢; exact hr.tkal j hj
  · intro l o h
    rw [look_cons] at h
    split at h
    · cases h
    · exact hrel_raw hr hle l o h fun _ _ => ⟨rfl, rfl⟩
  · rintro l ⟨g1, g2, g3, g4⟩ hn
    have hne : l ≠ L := by omega
    exact ⟨g1, g2, by rw [look_cons, if_neg (Ne.symm hne)]; exact g3, by dsimp only; rw [upd_ne _ _ _ _ hne]; exact g4⟩

theorem R_exact {γ γ' : Gh} (h : γ.le γ.nx γ') {z : Nat} {cs : List AV} {n c : Nat} {k : Option Nat} (hR : R γ false (.sl z cs n k) (.slice none n c)) (k' : Nat) (hk : k' < γ'.nx) (ht : γ'.tk k' = true) : R γ' false (.sl z cs n (some k')) (.slice none n c) := by
  have h2 := R_le h hR
  simp only [R] at h2 ⊢
  obtain ⟨a', cap, e, h1, h3, h4, h5, h6, _⟩ := h2
  cases e
  exact ⟨none, c, rfl, h1, h3, h4, h5, h6, fun j e => by cases e; exact ⟨rfl, hk, ht, fun _ => .inl rfl⟩⟩

def zinfo (P : Program) (e : TypeId) : Bool := match P.info? e with
  | some i => match i.zero with
    | some z => z.cells.size == i.size && z.cells.toList.all (·.oneCell')
    | none => false
  | none => false
theorem zinfo_some {P : Program} {e : TypeId} (h : zinfo P e = true) : ∃ i z, P.info? e = some i ∧ i.zero = some z ∧ z.cells.size = i.size ∧ (∀ u ∈ z.cells.toList, u.oneCell' = true) ∧ zeroC P e = z.cells.toList.map .v := by
  unfold zinfo at h
  split at h
  · rename_i i hi
    split at h
    · rename_i z hz
      simp only [Bool.and_eq_true, beq_iff_eq] at h
      exact ⟨i, z, hi, hz, h.1, fun u hu => List.all_eq_true.1 h.2 u hu, by simp [zeroC, hi, hz]⟩
    · cases h
  · cases h

def appendO (P : Program) (s : S) (t tx : TypeId) (A X : AV) : Out := match P.underlying t with
  | some (.slice e) => match srcA s.hp (P.cellsOf e) X with
    | some (ds, m) => match A with
      | .sl z cs n (some k) => ⟨z = P.cellsOf e ∧ 0 < z ∧ zinfo P e = true ∧ txOk P tx = true ∧ look s.hp k = some .tok ∧ srcOk s.hp (P.cellsOf e) X ∧ n + m ≤ maxLen ∧ (n + m) * P.bytesOf e ≤ 140737488355328,
          .sl z (cs ++ ds) (n + m) (some s.nx), (s.nx, .tok) :: del s.hp k, s.nx + 1⟩
      | .v (.slice none 0 0) => ⟨0 < P.cellsOf e ∧ zinfo P e = true ∧ txOk P tx = true ∧ srcOk s.hp (P.cellsOf e) X ∧ m ≤ maxLen ∧ m * P.bytesOf e ≤ 140737488355328,
          .sl (P.cellsOf e) ds m (some (s.nx + 1)), (s.nx + 1, .tok) :: del ((s.nx, .tok) :: s.hp) s.nx, s.nx + 2⟩
      | _ => s.no
    | none => s.no
  | _ => s.no

theorem firstCells_dest {P : Program} {γ : Gh} {z n : Nat} {cs : List AV} {a : Option Addr} {cap : Nat} {k : Option Nat} (h : R γ false (.sl z cs n k) (.slice a n cap)) :
    ∃ us : List Value, RL γ true cs us ∧ (∀ u ∈ us, u.oneCell' = true) ∧ ∀ w' : World, (∀ b : Nat, w'.heap[b]? = γ.w.heap[b]?) → (Builtin.firstCells z n (.slice a n cap)).run P w' = .ok us.toArray w' := by
  simp only [R] at h
  obtain ⟨a', cap', e, _, _, hl, _, h5, _⟩ := h
  cases e
  rcases h5 with rfl | ⟨b, off, rfl, _, hc⟩
  · have : cs = [] := List.eq_nil_of_length_eq_zero (by simpa using hl)
    subst this
    refine ⟨[], RL_nil, by simp, fun w' _ => ?_⟩
    cases a with
    | none => simp [Builtin.firstCells]
    | some a => simp [Builtin.firstCells, loadCells, loadCellsFrom]
  · obtain ⟨us, hu, h1, hx⟩ := RC_values hc
    refine ⟨us, hu, h1, fun w' hw => ?_⟩
    simp only [Builtin.firstCells]
    have := run_loadCells_list (P := P) w' ⟨b, off, none⟩ us (fun j u hj => by rw [Addr.add_lit, cell_eq_of_heap (hw b)]; exact hx j u hj)
    rw [← RL_length hu, hl] at this
    exact this

/-- What a growing append comes to. -/
theorem append_grow {P : Program} {γ : Gh} {hp : List (Nat × Ob)} (hr : HRel γ hp) (bs : γ.base ≤ γ.w.heap.size) {L : Nat} (hL : Free γ hp L) {t tx ty e : TypeId} (ht : P.underlying t = some (.slice e)) (hz0 : 0 < P.cellsOf e) (hzi : zinfo P e = true) (htx : txOk P tx = true)
    {cs ds : List AV} {n m cap : Nat} {a : Option Addr} {k : Option Nat} (hA : R γ false (.sl (P.cellsOf e) cs n k) (.slice a n cap)) {x : Value} (hlen : Builtin.lenOf x = Sem.pure m) (hdl : ds.length = m * P.cellsOf e)
    {vs : List Value} (hv : RL γ true ds vs) (hv1 : ∀ u ∈ vs, u.oneCell' = true) (hf : ∀ w' : World, (∀ b : Nat, w'.heap[b]? = γ.w.heap[b]?) → (Builtin.firstCells (P.cellsOf e) m x).run P w' = .ok vs.toArray w')
    (hm : n + m ≤ maxLen) (hby : (n + m) * P.bytesOf e ≤ 140737488355328) (hg : cap < n + m) :
    ∃ v γ', (Builtin.append_ #[t, tx] ty #[.slice a n cap, x]).run P γ.w = .ok v γ'.w ∧ Stp γ hp γ' ((L, .tok) :: hp) L (L + 1) ∧ R γ' false (.sl (P.cellsOf e) (cs ++ ds) (n + m) (some L)) v := by
  obtain ⟨us, hu, hu1, hus⟩ := firstCells_dest (P := P) hA
  obtain ⟨i, z, hi, hz, hzs, hz1, _⟩ := zinfo_some hzi
  obtain ⟨i', hi', e1, e2⟩ := info_of hz0
  rw [hi] at hi'; cases hi'
  have hdr := ghost_drew hr
  have hle := hdr.le
  have hr' := hdr.hr
  have hnc : cs.length = n * P.cellsOf e := by simp only [R] at hA; obtain ⟨_, _, _, _, _, h, _⟩ := hA; exact h
  have hulen : us.length = n * P.cellsOf e := by rw [← RL_length hu, hnc]
  have hvlen : vs.length = m * P.cellsOf e := by rw [← RL_length hv, hdl]
  have hcap : n + m ≤ grownCap γ.w (n + m) cap e := grownCap_ge _ _ _ _
  have hcapm : grownCap γ.w (n + m) cap e ≤ maxLen := grownCap_le_maxLen _ _ _ _ hm
  have hrun := run_append_out (P := P) (ty := ty) ht hi hz htx γ.w a n cap m x hlen hg (by simp only [maxLen] at hm; omega) (growslice_fits hg (by rw [e2]; exact hby)) us vs
    (by rw [e1]; exact hus γ.w.drew fun _ => rfl) (by rw [e1]; exact hf γ.w.drew fun _ => rfl)
  obtain ⟨arr, harr⟩ : ∃ arr, arr = us.toArray ++ vs.toArray ++ Builtin.zeroCells z.cells (grownCap γ.w (n + m) cap e - (n + m)) := ⟨_, rfl⟩
  rw [← harr] at hrun
  obtain ⟨γ', hw, hst, hR⟩ := ghost_sl hr' bs (hdr.free L hL (by omega)) (P.cellsOf e) (n + m) (grownCap γ.w (n + m) cap e) (cs ++ ds) (us ++ vs) (fun u hu' => by
      rcases List.mem_append.1 hu' with h | h
      · exact hu1 u h
      · exact hv1 u h) (RL_append (RL_le hle hu) (RL_le hle hv)) e arr (by rw [harr]; simp [List.take_append]; exact List.take_of_length_le (by omega)) (by rw [List.length_append, hnc, hdl, Nat.add_mul]) hcap hcapm (by
      rw [harr]
      simp only [Array.size_append, List.size_toArray, hulen, hvlen, size_zeroCells, hzs, e1, ← Nat.add_mul]
      apply Nat.mul_le_mul_right
      omega)
  exact ⟨_, γ', by rw [hrun, hw]; rfl, hdr.trans hst (fun l h1 h2 => by omega) (fun l h1 h2 => ⟨h1, h2⟩), hR⟩

theorem append_to {P : Program} {γ : Gh} {hp : List (Nat × Ob)} (hr : HRel γ hp) (bs : γ.base ≤ γ.w.heap.size) {L : Nat} (hL : Free γ hp L) {t tx ty e : TypeId} (ht : P.underlying t = some (.slice e)) (hz0 : 0 < P.cellsOf e) (hzi : zinfo P e = true) (htx : txOk P tx = true)
    {cs ds : List AV} {n m : Nat} {k : Nat} (hk : look hp k = some .tok) {y : Value} (hA : R γ false (.sl (P.cellsOf e) cs n (some k)) y) {x : Value} (hlen : Builtin.lenOf x = Sem.pure m) (hdl : ds.length = m * P.cellsOf e)
    {vs : List Value} (hv : RL γ true ds vs) (hv1 : ∀ u ∈ vs, u.oneCell' = true) (hf : ∀ w' : World, (∀ b : Nat, w'.heap[b]? = γ.w.heap[b]?) → (Builtin.firstCells (P.cellsOf e) m x).run P w' = .ok vs.toArray w')
    (hm : n + m ≤ maxLen) (hby : (n + m) * P.bytesOf e ≤ 140737488355328) :
    ∃ v γ', (Builtin.append_ #[t, tx] ty #[y, x]).run P γ.w = .ok v γ'.w ∧ Stp γ hp γ' ((L, .tok) :: del hp k) L (L + 1) ∧ R γ' false (.sl (P.cellsOf e) (cs ++ ds) (n + m) (some L)) v := by
  have hA' := hA
  simp only [R] at hA
  obtain ⟨a, cap, rfl, hnc, hcm, hcl, hnil, h5, h6⟩ := hA
  have hvlen : vs.length = m * P.cellsOf e := by rw [← RL_length hv, hdl]
  obtain ⟨i', hi', e1, e2⟩ := info_of hz0
  obtain ⟨_, hklt, htkk, htail⟩ := h6 k rfl
  have hne : L ≠ k := by intro e; subst e; rw [hL.2.2.1] at hk; cases hk
  by_cases hg : cap < n + m
  · obtain ⟨v, γ1, h1, h2, h5'⟩ := append_grow (ty := ty) hr bs hL ht hz0 hzi htx hA' hlen hdl hv hv1 hf hm hby hg
    obtain ⟨γ2, g1, g2, _⟩ := ghost_del h2.hr k
    have e : del ((L, Ob.tok) :: hp) k = (L, Ob.tok) :: del hp k := by simp [del, beq_ne hne]
    rw [e] at g2
    exact ⟨v, γ2, by rw [h1, g1], h2.trans g2 (fun l h1 h2 => ⟨h1, h2⟩) (fun l h1 h2 => by omega), R_le g2.le h5'⟩
  · have hroom : n + m ≤ cap := by omega
    have htl := htail ((hr.tok k).2 hk)
    by_cases hm0 : m = 0
    · subst hm0
      have hds : ds = [] := List.eq_nil_of_length_eq_zero (by simpa using hdl)
      have hvs : vs = [] := List.eq_nil_of_length_eq_zero (by simpa using hvlen)
      subst hds; subst hvs
      have hrun := run_append_in (P := P) (ty := ty) ht hi' htx γ.w γ.w a n cap 0 x hlen (by omega) [] (by rw [e1]; exact hf γ.w fun _ => rfl) (by cases a <;> simp [storeCells])
      rcases htl with rfl | ⟨b, o, cur, e', rfl, hb, hbase, hc, him, hcap⟩
      · obtain ⟨γ1, h1, h2, h5', h6', h7'⟩ := ghost_tok hr hL
        obtain ⟨γ2, g1, g2, _⟩ := ghost_del h2.hr k
        have e : del ((L, Ob.tok) :: hp) k = (L, Ob.tok) :: del hp k := by simp [del, beq_ne hne]
        rw [e] at g2
        have hst : Stp γ hp γ2 ((L, .tok) :: del hp k) L (L + 1) := h2.trans g2 (fun l h1 h2 => ⟨h1, h2⟩) (fun l h1 h2 => by omega)
        refine ⟨_, γ2, by rw [g1, h1]; exact hrun, hst, ?_⟩
        have := R_exact hst.le hA' L (by rw [hst.nx]; exact hL.1) (g2.le.tk L (by rw [h2.nx]; exact hL.1) h7')
        simpa using this
      · by_cases hn0 : n = 0
        · subst hn0
          have hcs : cs = [] := List.eq_nil_of_length_eq_zero (by simpa using hcl)
          subst hcs
          obtain ⟨γ', h1, h2, h5'⟩ := ghost_append hr hL hk (P.cellsOf e) 0 0 cap o [] [] [] hb cur e' hc hbase him hcap (by simp [RC]) (by simp) (by simp) RL_nil (by simp) (by omega) hcm
          refine ⟨_, γ', ?_, h2, h5'⟩
          rw [hrun, h1]
          congr 1
          simp only [List.append_nil, List.length_nil, Nat.add_zero, List.take_append_drop, Array.toArray_toList]
          exact (setRow_self _ _ _ _ _ hc).symm
        · obtain ⟨b', o', e3, him', hc'⟩ := h5.resolve_left hn0
          cases e3
          obtain ⟨γ', h1, h2, h5'⟩ := ghost_append hr hL hk (P.cellsOf e) n 0 cap o cs [] [] hb cur e' hc hbase him hcap hc' hcl (by simp) RL_nil (by simp) (by omega) hcm
          refine ⟨_, γ', ?_, h2, h5'⟩
          rw [hrun, h1]
          congr 1
          simp only [List.append_nil, List.length_nil, Nat.add_zero, List.take_append_drop, Array.toArray_toList]
          exact (setRow_self _ _ _ _ _ hc).symm
    · rcases htl with rfl | ⟨b, o, cur, e', rfl, hb, hbase, hc, him, hcap⟩
      · have := hnil rfl; omega
      · have hle2 : (n + m) * P.cellsOf e ≤ cap * P.cellsOf e := Nat.mul_le_mul_right _ hroom
        rw [Nat.add_mul] at hle2
        have hst := run_storeCells_at P b (o + n * P.cellsOf e) e' vs 0 cur γ.w hc (by omega) hv1
        have hrun := run_append_in (P := P) (ty := ty) ht hi' htx γ.w _ (some ⟨b, o, none⟩) n cap m x hlen hroom vs (by rw [e1]; exact hf γ.w fun _ => rfl) (by simp only [Addr.add_lit, e1]; exact hst)
        have hRC : RC γ b o cs := by
          rcases h5 with rfl | ⟨b', o', e3, him', hc'⟩
          · have hcs : cs = [] := List.eq_nil_of_length_eq_zero (by simpa using hcl)
            subst hcs
            simp [RC]
          · cases e3; exact hc'
        obtain ⟨γ', h1, h2, h5'⟩ := ghost_append hr hL hk (P.cellsOf e) n m cap o cs ds vs hb cur e' hc hbase him hcap hRC hcl hv1 hv hdl hroom hcm
        exact ⟨_, γ', by rw [hrun, h1]; rfl, h2, h5'⟩

section ops
variable {P : Program} {o : Oper} {s : S}
theorem sound_append {t tx : TypeId} {x y : Operand} (ho : o.op = .call { callee := .builtin .append, args := #[x, y], argTypes := #[t, tx] }) : (appendO P s t tx (s.ev x) (s.ev y)).Sound P o s := by
  have key : ∀ (γ : Gh) (a : Act) (v : Value) (w' : World), (Builtin.append_ #[t, tx] o.type #[a.eval x, a.eval y]).run P γ.w = .ok v w' → (execOp a.eval o).run P γ.w = .ok (.value v) w' := by
    intro γ a v w' h
    unfold execOp
    simp only [ho, resolve, invoke, builtin, Sem.run_bind, Sem.run_pure, Result.andThen_ok, List.map_toArray, List.map_cons, List.map_nil, h]
  unfold appendO
  split
  · rename_i e hu
    split
    · rename_i ds m hs
      split
      · rename_i z cs n k hA
        intro ⟨hz, hz0, hzi, htx, hk, hok, hm, hby⟩ γ a hr hfr
        subst hz
        have hR := hr.ev x
        rw [hA] at hR
        obtain ⟨hdl, hlen, vs, hv, hv1, hf⟩ := src_read (P := P) hr.hr (hr.ev y) hs hok
        have hvlen : vs.length = m * P.cellsOf e := by rw [← RL_length hv, hdl]
        obtain ⟨v, γ', h1, h2, h5⟩ := append_to (ty := o.type) hr.hr hr.bs (hfr s.nx (Nat.le_refl _) (Nat.lt_succ_self _)) hu hz0 hzi htx hk hR hlen hdl hv hv1 (fun w' hw => by
          have := hf w' m (Nat.le_refl _) hw
          rwa [List.take_of_length_le (by omega)] at this) hm hby
        exact ⟨v, γ', .inl (key γ a v _ h1), h2, h5⟩
      · rename_i hA
        intro ⟨hz0, hzi, htx, hok, hm, hby⟩ γ a hr hfr
        have hR := hr.ev x
        rw [hA] at hR
        simp only [R] at hR
        obtain ⟨hdl, hlen, vs, hv, hv1, hf⟩ := src_read (P := P) hr.hr (hr.ev y) hs hok
        have hvlen : vs.length = m * P.cellsOf e := by rw [← RL_length hv, hdl]
        have hL0 := hfr s.nx (Nat.le_refl _) (by dsimp only; omega)
        obtain ⟨γ1, g1, g2, g5, g6, g7⟩ := ghost_tok hr.hr hL0
        have hnilR : R γ1 false (.sl (P.cellsOf e) [] 0 (some s.nx)) (.slice none 0 0) := by
          simp only [R]
          exact ⟨none, 0, rfl, Nat.le_refl _, by simp [maxLen], by simp, by simp, .inl trivial, fun k' e' => by cases e'; exact ⟨rfl, by rw [g2.nx]; exact hL0.1, g7, fun _ => .inl rfl⟩⟩
        have hL1 := g2.free (s.nx + 1) (hfr (s.nx + 1) (by omega) (by dsimp only; omega)) (by omega)
        obtain ⟨v, γ2, h1, h2, h5⟩ := append_to (ty := o.type) (k := s.nx) (ds := ds) (cs := []) g2.hr (by rw [g6, g1]; exact hr.bs) hL1 hu hz0 hzi htx (by rw [look_cons, if_pos rfl]) hnilR hlen hdl (RL_le g2.le hv) hv1 (fun w' hw => by
          have := hf w' m (Nat.le_refl _) (fun b => by rw [hw b, g1])
          rwa [List.take_of_length_le (by omega)] at this) (by omega) (by simpa using hby)
        rw [List.nil_append, Nat.zero_add] at h5
        exact ⟨v, γ2, .inl (key γ a v _ (by rw [hR, ← g1]; exact h1)), g2.trans h2 (fun l h1 h2 => ⟨h1, by dsimp only; omega⟩) (fun l h1 h2 => ⟨by omega, by dsimp only; omega⟩), h5⟩
      · exact sound_no
    · exact sound_no
  · exact sound_no
end ops
end Go.Eng

namespace Go.Eng
set_option linter.unusedSimpArgs false
set_option linter.unusedVariables false
open Go Go.RowKit

theorem foldl_set (off : Nat) : ∀ (l : List Value) (k : Nat) (cells : Array Value), off + k + l.length ≤ cells.size →
    ((l.zipIdx k).foldl (fun (cs : Array Value) (p : Value × Nat) => cs.setIfInBounds (off + p.2) p.1) cells) = (splice cells.toList (off + k) l).toArray
  | [], k, cells, h => by apply Array.ext'; simp [splice]
  | v :: l, k, cells, h => by
    simp only [List.zipIdx_cons, List.foldl_cons]
    simp only [List.length_cons] at h
    rw [foldl_set off l (k + 1) _ (by simp; omega)]
    apply Array.ext'
    have := list_seg_step cells.toList (off + k) v l (by simp; omega)
    simp only [splice, Array.toList_setIfInBounds]
    rw [← List.append_assoc, ← List.append_assoc]
    simpa [Nat.add_assoc] using this
theorem foldl_set' (off : Nat) (vs : Array Value) (cells : Array Value) (h : off + vs.size ≤ cells.size) :
    (vs.zipIdx.foldl (fun (cs : Array Value) (p : Value × Nat) => cs.setIfInBounds (off + p.2) p.1) cells) = (splice cells.toList off vs.toList).toArray := by
  have := foldl_set off vs.toList 0 cells (by simpa using h)
  rw [← Array.foldl_toList, Array.toList_zipIdx]
  simpa using this

/-- parts laid over cells, at their places -/
def fillA (place : Nat → Option (Nat × Nat)) : List AV → List (Nat × List AV) → List AV
  | cs, [] => cs
  | cs, (i, x) :: r => fillA place (splice cs ((place i).getD (0, 0)).1 x) r
def fillOk (place : Nat → Option (Nat × Nat)) (n : Nat) : List (Nat × List AV) → Prop
  | [] => True
  | (i, x) :: r => (∃ p, place i = some p ∧ x.length = p.2 ∧ p.1 + p.2 ≤ n) ∧ fillOk place n r
theorem fill_R {γ : Gh} {p : Bool} {place : Nat → Option (Nat × Nat)} : ∀ {ps : List (Nat × List AV)} {qs : List (Nat × Value)} {cs : List AV} {cells : Array Value},
    RL γ p cs cells.toList → (∀ u ∈ cells.toList, u.oneCell' = true) → ps.length = qs.length → (∀ (j : Nat) (x : Nat × List AV) (y : Nat × Value), ps[j]? = some x → qs[j]? = some y → x.1 = y.1 ∧ RL γ p x.2 y.2.cells.toList ∧ ∀ u ∈ y.2.cells.toList, u.oneCell' = true) →
    fillOk place cs.length ps → ∃ out : Array Value, Instr.fill place cells qs = some out ∧ RL γ p (fillA place cs ps) out.toList ∧ (∀ u ∈ out.toList, u.oneCell' = true)
  | [], [], cs, cells, h, h1, _, _, _ => ⟨cells, rfl, h, h1⟩
  | [], _ :: _, _, _, _, _, hl, _, _ => by simp at hl
  | _ :: _, [], _, _, _, _, hl, _, _ => by simp at hl
  | (i, x) :: ps, (j, y) :: qs, cs, cells, h, h1, hl, H, hok => by
    obtain ⟨e, hx, hy1⟩ := H 0 (i, x) (j, y) (by simp) (by simp)
    simp only at e hx hy1
    subst e
    obtain ⟨⟨pl, hp, hlen, hfit⟩, hok'⟩ := hok
    have hxl := RL_length hx
    have hcl := RL_length h
    simp only [Array.length_toList] at hxl hcl
    have hcond : ¬ (y.cells.size ≠ pl.2 ∨ pl.1 + y.cells.size > cells.size) := by omega
    have hnew : RL γ p (splice cs pl.1 x) (splice cells.toList pl.1 y.cells.toList) := RL_splice h hx _
    have hnl : (splice cs pl.1 x).length = cs.length := length_splice _ _ _ (by omega)
    obtain ⟨out, ho, hr, ho1⟩ := fill_R (γ := γ) (p := p) (place := place) (ps := ps) (qs := qs) (cs := splice cs pl.1 x) (cells := (splice cells.toList pl.1 y.cells.toList).toArray) (by simpa using hnew)
      (by
        intro u hu
        simp only [splice, List.mem_append] at hu
        rcases hu with hu | hu | hu
        · exact h1 u (List.mem_of_mem_take hu)
        · exact hy1 u hu
        · exact h1 u (List.mem_of_mem_drop hu))
      (by simpa using hl) (fun j x y hx hy => H (j + 1) x y (by simpa using hx) (by simpa using hy)) (by rw [hnl]; exact hok')
    refine ⟨out, ?_, ?_, ho1⟩
    · simp only [Instr.fill, hp]
      rw [if_neg (by simpa using hcond)]
      rw [foldl_set' pl.1 y.cells cells (by omega)]
      exact ho
    · simp only [fillA, hp, Option.getD_some]
      exact hr

/-- where a part of a struct or array stands -/
def placeOf (P : Program) (t : TypeId) (i : Nat) : Option (Nat × Nat) := match P.underlying t with
  | some (.struct _) => (fldOf P t i).map fun x => (x.1, P.cellsOf x.2)
  | some (.array _ e) => some (i * P.cellsOf e, P.cellsOf e)
  | _ => none
def sizedOk (P : Program) (t : TypeId) : Bool := match P.underlying t with
  | some (.struct fs) => fs.toList.all fun f => decide (0 < P.cellsOf f.type)
  | some (.array _ e) => decide (0 < P.cellsOf e)
  | _ => false

theorem run_mapM_list {P : Program} {α β : Type} (f : α → Sem β) (g : α → β) (w : World) : ∀ (l : List α), (∀ x ∈ l, (f x).run P w = .ok (g x) w) → (l.mapM f).run P w = .ok (l.map g) w
  | [], _ => by simp
  | x :: l, h => by
    simp only [List.mapM_cons, Sem.run_bind, h x (by simp), Result.andThen_ok, run_mapM_list f g w l (fun y hy => h y (by simp [hy])), Sem.run_pure, List.map_cons]
theorem run_mapM {P : Program} {α β : Type} (f : α → Sem β) (g : α → β) (w : World) (l : Array α) (h : ∀ x ∈ l.toList, (f x).run P w = .ok (g x) w) : (l.mapM f).run P w = .ok (l.map g) w := by
  rw [Array.mapM_eq_mapM_toList]
  have := run_mapM_list (P := P) f g w l.toList h
  simp only [Sem.run_map, this, Result.andThen_ok]
  congr 1
  apply Array.ext'; simp

def partsA (s : S) (ps : Array (Nat × Operand)) : List (Nat × AV) := ps.toList.map fun p => (p.1, s.ev p.2)
def cellsP (ps : List (Nat × AV)) : List (Nat × List AV) := ps.map fun p => (p.1, cellsA p.2)
def onesP (ps : List (Nat × AV)) : Prop := ∀ p ∈ ps, oneA p.2 = true

section ops
variable {P : Program} {o : Oper} {s : S}

def buildO (P : Program) (s : S) (t : TypeId) (ps : List (Nat × AV)) : Out :=
  s.o (zeroOk P t = true ∧ sizedOk P t = true ∧ onesP ps ∧ fillOk (placeOf P t) (zeroC P t).length (cellsP ps)) (.agg (fillA (placeOf P t) (zeroC P t) (cellsP ps)))

theorem parts_match {γ : Gh} {a : Act} (hr : Rel0 γ s a) (ps : Array (Nat × Operand)) (h1 : onesP (partsA s ps)) :
    (cellsP (partsA s ps)).length = (ps.toList.map fun p => (p.1, a.eval p.2)).length ∧
    ∀ (j : Nat) (x : Nat × List AV) (y : Nat × Value), (cellsP (partsA s ps))[j]? = some x → (ps.toList.map fun p => (p.1, a.eval p.2))[j]? = some y → x.1 = y.1 ∧ RL γ false x.2 y.2.cells.toList ∧ ∀ u ∈ y.2.cells.toList, u.oneCell' = true := by
  refine ⟨by simp [cellsP, partsA], fun j x y hx hy => ?_⟩
  simp only [cellsP, partsA, List.map_map, List.getElem?_map, Option.map_eq_some_iff, Function.comp] at hx hy
  obtain ⟨q, hq, rfl⟩ := hx
  obtain ⟨q', hq', rfl⟩ := hy
  rw [hq] at hq'; cases hq'
  have := cells_R (hr.ev q.2) (h1 (q.1, s.ev q.2) (by simp only [partsA, List.mem_map]; exact ⟨q, List.mem_of_getElem? hq, rfl⟩))
  exact ⟨rfl, this.1, this.2⟩

theorem sound_build {t : TypeId} {ps : Array (Nat × Operand)} (ho : o.op = .build t ps) : (buildO P s t (partsA s ps)).Sound P o s := by
  refine sound_val fun ⟨hz, hsz, h1, hok⟩ γ a hr => ?_
  obtain ⟨z, hzr, hzv, hz1⟩ := zero_run hz
  obtain ⟨hlen, H⟩ := parts_match hr ps h1
  obtain ⟨out, hf, hR, ho1⟩ := fill_R (hzv γ false) hz1 hlen H hok
  refine ⟨.agg out, ?_, ?_⟩
  · unfold execOp
    simp only [ho, Instr.build, Sem.run_bind, hzr, Result.andThen_ok]
    have hps : (ps.map fun p => (p.1, a.eval p.2)).toList = ps.toList.map fun p => (p.1, a.eval p.2) := by simp
    cases hu : P.underlying t with
    | none => simp [sizedOk, hu] at hsz
    | some d =>
      cases d with
      | struct fs =>
        simp only [sizedOk, hu, List.all_eq_true, decide_eq_true_eq] at hsz
        simp only [run_underlying hu, Result.andThen_ok, Sem.run_bind]
        rw [run_mapM (P := P) _ (fun f => (f.offset, P.cellsOf f.type)) γ.w fs (fun f hf' => by simp only [Sem.run_bind, run_sizeOf (hsz f hf'), Result.andThen_ok, Sem.run_pure])]
        have hpl : (fun i => (fs.map fun f => (f.offset, P.cellsOf f.type))[i]?) = placeOf P t := by
          funext i
          simp only [placeOf, hu, fldOf, Array.getElem?_map]
          cases fs[i]? <;> rfl
        simp only [Result.andThen_ok, hps]
        rw [hpl, hf]
        rfl
      | array n e =>
        simp only [sizedOk, hu, decide_eq_true_eq] at hsz
        simp only [run_underlying hu, Result.andThen_ok, Sem.run_bind, run_sizeOf hsz, hps]
        have hpl : (fun i => some (i * P.cellsOf e, P.cellsOf e)) = placeOf P t := by
          funext i
          simp only [placeOf, hu]
        rw [hpl, hf]
        rfl
      | _ => simp [sizedOk, hu] at hsz
  · simp only [R]
    exact ⟨out.toList, by simp, ho1, hR⟩

/-- n zero elements -/
def zrow (zc : List AV) (n : Nat) : List AV := (List.replicate n zc).flatten
theorem length_zrow (zc : List AV) (n : Nat) : (zrow zc n).length = n * zc.length := by simp [zrow]
theorem getElem?_flatten_replicate {α : Type} (l : List α) (hl : 0 < l.length) : ∀ (n i : Nat), i < n * l.length → ((List.replicate n l).flatten)[i]? = l[i % l.length]?
  | 0, i, h => by simp at h
  | n + 1, i, h => by
    rw [List.replicate_succ, List.flatten_cons, List.getElem?_append]
    split
    · rename_i h'; rw [Nat.mod_eq_of_lt h']
    · rename_i h'
      rw [Nat.add_mul, Nat.one_mul] at h
      rw [getElem?_flatten_replicate l hl n (i - l.length) (by omega)]
      congr 1
      rw [Nat.mod_eq_sub_mod (by omega : i ≥ l.length)]
theorem made_R {γ : Gh} {p : Bool} {z : Array Value} {zc : List AV} (h : RL γ p zc z.toList) (hz : 0 < z.size) (n : Nat) : RL γ p (zrow zc n) (madeCells z (n * z.size)).toList := by
  have hl : zc.length = z.size := by simpa using RL_length h
  refine RL_of_get (by simp [length_zrow, hl, size_madeCells]) fun i x y hx hy => ?_
  have hi : i < n * zc.length := by
    have := (List.getElem?_eq_some_iff.1 hx).1
    rwa [length_zrow] at this
  have hm : i % z.size < z.size := Nat.mod_lt _ hz
  unfold zrow at hx
  rw [getElem?_flatten_replicate zc (by omega) n i hi, hl] at hx
  obtain ⟨y', hy', r⟩ := RL_get h _ x hx
  have : y = y' := by
    simp only [madeCells, Array.toList_map, List.getElem?_map, Option.map_eq_some_iff] at hy
    obtain ⟨j, hj, rfl⟩ := hy
    have hj' : j = i := by
      have := (List.getElem?_eq_some_iff.1 hj).2
      simpa using this.symm
    subst hj'
    rw [Array.getElem?_toList] at hy'
    rw [getElem!_pos z (j % z.size) hm]
    rw [Array.getElem?_eq_getElem hm] at hy'
    exact Option.some.inj hy'
  subst this
  exact r
theorem made_one {z : Array Value} (h1 : ∀ u ∈ z.toList, u.oneCell' = true) (hz : 0 < z.size) (n : Nat) : ∀ u ∈ (madeCells z n).toList, u.oneCell' = true := by
  intro u hu
  simp only [madeCells, Array.toList_map, List.mem_map] at hu
  obtain ⟨i, _, rfl⟩ := hu
  have hm : i % z.size < z.size := Nat.mod_lt _ hz
  rw [getElem!_pos z (i % z.size) hm]
  exact h1 _ (by simp)

def makeO (P : Program) (s : S) (t : TypeId) (l c : Operand) : Out := match P.underlying t, s.ev l, s.ev c with
  | some (.slice e), .v (.int _ li), .v (.int _ ci) => match l with
    | .const _ => ⟨li = 0 ∧ 0 ≤ ci ∧ 0 < P.cellsOf e ∧ zinfo P e = true ∧ (P.bytesOf e : Int) * ci ≤ 281474976710656 ∧ ci ≤ 9223372036854775807, .sl (P.cellsOf e) [] 0 (some s.nx), (s.nx, .tok) :: s.hp, s.nx + 1⟩
    | _ => ⟨0 ≤ li ∧ li ≤ ci ∧ 0 < P.cellsOf e ∧ zinfo P e = true ∧ (P.bytesOf e : Int) * ci ≤ 281474976710656 ∧ ci ≤ 9223372036854775807, .bsl (P.cellsOf e) s.nx 0 li.toNat, (s.nx, .box (zrow (zeroC P e) ci.toNat)) :: s.hp, s.nx + 1⟩
  | _, _, _ => s.no
theorem sound_make {t : TypeId} {l c : Operand} (ho : o.op = .makeSlice t l c) : (makeO P s t l c).Sound P o s := by
  unfold makeO
  split
  · rename_i e kl li kc ci hu hl hc
    have hrun : ∀ (γ : Gh) (a : Act), Rel0 γ s a → 0 ≤ li → li ≤ ci → 0 < P.cellsOf e → zinfo P e = true → (P.bytesOf e : Int) * ci ≤ 281474976710656 → ci ≤ 9223372036854775807 →
        ∃ i z, P.info? e = some i ∧ i.zero = some z ∧ z.cells.size = P.cellsOf e ∧ (∀ u ∈ z.cells.toList, u.oneCell' = true) ∧ zeroC P e = z.cells.toList.map .v ∧
        (execOp a.eval o).run P γ.w = .ok (.value (.slice (some ⟨γ.w.heap.size, 0, none⟩) li.toNat ci.toNat)) (γ.w.alloc (.cells (madeCells z.cells (ci.toNat * P.cellsOf e)) e)) := by
      intro γ a hr h0 h1 hz0 hzi hby h63
      obtain ⟨i, z, hi, hz, hzs, hz1, hzc⟩ := zinfo_some hzi
      obtain ⟨i', hi', e1, e2⟩ := info_of hz0
      rw [hi] at hi'; cases hi'
      have hl' : a.eval l = .int kl li := by have := hr.ev l; rw [hl] at this; simpa [R] using this
      have hc' : a.eval c = .int kc ci := by have := hr.ev c; rw [hc] at this; simpa [R] using this
      refine ⟨i, z, hi, hz, by rw [hzs, e1], hz1, hzc, ?_⟩
      unfold execOp
      simp only [ho, hl', hc', Sem.run_bind, Sem.run_pure, run_make (P := P) γ.w t e i z hu hi hz kl kc li ci h0 h1 (by rw [e2]; exact hby) h63, Result.andThen_ok, e1]
    split
    · rename_i v
      intro ⟨h0, h1, hz0, hzi, hby, h63⟩ γ a hr hfr
      subst h0
      obtain ⟨i, z, hi, hz, hzs, hz1, hzc, hx⟩ := hrun γ a hr (by omega) h1 hz0 hzi hby h63
      obtain ⟨γ', hw, hst, hR⟩ := ghost_sl hr.hr hr.bs (hfr s.nx (Nat.le_refl _) (Nat.lt_succ_self _)) (P.cellsOf e) 0 ci.toNat [] [] (by simp) RL_nil e (madeCells z.cells (ci.toNat * P.cellsOf e)) (by simp) (by simp) (by omega) (by simp only [maxLen]; omega) (by rw [size_madeCells]; exact Nat.le_refl _)
      exact ⟨_, γ', .inl (by rw [hx, hw]; rfl), hst, hR⟩
    · intro ⟨h0, h1, hz0, hzi, hby, h63⟩ γ a hr hfr
      obtain ⟨i, z, hi, hz, hzs, hz1, hzc, hx⟩ := hrun γ a hr h0 h1 hz0 hzi hby h63
      have hzz : 0 < z.cells.size := by omega
      have hzl : RL γ false (zeroC P e) z.cells.toList := by rw [hzc]; exact RL_vs _ _ _
      obtain ⟨γ', hw, hst, hR⟩ := ghost_box hr.hr hr.bs (hfr s.nx (Nat.le_refl _) (Nat.lt_succ_self _)) (zrow (zeroC P e) ci.toNat) (madeCells z.cells (ci.toNat * z.cells.size)).toList (made_one hz1 hzz _) (made_R hzl hzz _) e
      refine ⟨.slice (some ⟨γ.w.heap.size, 0, none⟩) li.toNat ci.toNat, γ', .inl (by rw [hx, hw, hzs]), hst, ?_⟩
      · simp only [R] at hR ⊢
        obtain ⟨g1, g2, b, g3, g4⟩ := hR
        cases g4
        exact ⟨trivial, g2, _, _, _, g3, rfl, by omega, by simp only [maxLen]; omega, .inr rfl⟩
  · exact sound_no

def inOrder (n : Nat) (ps : List (Nat × AV)) : Bool := ps.map (·.1) == List.range n
def buildSliceO (P : Program) (s : S) (t : TypeId) (n : Nat) (ps : List (Nat × AV)) : Out := match P.underlying t with
  | some (.slice e) => ⟨0 < P.cellsOf e ∧ zinfo P e = true ∧ n * P.cellsOf e ≤ 16777216 ∧ onesP ps ∧ plL (dkL ((cellsP ps).flatMap (·.2))) ∧ (∀ x ∈ cellsP ps, x.2.length = P.cellsOf e) ∧ inOrder n ps = true,
      .sl (P.cellsOf e) (dkL ((cellsP ps).flatMap (·.2))) n (some s.nx), (s.nx, .tok) :: s.hp, s.nx + 1⟩
  | _ => s.no


theorem fillA_inorder (z : Nat) : ∀ (ps : List (Nat × List AV)) (k : Nat) (cs : List AV), ps.map (·.1) = List.range' k ps.length → (∀ x ∈ ps, x.2.length = z) → (k + ps.length) * z ≤ cs.length →
    fillA (fun i => some (i * z, z)) cs ps = cs.take (k * z) ++ (ps.flatMap (·.2) ++ cs.drop ((k + ps.length) * z))
  | [], k, cs, _, _, _ => by simp [fillA]
  | (i, x) :: ps, k, cs, h, hl, hf => by
    simp only [List.map_cons, List.length_cons, List.range'_succ, List.cons.injEq] at h
    obtain ⟨rfl, h⟩ := h
    have hx : x.length = z := hl (i, x) (by simp)
    simp only [List.length_cons] at hf
    have e1 : (i + (ps.length + 1)) * z = i * z + z + ps.length * z := by rw [Nat.add_mul, Nat.add_mul, Nat.one_mul]; omega
    have hsl : (splice cs (i * z) x).length = cs.length := length_splice _ _ _ (by rw [hx]; omega)
    have e2 : (i + 1 + ps.length) * z = i * z + z + ps.length * z := by rw [Nat.add_mul, Nat.add_mul, Nat.one_mul]
    have e3 : (i + 1) * z = i * z + z := by rw [Nat.add_mul, Nat.one_mul]
    simp only [fillA, Option.getD_some]
    rw [fillA_inorder z ps (i + 1) _ h (fun y hy => hl y (by simp [hy])) (by rw [hsl]; omega)]
    rw [e2, e3]
    simp only [List.length_cons, List.flatMap_cons]
    rw [e1]
    unfold splice
    have hi : i * z ≤ cs.length := by omega
    rw [List.take_append, List.length_take, Nat.min_eq_left hi, List.take_take, Nat.min_eq_right (by omega : i * z ≤ i * z + z)]
    rw [List.take_append, hx, show i * z + z - i * z = z from by omega, List.take_of_length_le (by omega : x.length ≤ z), Nat.sub_self, List.take_zero, List.append_nil]
    rw [List.drop_append, List.length_take, Nat.min_eq_left hi, List.drop_of_length_le (by rw [List.length_take]; omega), List.nil_append]
    rw [List.drop_append, hx, List.drop_of_length_le (by omega), List.nil_append, List.drop_drop]
    rw [List.append_assoc, List.append_assoc]
    congr 4
    omega

theorem sound_buildSlice {t : TypeId} {n : Nat} {ps : Array (Nat × Operand)} (ho : o.op = .buildSlice t n ps) : (buildSliceO P s t n (partsA s ps)).Sound P o s := by
  unfold buildSliceO
  split
  · rename_i e hu
    intro ⟨hz0, hzi, hlim, h1, hpl, hsz, hord⟩ γ a hr hfr
    obtain ⟨i, z, hi, hz, hzs, hz1, hzc⟩ := zinfo_some hzi
    obtain ⟨i', hi', e1, e2⟩ := info_of hz0
    rw [hi] at hi'; cases hi'
    obtain ⟨hlen, H⟩ := parts_match hr ps h1
    have hzz : z.cells.size = P.cellsOf e := by rw [hzs, e1]
    have hzl : RL γ false (zeroC P e) z.cells.toList := by rw [hzc]; exact RL_vs _ _ _
    have hzcl : (zeroC P e).length = P.cellsOf e := by rw [hzc]; simp [hzz]
    simp only [inOrder, beq_iff_eq] at hord
    have hpn : (cellsP (partsA s ps)).length = n := by
      have := congrArg List.length hord
      simpa [cellsP] using this
    have hord' : (cellsP (partsA s ps)).map (·.1) = List.range' 0 (cellsP (partsA s ps)).length := by
      rw [hpn, ← List.range_eq_range', ← hord]
      simp [cellsP]
    have hok : ∀ (l : List (Nat × List AV)) (k : Nat), l.map (·.1) = List.range' k l.length → (∀ x ∈ l, x.2.length = P.cellsOf e) → k + l.length ≤ n → fillOk (fun i => some (i * P.cellsOf e, P.cellsOf e)) (n * P.cellsOf e) l := by
      intro l
      induction l with
      | nil => intro k _ _ _; trivial
      | cons x l ih =>
        intro k h hl hk
        obtain ⟨i, x⟩ := x
        simp only [List.map_cons, List.length_cons, List.range'_succ, List.cons.injEq] at h hk
        obtain ⟨rfl, h⟩ := h
        refine ⟨⟨_, rfl, hl (i, x) (by simp), ?_⟩, ih (i + 1) h (fun y hy => hl y (by simp [hy])) (by omega)⟩
        have : (i + 1) * P.cellsOf e ≤ n * P.cellsOf e := Nat.mul_le_mul_right _ (by omega)
        rw [Nat.add_mul, Nat.one_mul] at this
        exact this
    have hmade : RL γ false (zrow (zeroC P e) n) (madeCells z.cells (n * P.cellsOf e)).toList := by
      have := made_R (n := n) hzl (by omega)
      rwa [hzz] at this
    have hmade1 : ∀ u ∈ (madeCells z.cells (n * P.cellsOf e)).toList, u.oneCell' = true := made_one hz1 (by omega) _
    have hzrl : (zrow (zeroC P e) n).length = n * P.cellsOf e := by rw [length_zrow, hzcl]
    obtain ⟨out, hf, hR, ho1⟩ := fill_R hmade hmade1 hlen H (by rw [hzrl]; exact hok _ 0 hord' hsz (by omega))
    rw [fillA_inorder (P.cellsOf e) _ 0 _ hord' hsz (by rw [hzrl, hpn, Nat.zero_add]; exact Nat.le_refl _)] at hR
    rw [hpn, Nat.zero_add, Nat.zero_mul, List.take_zero, List.nil_append, List.drop_of_length_le (by rw [hzrl]; exact Nat.le_refl _), List.append_nil] at hR
    have hol : out.size = n * P.cellsOf e := by
      have h2 := (RL_length hR).trans Array.length_toList
      rw [← h2]
      have : ∀ (l : List (Nat × List AV)), (∀ x ∈ l, x.2.length = P.cellsOf e) → (l.flatMap (·.2)).length = l.length * P.cellsOf e := by
        intro l
        induction l with
        | nil => intro _; simp
        | cons x l ih => intro h; rw [List.flatMap_cons, List.length_append, ih (fun y hy => h y (by simp [hy])), h x (by simp), List.length_cons, Nat.add_mul, Nat.one_mul]; omega
      rw [this _ hsz, hpn]
    have hnm : n ≤ maxLen := by
      have : n ≤ n * P.cellsOf e := Nat.le_mul_of_pos_right _ hz0
      simp only [maxLen]; omega
    obtain ⟨γ', hw, hst, hRs⟩ := ghost_sl hr.hr hr.bs (hfr s.nx (Nat.le_refl _) (Nat.lt_succ_self _)) (P.cellsOf e) n n _ out.toList ho1 (plL_R (dkL_R hR) hpl) e out (by rw [Array.length_toList]; exact List.take_of_length_le (by simp)) (by rw [dkL_length, RL_length hR, Array.length_toList, hol]) (Nat.le_refl _) hnm (by omega)
    refine ⟨.slice (some ⟨γ.w.heap.size, 0, none⟩) n n, γ', .inl ?_, hst, hRs⟩
    · unfold execOp
      have hps : (ps.map fun p => (p.1, a.eval p.2)).toList = ps.toList.map fun p => (p.1, a.eval p.2) := by simp
      simp only [ho, Instr.buildSlice, Sem.run_bind, run_underlying hu, Result.andThen_ok, run_sizeOf hz0]
      rw [if_neg (by omega)]
      by_cases hn0 : n * P.cellsOf e = 0
      · rw [if_pos hn0]
        have harr : ((Array.range (n * P.cellsOf e)).map fun x => (#[] : Array Value)[x % (#[] : Array Value).size]!) = madeCells z.cells (n * P.cellsOf e) := by simp [hn0, madeCells]
        simp only [Sem.run_bind, Sem.run_pure, Result.andThen_ok, hps, harr, hf, newRow, run_newObj, hw]
        rfl
      · rw [if_neg hn0]
        have harr : ((Array.range (n * P.cellsOf e)).map fun x => z.cells[x % z.cells.size]!) = madeCells z.cells (n * P.cellsOf e) := rfl
        simp only [Sem.run_bind, Sem.run_pure, Result.andThen_ok, zeroValue, typeInfo, hi, hz, run_program, hps, harr, hf, newRow, run_newObj, hw]
        rfl
  · exact sound_no

def copyO (P : Program) (s : S) (t : TypeId) (A X : AV) : Out := match P.underlying t with
  | some (.slice e) => match srcA s.hp (P.cellsOf e) X, un A with
    | some (ds, m), .bsl z id off n => ⟨z = P.cellsOf e ∧ 0 < z ∧ srcOk s.hp (P.cellsOf e) X ∧ 0 < (rowOf s.hp id).length ∧ off + min m n * z ≤ (rowOf s.hp id).length,
        int (min m n : Nat), rep s.hp id (.box (splice (rowOf s.hp id) off (ds.take (min m n * z)))), s.nx⟩
    | _, _ => s.no
  | _ => s.no
theorem sound_copy {t tx : TypeId} {x y : Operand} (ho : o.op = .call { callee := .builtin .copy, args := #[x, y], argTypes := #[t, tx] }) : (copyO P s t (s.ev x) (s.ev y)).Sound P o s := by
  unfold copyO
  split
  · rename_i e hu
    split
    · rename_i ds m z id off n hs hA
      intro ⟨hz, hz0, hok, hrow0, hfit⟩ γ a hr _
      subst hz
      obtain ⟨hdl, hlen, vs, hv, hv1, hf⟩ := src_read (P := P) hr.hr (hr.ev y) hs hok
      have hR := un_R (hr.ev x)
      rw [hA] at hR
      simp only [R] at hR
      obtain ⟨_, _, b, ad, cap, hb, hx, _, _, h5⟩ := hR
      have hrow := rowOf_some (hp := s.hp) (id := id) hrow0
      obtain ⟨cur, e', _, hc, _, k1, hcv⟩ := box_block hr.hr hrow hb
      have hvl : vs.length = m * P.cellsOf e := by rw [← RL_length hv, hdl]
      have hmm : min m n * P.cellsOf e ≤ m * P.cellsOf e := Nat.mul_le_mul_right _ (Nat.min_le_left _ _)
      have hcl : cur.size = (rowOf s.hp id).length := by have := RL_length hcv; simpa using this.symm
      obtain ⟨γ', hw, hst0⟩ := ghost_store hr.hr hrow hb cur e' hc off (ds.take (min m n * P.cellsOf e)) (vs.take (min m n * P.cellsOf e)) (fun u hu => hv1 u (List.mem_of_mem_take hu)) (RL_take (RL_np _ _ hv) _) (by rw [List.length_take, hdl]; omega)
      have hfc := hf γ.w (min m n) (Nat.min_le_left _ _) (fun _ => rfl)
      have hst : (storeCells ad (vs.take (min m n * P.cellsOf e))).run P γ.w = .ok () γ'.w := by
        rcases h5 with h5 | rfl
        · subst h5
          simp only [Nat.min_zero, Nat.zero_mul, List.take_zero, storeCells, Sem.run_pure, hw]
          congr 1
          simp only [List.append_nil, List.length_nil, Nat.add_zero, List.take_append_drop, Array.toArray_toList]
          exact (setRow_self _ _ _ _ _ hc).symm
        · have := run_storeCells_at P b off e' (vs.take (min m n * P.cellsOf e)) 0 cur γ.w hc (by rw [List.length_take]; omega) (fun u hu => hv1 u (List.mem_of_mem_take hu))
          rw [hw]; simpa using this
      refine ⟨.int .i64 (min m n : Nat), γ', .inl ?_, hst0.widen _ _, by simp only [R, int]⟩
      unfold execOp
      simp only [ho, resolve, invoke, builtin, Sem.run_bind, Sem.run_pure, Result.andThen_ok, List.map_toArray, List.map_cons, List.map_nil, hx]
      simp only [Builtin.copy_, List.getElem?_toArray, List.getElem?_cons_zero, List.getElem?_cons_succ, Sem.run_bind, run_underlying hu, Result.andThen_ok, hlen, Sem.run_pure', run_sizeOf hz0]
      have e1 : Nat.min m n = min m n := rfl
      rw [e1]
      simp only [hfc, Result.andThen_ok, Sem.run_bind, hst, Sem.run_pure]
      rfl
    · exact sound_no
  · exact sound_no

/-- an integer's kind -/
def kindOf (P : Program) (t : TypeId) : Option IntKind := match P.underlying t with
  | some (.int k) => some k
  | _ => none
def byteA : AV → Option UInt8
  | .v (.int .u8 n) => if 0 ≤ n ∧ n < 256 then some (UInt8.ofNat n.toNat) else none
  | _ => none
def bytesA (cs : List AV) : List UInt8 := cs.map fun x => (byteA x).getD 0
def bytesOk (cs : List AV) : Prop := ∀ x ∈ cs, (byteA x).isSome = true
def convM (P : Program) (s : S) (t : TypeId) (A : AV) : Out := match A with
  | .sl z cs n (some k) => match P.underlying t with
    | some (.slice e) => ⟨P.underlying e = some (.int .u8) ∧ 0 < n ∧ look s.hp k = some .tok, .sl z cs n none, del s.hp k, s.nx⟩
    | _ => s.no
  | _ => s.no
def convO (P : Program) (s : S) (src dst : TypeId) (A : AV) : Out := match A with
  | .v (.int _ n) => match kindOf P dst with
    | some k => s.o ((P.underlying src).isSome = true) (.v (.int k (k.wrap n)))
    | none => s.no
  | .v (.slice none 0 0) => match P.underlying src, P.underlying dst with
    | some (.slice e), some .string => s.o (P.underlying e = some (.int .u8)) (.v (.string .empty))
    | _, _ => s.no
  | A => if src = dst then convM P s src A else match P.underlying src, P.underlying dst, srcA s.hp 1 A with
    | some (.slice e), some .string, some (ds, m) => s.o (P.underlying e = some (.int .u8) ∧ srcOk s.hp 1 A ∧ bytesOk ds ∧ (match A with | .sl _ _ _ _ => True | .bsl _ _ _ _ => True | _ => False)) (.v (.string ⟨(bytesA ds).toArray⟩))
    | _, _, _ => s.no

end ops
end Go.Eng

namespace Go.Eng
set_option linter.unusedSimpArgs false
set_option linter.unusedVariables false
open Go Go.RowKit

theorem bytes_ints {γ : Gh} {p : Bool} : ∀ {ds : List AV} {vs : List Value}, RL γ p ds vs → bytesOk ds → ∃ ns : List Int, vs = ns.map (Value.int .u8) ∧ ns.map (fun n => UInt8.ofNat n.toNat) = bytesA ds
  | [], vs, h, _ => by simp only [RL] at h; exact ⟨[], by simp [h], rfl⟩
  | x :: ds, vs, h, hb => by
    simp only [RL] at h
    obtain ⟨u, us, rfl, hx, hr⟩ := h
    obtain ⟨ns, rfl, hn⟩ := bytes_ints hr (fun y hy => hb y (by simp [hy]))
    have hx1 := hb x (by simp)
    cases x with
    | v y =>
      simp only [R] at hx
      subst hx
      cases u with
      | int k n =>
        cases k <;> simp only [byteA] at hx1 <;> first | (cases hx1; done) | skip
        split at hx1
        · rename_i h
          exact ⟨n :: ns, by simp, by rw [List.map_cons, hn]; simp only [bytesA, List.map_cons, byteA, if_pos h, Option.getD_some]⟩
        · cases hx1
      | _ => cases hx1
    | _ => cases hx1
theorem foldl_push : ∀ (ns : List Int) (b : ByteArray), (ns.foldl (fun r n => r.push (UInt8.ofNat n.toNat)) b) = ⟨b.data ++ (ns.map (fun n => UInt8.ofNat n.toNat)).toArray⟩
  | [], b => by simp
  | n :: ns, b => by
    rw [List.foldl_cons, foldl_push ns]
    congr 1
    apply Array.ext'
    simp [ByteArray.push]

section ops
variable {P : Program} {o : Oper} {s : S}
theorem sound_conv {src dst : TypeId} {x : Operand} (ho : o.op = .convert src dst x) : (convO P s src dst (s.ev x)).Sound P o s := by
  have key : ∀ (γ : Gh) (a : Act) (v : Value), (convert src dst (a.eval x)).run P γ.w = .ok v γ.w → (execOp a.eval o).run P γ.w = .ok (.value v) γ.w := by
    intro γ a v h
    unfold execOp
    simp only [ho, Sem.run_bind, h, Result.andThen_ok, Sem.run_pure]
  unfold convO
  split
  · rename_i k n hA
    split
    · rename_i kd hk
      refine sound_val fun h γ a hr => ?_
      have hR := hr.ev x
      rw [hA] at hR
      simp only [R] at hR
      have hd : P.underlying dst = some (.int kd) := by
        unfold kindOf at hk
        split at hk
        · rename_i h'; cases hk; exact h'
        · cases hk
      obtain ⟨d, hd'⟩ := Option.isSome_iff_exists.mp h
      exact ⟨_, key γ a _ (by rw [hR]; simp [convert, run_underlying hd', run_underlying hd, Conv.intToInt]; rfl), by simp only [R]⟩
    · exact sound_no
  · rename_i hA
    split
    · rename_i e h1 h2
      refine sound_val fun h γ a hr => ?_
      have hR := hr.ev x
      rw [hA] at hR
      simp only [R] at hR
      exact ⟨_, key γ a _ (by rw [hR]; simp [convert, run_underlying h1, run_underlying h2, run_underlying h, Conv.bytesToString]; rfl), by simp only [R]⟩
    · exact sound_no
  split
  · rename_i heq
    subst heq
    unfold convM
    split
    · rename_i z cs n k hA
      split
      · rename_i e hu
        rintro ⟨h8, hn, hk⟩ γ a hr hfr
        have hR := hr.ev x
        rw [hA] at hR
        simp only [R] at hR
        obtain ⟨ad, cap, hx, h1, h2, h3, h4, h5, h6⟩ := hR
        obtain ⟨_, hkl, htk, htl⟩ := h6 k rfl
        rcases htl ((hr.hr.tok k).2 hk) with rfl | ⟨b, o', cur, e', rfl, hb, hbase, hc, him, hcap⟩
        · have := h4 rfl; omega
        · obtain ⟨γ', hw, hst⟩ := ghost_mark (j := cur.size) hr.hr hk hb hc
          refine ⟨.slice (some ⟨b, o', none⟩) n cap, γ', .inl ?_, hst.widen _ _, ?_⟩
          · unfold execOp
            have hsh : γ.w.shape? b = some (e', cur.size) := by unfold World.shape?; rw [hc]
            simp only [ho, Sem.run_bind, hx]
            simp [convert, run_underlying hu, run_underlying h8, markStringish, hsh, hw]
          · simp only [R]
            refine ⟨_, cap, rfl, h1, h2, h3, h4, ?_, fun k' e => by cases e⟩
            rcases h5 with h5 | ⟨b', o2, e2, hi, hcs⟩
            · omega
            · refine .inr ⟨b', o2, e2, Nat.le_trans hi (hst.le.im b'), RC_mono hst.le b' cs o2 (by rw [h3]; exact hi) hcs⟩
      · exact sound_no
    · exact sound_no
  · split
    · rename_i _ _ e ds m h1 h2 hs
      refine sound_val fun ⟨h, hok, hb, hkind⟩ γ a hr => ?_
      obtain ⟨hdl, hlen, vs, hv, hv1, hf⟩ := src_read (P := P) hr.hr (hr.ev x) hs hok
      obtain ⟨ns, rfl, hn⟩ := bytes_ints hv hb
      have hnl : (ns.map (Value.int .u8)).length = m := by rw [← RL_length hv, hdl]; omega
      have hfc := hf γ.w m (Nat.le_refl _) (fun _ => rfl)
      rw [List.take_of_length_le (by omega)] at hfc
      obtain ⟨ad, cap, hx⟩ : ∃ ad cap, a.eval x = .slice ad m cap := by
        have hR := hr.ev x
        cases hA : s.ev x with
        | sl z cs n k =>
          rw [hA] at hs hR
          simp only [srcA] at hs
          split at hs
          · cases hs
            simp only [R] at hR
            obtain ⟨ad, cap, hx, _⟩ := hR
            exact ⟨ad, cap, hx⟩
          · cases hs
        | bsl z id off n =>
          rw [hA] at hs hR
          simp only [srcA] at hs
          split at hs
          · simp only [Option.some.injEq, Prod.mk.injEq] at hs
            obtain ⟨_, rfl⟩ := hs
            simp only [R] at hR
            obtain ⟨_, _, b, ad, cap, _, hx, _⟩ := hR
            exact ⟨_, cap, hx⟩
          · cases hs
        | _ => rw [hA] at hkind; exact hkind.elim
      refine ⟨.string ⟨(bytesA ds).toArray⟩, key γ a _ ?_, by simp only [R]⟩
      rw [hx] at hfc ⊢
      have hconv : (convert src dst (.slice ad m cap)).run P γ.w = (Conv.bytesToString (.slice ad m cap)).run P γ.w := run_convert_bytes_string (P := P) γ.w src dst e ad m cap h1 h h2
      rw [hconv]
      cases ad with
      | none =>
        have hm0 : ns = [] := by
          simp only [Builtin.firstCells, Sem.run_pure] at hfc
          injection hfc with h1 _
          have := congrArg Array.toList h1
          simpa using this.symm
        subst hm0
        simp only [Conv.bytesToString, Sem.run_pure, ← hn]
        rfl
      | some ad =>
        simp only [Builtin.firstCells, Nat.mul_one] at hfc
        rw [run_bytesToString (P := P) γ.w ad m cap ns hfc, foldl_push, hn]
        congr 3
        exact Array.empty_append
    · exact sound_no

def nilCheckO (s : S) (A : AV) : Out := match A with
  | .loc id off => s.o True (.loc id off)
  | .ptr cs => s.o True (.ptr cs)
  | .fn (.func f) fs cs => s.o True (.fn (.func f) fs cs)
  | .v (.func (.func f) fs cs) => s.o True (.v (.func (.func f) fs cs))
  | _ => s.no
theorem sound_nilCheck {x : Operand} (ho : o.op = .nilCheck x) : (nilCheckO s (s.ev x)).Sound P o s := by
  unfold nilCheckO
  split
  · rename_i id off hA
    refine sound_val fun _ γ a hr => ?_
    have hR := hr.ev x
    rw [hA] at hR
    have hR' := hR
    simp only [R] at hR
    obtain ⟨_, _, b, _, hx⟩ := hR
    rw [hx] at hR'
    exact ⟨_, by unfold execOp; simp only [ho, hx, Sem.run_pure], hR'⟩
  · rename_i cs hA
    refine sound_val fun _ γ a hr => ?_
    have hR := hr.ev x
    rw [hA] at hR
    have hR' := hR
    simp only [R] at hR
    obtain ⟨b, o, hx, _⟩ := hR
    rw [hx] at hR'
    exact ⟨_, by unfold execOp; simp only [ho, hx, Sem.run_pure], hR'⟩
  · rename_i f fs cs hA
    refine sound_val fun _ γ a hr => ?_
    have hR := hr.ev x
    rw [hA] at hR
    have hR' := hR
    simp only [R] at hR
    obtain ⟨us, vs, hx, _⟩ := hR
    rw [hx] at hR'
    exact ⟨_, by unfold execOp; simp only [ho, hx, Sem.run_pure], hR'⟩
  · rename_i f fs cs hA
    refine sound_val fun _ γ a hr => ?_
    have hR := hr.ev x
    rw [hA] at hR
    have hR' := hR
    simp only [R] at hR
    rw [hR] at hR'
    exact ⟨_, by unfold execOp; simp only [ho, hR, Sem.run_pure], hR'⟩
  · exact sound_no

theorem sound_move {x : Operand} (ho : o.op = .move x) : (s.o True (s.ev x)).Sound P o s :=
  sound_val fun _ γ a hr => ⟨a.eval x, by unfold execOp; simp only [ho, Sem.run_pure], hr.ev x⟩
theorem sound_assign {x : Operand} (ho : o.op = .assign x) : (s.o True (s.ev x)).Sound P o s :=
  sound_val fun _ γ a hr => ⟨a.eval x, by unfold execOp; simp only [ho, Sem.run_pure], hr.ev x⟩
theorem sound_binOp {op : BinOp} {t t' : TypeId} {x y : Operand} (ho : o.op = .binOp op t x y t') : (s.o (binO P t op (s.ev x) (s.ev y)).1 (binO P t op (s.ev x) (s.ev y)).2).Sound P o s :=
  sound_val fun h γ a hr => by
    obtain ⟨r, h1, h2, h3⟩ := binO_sound P t op x y _ _ _ _ γ (hr.ev x) (hr.ev y) h
    exact ⟨r, by unfold execOp; simp only [ho, Sem.run_bind, h1, h2, Result.andThen_ok, Sem.run_pure], h3⟩
theorem sound_pick {c x y : Operand} (ho : o.op = .pick c x y) : (s.o (pickOk (s.ev c)) (pickA (s.ev c) (s.ev x) (s.ev y))).Sound P o s :=
  sound_val fun h γ a hr => by
    have hR := hr.ev c
    cases hA : s.ev c with
    | v u =>
      rw [hA] at hR h
      simp only [R] at hR
      cases u with
      | bool b =>
        refine ⟨if b then a.eval x else a.eval y, by unfold execOp; simp only [ho, hR, asBool, Sem.run_bind, Sem.run_pure, Result.andThen_ok], ?_⟩
        cases b
        · exact hr.ev y
        · exact hr.ev x
      | _ => exact h.elim
    | _ => rw [hA] at h; exact h.elim

/-- One operation: what it comes to. -/
def ev1 (P : Program) (s : S) : Op → Out
  | .move x => s.o True (s.ev x)
  | .assign x => s.o True (s.ev x)
  | .pick c x y => s.o (pickOk (s.ev c)) (pickA (s.ev c) (s.ev x) (s.ev y))
  | .alloc t => boxO s (zeroOk P t = true) (zeroC P t)
  | .box _ x => boxO s (oneA (s.ev x) = true) (cellsA (s.ev x))
  | .build t ps => buildO P s t (partsA s ps)
  | .buildSlice t n ps => buildSliceO P s t n (partsA s ps)
  | .load t x => loadO P s t (gl (s.ev x))
  | .store t x y => storeO P s t (s.ev x) (s.ev y)
  | .nilCheck x => nilCheckO s (s.ev x)
  | .binOp op t x y _ => s.o (binO P t op (s.ev x) (s.ev y)).1 (binO P t op (s.ev x) (s.ev y)).2
  | .unOp op _ x => s.o (unO op (s.ev x)).1 (unO op (s.ev x)).2
  | .convert src dst x => convO P s src dst (s.ev x)
  | .makeFunc f fs cs => makeFuncO s f (fs.toList.map s.ev) (cs.toList.map s.ev)
  | .makeSlice t l c => makeO P s t l c
  | .slice t x lo hi mx => sliceO P s t (s.ev x) lo hi mx
  | .fieldAddr t x f => fieldAddrO P s t (gl (s.ev x)) f
  | .field t x f => fieldO P s t (s.ev x) f
  | .indexAddr t x y => indexAddrO P s t (gl (s.ev x)) (s.ev y)
  | .index t x y => indexO P s t (s.ev x) (s.ev y)
  | .extract x i => extractO s (s.ev x) i
  | .call { callee := .builtin .len, args, argTypes } => match args.toList, argTypes.toList with
    | [x], [t] => lenO P s t (s.ev x)
    | _, _ => s.no
  | .call { callee := .builtin .append, args, argTypes } => match args.toList, argTypes.toList with
    | [x, y], [t, tx] => appendO P s t tx (s.ev x) (s.ev y)
    | _, _ => s.no
  | .call { callee := .builtin .copy, args, argTypes } => match args.toList, argTypes.toList with
    | [x, y], [t, _] => copyO P s t (s.ev x) (s.ev y)
    | _, _ => s.no
  | _ => s.no

theorem arr1 {α : Type} {a : Array α} {x : α} (h : a.toList = [x]) : a = #[x] := by apply Array.ext'; simpa using h
theorem arr2 {α : Type} {a : Array α} {x y : α} (h : a.toList = [x, y]) : a = #[x, y] := by apply Array.ext'; simpa using h
theorem ev1_sound (P : Program) (o : Oper) (s : S) : (ev1 P s o.op).Sound P o s := by
  unfold ev1
  split
  case h_1 x h => exact sound_move h
  case h_2 x h => exact sound_assign h
  case h_3 c x y h => exact sound_pick h
  case h_4 t h => exact sound_alloc h
  case h_5 t x h => exact sound_box h
  case h_6 t ps h => exact sound_build h
  case h_7 t n ps h => exact sound_buildSlice h
  case h_8 t x h => exact sound_load h
  case h_9 t x y h => exact sound_store h
  case h_10 x h => exact sound_nilCheck h
  case h_11 op t x y t' h => exact sound_binOp h
  case h_12 op t x h => exact sound_unOp h
  case h_13 src dst x h => exact sound_conv h
  case h_14 f fs cs h => exact sound_makeFunc h
  case h_15 t l c h => exact sound_make h
  case h_16 t x lo hi mx h => exact sound_slice h
  case h_17 t x f h => exact sound_fieldAddr h
  case h_18 t x f h => exact sound_field h
  case h_19 t x y h => exact sound_indexAddr h
  case h_20 t x y h => exact sound_index h
  case h_21 x i h => exact sound_extract h
  case h_22 args ts h =>
    split
    · rename_i x t h1 h2; rw [arr1 h1, arr1 h2] at h; exact sound_len h
    · exact sound_no
  case h_23 args ts h =>
    split
    · rename_i x y t tx h1 h2; rw [arr2 h1, arr2 h2] at h; exact sound_append h
    · exact sound_no
  case h_24 args ts h =>
    split
    · rename_i x y t tx h1 h2; rw [arr2 h1, arr2 h2] at h; exact sound_copy h
    · exact sound_no
  case h_25 => exact sound_no

end ops
end Go.Eng

