/- A reading of memory as data, and a symbolic evaluator over it, proved sound; no condition. -/
import Derived.Test.YtpknjecfloglgaaDoorTriePartsEngB
import Derived.Lib.BytesEntry
import Derived.Laws.Externs
import Derived.Scope
import Derived.ProofKit
import Derived.OpenShut
import Derived.ShutString
import Derived.ChangeOld
import Derived.ChangeArms
import Derived.WideShapes
import Derived.FnData
import Derived.LaidMore
import Derived.MakeChecks
set_option linter.unusedVariables false
set_option linter.unusedSimpArgs false
namespace Go.Eng
set_option linter.unusedSimpArgs false
set_option linter.unusedVariables false
open Go Go.RowKit
section
variable {P : Program} {C : Cx} {al : Bool} {T : Nat → Tch} {ops : Array Oper} {ss : Nat → S}

theorem free_top {γ : Gh} {hp : List (Nat × Ob)} {A : AV} {y : Value} (h : R γ false A y) {l : Nat} (hl : l ∈ topL A) : ¬ Free γ hp l := by
  intro hf
  cases A with
  | loc id off =>
    simp only [topL, List.mem_singleton] at hl; subst hl
    simp only [R] at h
    obtain ⟨_, _, b, hm, _⟩ := h
    rw [hf.2.1] at hm; cases hm
  | bsl z id off n =>
    simp only [topL, List.mem_singleton] at hl; subst hl
    simp only [R] at h
    obtain ⟨_, _, b, _, _, hm, _⟩ := h
    rw [hf.2.1] at hm; cases hm
  | csl z id off n c =>
    simp only [topL, List.mem_singleton] at hl; subst hl
    simp only [R] at h
    obtain ⟨_, _, b, hm, _⟩ := h
    rw [hf.2.1] at hm; cases hm
  | sl z cs n k =>
    cases k with
    | none => simp [topL] at hl
    | some k =>
      simp only [topL, List.mem_singleton] at hl; subst hl
      simp only [R] at h
      obtain ⟨_, _, _, _, _, _, _, _, ht⟩ := h
      have := (ht l rfl).2.2.1
      rw [hf.2.2.2] at this; cases this
  | _ => simp [topL] at hl

theorem any_sound (hord : Ords ops (fun i => (ss i).nx) T) (hs : ∀ i o, ops[i]? = some o → StepAt P C al (T i) ops i o (ss i) (ss (i + 1)))
    (hwf : ∀ i, i ≤ ops.size → ∀ l, look (ss i).hp l ≠ none → l < (ss i).nx) {Q : Exit → Act → World → Prop} (lo : Nat) :
    ∀ (fuel : Nat) (listed : Array Bool) (γ : Gh) (hp : List (Nat × Ob)) (a : Act), Inv P C T ops ss listed γ hp a → left ops listed ≤ fuel → lo ≤ γ.nx →
      (∀ γ' a', γ.le lo γ' → Rel γ' (ss ops.size) a' → Q .normal a' γ'.w) → wpAnyIn (FF C.r) 0 P .any ops Q fuel listed a γ.w := by
  have done : ∀ (listed : Array Bool) (γ : Gh) (hp : List (Nat × Ob)) (a : Act), Inv P C T ops ss listed γ hp a → lo ≤ γ.nx → Region.ready .any ops listed = [] →
      (∀ γ' a', γ.le lo γ' → Rel γ' (ss ops.size) a' → Q .normal a' γ'.w) → Q .normal a γ.w := by
    intro listed γ hp a I hlo hr hQ
    have all : ∀ j, j < ops.size → listed.getD j false = true := by
      intro j
      induction j using Nat.strongRecOn with
      | _ j ih =>
        intro hj
        cases hl : listed.getD j false with
        | true => rfl
        | false =>
          exfalso
          have ho := Array.getElem?_eq_getElem hj
          have : j ∈ Region.ready .any ops listed := mem_ready.2 ⟨getD_ft (by rw [I.size]; exact hj) hl, _, ho, fun e he hb => ih e.on (hord.back j _ ho e he hb) (by have := hord.back j _ ho e he hb; omega)⟩
          rw [hr] at this; cases this
    have hlt : ∀ {j : Nat} {o : Oper}, ops[j]? = some o → j < ops.size := fun ho => (Array.getElem?_eq_some_iff.1 ho).1
    refine hQ γ a (Gh.le.refl hlo) ⟨⟨?_, ?_, ?_, (by rw [ss_df hs ops.size (Nat.le_refl _)]; exact I.df), I.bs⟩, I.nx⟩
    · intro t x hx
      exact I.fr t ops.size (Nat.le_refl _) (fun j o ho _ => ⟨fun _ => hlt ho, fun _ => all j (hlt ho)⟩) x hx
    · rw [I.sz, ← ss_sz hs ops.size (Nat.le_refl _)]
    · exact I.hr.look fun l => I.hpq l ops.size (Nat.le_refl _) (fun j hj _ => ⟨fun _ => hj, fun _ => all j hj⟩) (fun j hj _ _ => ⟨fun _ => hj, fun _ => all j hj⟩)
  intro fuel
  induction fuel with
  | zero =>
    intro listed γ hp a I hf hlo hQ
    have hr : Region.ready .any ops listed = [] := by
      cases h : Region.ready .any ops listed with
      | nil => rfl
      | cons i r =>
        exfalso
        have : i ∈ Region.ready .any ops listed := by rw [h]; simp
        obtain ⟨h1, o, ho, _⟩ := mem_ready.1 this
        have hi : i < ops.size := (Array.getElem?_eq_some_iff.1 ho).1
        have : 0 < left ops listed := by
          unfold left
          refine List.length_pos_of_mem (a := i) (List.mem_filter.2 ⟨List.mem_range.2 hi, by simp only [h1]; rfl⟩)
        omega
    exact ⟨hr, done listed γ hp a I hlo hr hQ⟩
  | succ fuel ih =>
    intro listed γ hp a I hf hlo hQ
    refine ⟨fun hr => done listed γ hp a I hlo hr hQ, fun i hi => ?_⟩
    obtain ⟨hun, o, ho, hall⟩ := mem_ready.1 hi
    have hlt : i < ops.size := (Array.getElem?_eq_some_iff.1 ho).1
    have hun' := getD_tf hun
    have hbeh : ∀ j, Edg ops i j → listed.getD j false = false := by
      intro j hm
      cases hl : listed.getD j false with
      | false => rfl
      | true => have := hm.listed fun y hy => I.down j y hy hl; rw [this] at hun'; cases hun'
    have hahead : ∀ j, Edg ops j i → listed.getD j false = true := fun j hm => hm.listed fun y hy => by rw [ho] at hy; cases hy; exact hall
    have st := hs i o ho
    have hfl : ∀ t ∈ o.looksAt ops, ∀ x, look (ss i).fr t = some x → R γ false x (a.tmps.getD t undef) := by
      intro t ht x hx
      refine I.fr t i (by omega) (fun j y hy hd => ?_) x hx
      rcases Nat.lt_trichotomy j i with h | h | h
      · exact ⟨fun _ => h, fun _ => hahead j (hord.slot j i y o hy ho h (apart_dst hd (.inl ht)))⟩
      · subst h; rw [hun']; simp
      · rw [hbeh j (hord.slot i j o y ho hy h (apart_look hd ht))]; simp; omega
    refine st.run γ hp a I.hr I.bs (by rw [I.nx]; exact ss_nx hs (i + 1) ops.size hlt (Nat.le_refl _)) (by rw [I.sz, ss_sz hs i (by omega)]) (by rw [ss_df hs i (by omega)]; exact I.df) (fun l h1 h2 => I.free i hlt hun' l h1 h2) hfl ?_ _ Q ?_
    · intro l ob hq hl hnf
      rw [← hl]
      refine I.hpq l i (by omega) (fun j hj hw => ?_) (fun j hj h1 h2 => ?_)
      · rcases Nat.lt_trichotomy j i with h | h | h
        · exact ⟨fun _ => h, fun _ => hahead j (hord.wh j i l h hlt hw hq)⟩
        · subst h; rw [hun']; simp
        · rw [hbeh j (hord.hw i j l h hj hq hw)]; simp; omega
      · have hll := hwf i (by omega) l (by rw [hl]; simp)
        have hji : j < i := by
          rcases Nat.lt_or_ge j i with h | h
          · exact h
          · have := ss_nx hs i j h (by omega); omega
        refine ⟨fun _ => hji, fun _ => ?_⟩
        cases hlj : listed.getD j false with
        | true => rfl
        | false => exact absurd (I.free j hj hlj l h1 h2) hnf
    · intro v γ' hp' hle hh hnx hR m1 m2 mf
      refine ih (listed.setIfInBounds i true) γ' hp' _ (inv_step hord hs I hwf ho hun hall hfl hle hh hnx hR m1 m2 mf) ?_ (by omega) fun γ2 a2 h2 hr2 => hQ γ2 a2 ((hle.mono hlo).trans h2) hr2
      have : left ops (listed.setIfInBounds i true) < left ops listed := by
        unfold left
        refine filter_lt (i := i) ?_ (List.mem_range.2 hlt) (by simp only [hun]; rfl) (by have : i < listed.size := by rw [I.size]; exact hlt
                                                                                          simp [this])
        intro x _ hx
        by_cases hxi : i = x
        · subst hxi; simp only [hun]; rfl
        · rw [getD_set_ne true hxi] at hx; exact hx
      omega

/-- where a region begins -/
theorem inv_start {γ : Gh} {a : Act} (hr : Rel γ (ss 0) a) (hs : ∀ i o, ops[i]? = some o → StepAt P C al (T i) ops i o (ss i) (ss (i + 1))) :
    ∃ γ', γ'.w = γ.w ∧ γ.le γ.nx γ' ∧ Inv P C T ops ss (Array.replicate ops.size false) γ' (ss 0).hp a := by
  have hn : γ.nx ≤ (ss ops.size).nx := by rw [hr.nx]; exact ss_nx hs 0 ops.size (Nat.zero_le _) (Nat.le_refl _)
  obtain ⟨hle, hh, hf⟩ := ghost_bump hr.hr (ss ops.size).nx hn
  have hno : ∀ j, (Array.replicate ops.size false).getD j false = false := by
    intro j
    simp only [Array.getD_eq_getD_getElem?]
    by_cases h : j < ops.size
    · simp [h]
    · simp [h]
  refine ⟨{ γ with nx := (ss ops.size).nx }, rfl, hle, ⟨by simp, (fun j o ho h => by rw [hno] at h; cases h), hh, rfl, hr.bs, hr.sz, DF_le hle hr.df, ?_, ?_, ?_, (fun j _ h => by rw [hno] at h; cases h)⟩⟩
  · intro t p hp hc x hx
    rw [ss_fr hs t 0 p (Nat.zero_le _) hp fun j y hy h1 h2 hd => by have := (hc j y hy hd).2 h2; rw [hno] at this; cases this] at hx
    exact R_le hle (hr.fr t x hx)
  · intro l p hp hw hc
    refine (ss_hp hs l 0 p (Nat.zero_le _) hp fun j hj h1 h2 => ⟨fun hwy => ?_, fun h => ?_⟩).symm
    · have := (hw j hj hwy).2 h2; rw [hno] at this; cases this
    · have := (hc j hj h.1 h.2).2 h2; rw [hno] at this; cases this
  · intro j hjlt _ l h1 h2
    refine hf l ?_ ?_
    · have := ss_nx hs 0 j (Nat.zero_le _) (by omega); rw [hr.nx]; omega
    · have := ss_nx hs (j + 1) ops.size hjlt (Nat.le_refl _); omega

/-- one more draw -/
theorem rel_drawn {γ : Gh} {s : S} {a : Act} (hr : Rel γ s a) : ∃ γ', γ'.w = { γ.w with drawn := γ.w.drawn + 1 } ∧ γ.le γ.nx γ' ∧ Rel γ' s a := by
  have hle : γ.le γ.nx { γ with w := { γ.w with drawn := γ.w.drawn + 1 } } :=
    ⟨rfl, ⟨rfl, rfl, rfl, Nat.le_refl _, fun _ _ => rfl⟩, fun _ => Nat.le_refl _, fun _ _ => rfl, fun _ _ _ => rfl, Nat.le_refl _, fun _ _ _ h => h, fun _ _ h => h, fun _ _ _ h => h, fun _ _ _ _ _ _ => ⟨rfl, fun c _ h => ⟨c, h, rfl⟩⟩⟩
  refine ⟨_, rfl, hle, ⟨⟨fun t x h => R_le hle (hr.fr t x h), hr.sz, ⟨fun l row h => hrel_keep hr.hr hle l row h fun _ _ => ⟨rfl, rfl⟩, hr.hr.tok, hr.hr.inj, hr.hr.fresh, hr.hr.tkal, hr.hr.imz, hr.hr.live, (fun l o h => hrel_raw hr.hr hle l o h fun _ _ => ⟨rfl, rfl⟩), hr.hr.gok.le hle⟩, DF_le hle hr.df, hr.bs⟩, hr.nx⟩⟩

/-- A region that draws: text order is enough. -/
theorem AW.drawn {id : Nat} {s : S} {Q : Exit → S → Prop} (hm : P.follows .mixedOrders = true)
    (h : ∃ (ss : Nat → S) (T : Nat → Tch), ss 0 = s ∧ Ords ops (fun i => (ss i).nx) T ∧ (∀ i o, ops[i]? = some o → StepAt P C al (T i) ops i o (ss i) (ss (i + 1))) ∧ Q .normal (ss ops.size)) : AW P C (.region id ops true) Q s := by
  obtain ⟨ss, T, h0, hord, hs, hq⟩ := h
  subst h0
  intro γ a hl0 hr
  have hl := hl0.nxl
  obtain ⟨γ1, hw1, hle1, hr1⟩ := rel_drawn hr
  obtain ⟨γ', hw, hle, I⟩ := inv_start hr1 hs
  have hwf := ss_wf hs (fun l h => by
    rcases Nat.lt_or_ge l (ss 0).nx with h' | h'
    · exact h'
    · exact absurd (hr.hr.fresh l (by rw [hr.nx]; exact h')).2.1 h)
  have hl' : C.lo ≤ γ'.nx := Nat.le_trans (Nat.le_trans hl hle1.nxl) hle.nxl
  refine wpIn_region_any hm ?_
  rw [← hw1, ← hw]
  refine any_sound hord hs hwf C.lo ops.size _ γ' (ss 0).hp a I ?_ hl' ?_
  · unfold left
    exact Nat.le_trans (List.length_filter_le _ _) (by simp)
  · intro γ2 a2 h2 hr2
    exact ⟨γ2, _, rfl, ((hle1.mono hl).trans (hle.mono (Nat.le_trans hl hle1.nxl))).trans h2, hr2, hq⟩

def looksF (s : S) (ts : List Nat) : List (Nat × AV) := ts.filterMap fun t => (look s.fr t).map fun x => (t, x)
theorem look_looksF (s : S) : ∀ (ts : List Nat) (t : Nat), look (looksF s ts) t = if t ∈ ts then look s.fr t else none
  | [], t => by simp [looksF, look]
  | u :: ts, t => by
    have ih := look_looksF s ts t
    unfold looksF at ih ⊢
    simp only [List.filterMap_cons]
    cases hu : look s.fr u with
    | none =>
      simp only [Option.map_none, ih, List.mem_cons]
      by_cases e : t = u
      · subst e; simp [hu]
      · simp [e]
    | some x =>
      simp only [Option.map_some, look_cons, ih, List.mem_cons]
      by_cases e : u = t
      · subst e; simp [hu]
      · simp [e, Ne.symm e]
theorem look_fix {s : S} {d : Nat} {b : Bool} (hl : look s.fr d = some (.v (.bool b))) (t : Nat) : look (s.fix d b).fr t = look s.fr t := by
  simp only [S.fix, look_cons]
  split
  · rename_i e; subst e; exact hl.symm
  · rfl

/-- what a guard says -/
def Says (ops : Array Oper) (s : S) (o : Oper) (b : Bool) : Prop := match o.guard with
  | none => b = true
  | some (j, w) => (∃ d c, gbool s ops.toList j = some (d, c) ∧ b = (c == w)) ∨ (gund s ops.toList j = true ∧ b = false)
theorem says_wanted {s : S} {o : Oper} {b : Bool} (h : Says ops s o b) {a : Act} {γ : Gh} (hsz : a.tmps.size = s.sz) (hf : ∀ t ∈ o.looksAt ops, ∀ x, look s.fr t = some x → R γ false x (a.tmps.getD t undef)) :
    Region.wanted o (yielded ops a.tmps) = b := by
  unfold Says at h
  split at h
  · rename_i hg; subst h; simp [Region.wanted, hg]
  · rename_i j w hg
    rcases h with ⟨d, c, hb, rfl⟩ | ⟨hu, rfl⟩
    case inr =>
      refine wanted_und (γ := γ) hg hu fun o' d x h1 h2 h3 => hf d ?_ x h3
      simp [Oper.looksAt, hg, h1, h2]
    obtain ⟨o', h1, h2, h3⟩ := gbool_some hb
    have h1' : ops[j]? = some o' := by rw [← Array.getElem?_toList]; exact h1
    have hmem : d ∈ o.looksAt ops := by simp [Oper.looksAt, hg, h1', h2]
    have hR := hf d hmem _ h3
    simp only [R] at hR
    have hlt : d < a.tmps.size := by
      rcases Nat.lt_or_ge d a.tmps.size with h' | h'
      · exact h'
      · simp [Array.getD, Nat.not_lt.2 h', undef] at hR
    have hget : a.tmps[d]? = some (.bool c) := by
      rw [Array.getElem?_eq_getElem hlt]
      simp [Array.getD, hlt] at hR
      rw [hR]
    simp only [Region.wanted, hg, yielded, h1', Option.bind_some, h2, hget]
    cases c <;> cases w <;> rfl

theorem set_fr {s : S} {o : Oper} {x : AV} {hp : List (Nat × Ob)} {nx : Nat} (t : Nat) (h : o.dst ≠ some t) : look (s.set o.dst x hp nx).fr t = look s.fr t := by
  cases hd : o.dst with
  | none => rfl
  | some d => simp only [S.set, look_cons]; rw [if_neg (by rintro rfl; exact h hd)]
theorem set_dst {s : S} {o : Oper} {x y : AV} {hp : List (Nat × Ob)} {nx d : Nat} (hd : o.dst = some d) (h : look (s.set o.dst x hp nx).fr d = some y) : y = x := by
  rw [hd] at h
  simp only [S.set, look_cons, if_pos] at h
  cases h; rfl

theorem StepAt.skip {T : Tch} {i : Nat} {o : Oper} {s : S} (ho : ops[i]? = some o) (hd : dstOk s o.dst = true) (hb : Says ops s o false) (hP : ∀ l, ¬ T.Pn l) : StepAt P C al T ops i o s (s.set o.dst unit s.hp s.nx) := by
  refine ⟨rfl, rfl, hd, fun t ht => set_fr t ht, Nat.le_refl _, fun _ => rfl, fun _ _ _ => rfl, fun l h => .inl h, fun l h => absurd h (hP l), ?_⟩
  intro γ hp a hh hbs hnx hsz hdf hfree hf hag next Q hn
  unfold wpOpIn
  simp only [ho, says_wanted hb hsz hf, Bool.false_eq_true, if_false]
  refine ⟨fun _ _ => trivial, ?_⟩
  exact hn undef γ hp (Gh.le.refl (Nat.le_refl _)) hh rfl (fun d x h1 h2 => by rw [set_dst h1 h2]; simp [R, unit]) (fun l h => h) (fun _ _ _ => rfl) (fun _ l h _ => h)

theorem pin_op {o : Oper} {s : S} {t l : Nat} {γ : Gh} {hp : List (Nat × Ob)} {tm : Array Value} (ht : .tmp t ∈ o.op.operands) (hl : l ∈ topL (s.ev (.tmp t)))
    (hf : ∀ t ∈ o.looksAt ops, ∀ x, look s.fr t = some x → R γ false x (tm.getD t undef)) : ¬ Free γ hp l := by
  have hm : t ∈ o.looksAt ops := List.mem_append_left _ (List.mem_filterMap.2 ⟨.tmp t, by simpa using ht, rfl⟩)
  simp only [S.ev] at hl
  cases hk : look s.fr t with
  | none => rw [hk] at hl; simp [topL] at hl
  | some A =>
    rw [hk] at hl
    exact free_top (hf t hm A hk) hl
theorem StepAt.op {T : Tch} {i : Nat} {o : Oper} {s : S} (ho : ops[i]? = some o) (hd : dstOk s o.dst = true) (hb : Says ops s o true) (hk : (ev1 P s o.op).ok)
    (hH : hqOp o.op = true → ∀ x ∈ o.op.operands, ∀ l ∈ topL (s.ev x), T.H l) (hW : ∀ l, ¬ T.W l → wrOp o.op = false ∨ ∀ hp, look (ev1 P (s.wi hp) o.op).hp l = look hp l ∨ (s.nx ≤ l ∧ l < (ev1 P (s.wi hp) o.op).nx))
    (hP : ∀ l, T.Pn l → look s.hp l ≠ none ∧ ∃ t, .tmp t ∈ o.op.operands ∧ l ∈ topL (s.ev (.tmp t))) (hna : al = false → (ev1 P s o.op).nx = s.nx) : StepAt P C al T ops i o s ((ev1 P s o.op).to s o.dst) := by
  have hA0 := ev1_alike (P := P) (s := s) (hp := s.hp) o.op (fun _ _ _ _ _ _ h => h) hk
  refine ⟨rfl, rfl, hd, fun t ht => set_fr t ht, hA0.le, hna, fun l hw hl => ?_, hA0.t3, fun l h => ?_, ?_⟩
  · rcases hW l hw with h | h
    · exact (hA0.m2 h l hl).2
    · rcases h s.hp with h | h
      · exact h
      · exact absurd h hl
  · obtain ⟨h1, t, h2, h3⟩ := hP l h
    exact ⟨h1, fun γ hp tm hf => pin_op h2 h3 hf⟩
  intro γ hp a hh hbs hnx hsz hdf hfree hf hag next Q hn
  -- the state as far as the operation looks
  obtain ⟨s1, hs1⟩ : ∃ s1 : S, s1 = ⟨looksF s (o.looksAt ops), s.sz, hp, s.nx, s.df⟩ := ⟨_, rfl⟩
  have hev : ∀ x ∈ o.op.operands, s1.ev x = (s.wi hp).ev x := by
    intro x hx
    subst hs1
    cases x with
    | tmp t =>
      have : t ∈ o.looksAt ops := List.mem_append_left _ (List.mem_filterMap.2 ⟨.tmp t, by simpa using hx, rfl⟩)
      simp only [S.ev, S.wi, look_looksF, if_pos this]
    | _ => rfl
  have hec : ev1 P s1 o.op = ev1 P (s.wi hp) o.op := ev1_congr P o.op hev (by subst hs1; rfl) (by subst hs1; rfl)
  have hrel : Rel0 γ s1 a := by
    subst hs1
    refine ⟨fun t x h => ?_, hsz, hh, ?_, hbs⟩
    · dsimp only at h
      rw [look_looksF] at h
      split at h
      · rename_i ht; exact hf t ht x h
      · cases h
    · exact hdf
  have hRop : ∀ x ∈ o.op.operands, R γ false (s.ev x) (a.eval x) := by
    intro x hx
    have := hrel.ev x
    rw [hev x hx] at this
    have e : (s.wi hp).ev x = s.ev x := by cases x <;> rfl
    rwa [e] at this
  have hA := ev1_alike (P := P) (s := s) (hp := hp) o.op (fun hq x hx l hl ob hob => hag l ob (hH hq x hx l hl) hob (free_top (hRop x hx) hl)) hk
  have hsound := ev1_sound P o s1
  rw [hec] at hsound
  obtain ⟨v, γ', hrun, hst, hR⟩ := hsound hA.ok γ a hrel (fun l h1 h2 => by
    subst hs1
    rw [hA.nx] at h2
    exact hfree l h1 h2)
  have hs1hp : s1.hp = hp := by subst hs1; rfl
  have hs1nx : s1.nx = s.nx := by subst hs1; rfl
  unfold wpOpIn
  simp only [ho, says_wanted hb hsz hf, if_true]
  have hnext : next (a.put o.dst v) γ'.w := by
    refine hn v γ' _ hst.le hst.hr hst.nx (fun d x h1 h2 => ?_) hA.m1 (fun l hw hl => by
      rcases hW l hw with h | h
      · exact (hA.m2 h l hl).1
      · rcases h hp with h | h
        · exact h
        · rw [hA.nx] at h; exact absurd h hl) (fun _ l h1 h2 => ?_)
    · rw [set_dst h1 h2, ← hA.x]; exact hR
    · refine hst.free l (by rw [hs1hp]; exact h1) ?_
      rw [hs1nx, hA.nx]; exact h2
  refine ⟨fun _ _ => trivial, ?_⟩
  rw [Oper.semAt_eq _ _ _ (fun c e => by rw [e] at hk; exact hk)]
  rcases hrun with hrun | ⟨hrun, rfl⟩
  · rw [hrun]; exact hnext
  · rw [hrun]; exact hnext

theorem afun_frz {g : FuncId} {as : List AV} {x : AV} {hp hp' : List (Nat × Ob)} (h : AFun P g (as.map (frz hp)) x) (e : ∀ A ∈ as, frz hp' A = frz hp A ∨ frz hp A = .bad) : AFun P g (as.map (frz hp')) x := by
  intro w im cargs hok hargs
  refine h w im cargs hok ?_
  have hl := RL_length hargs
  refine RL_of_get (by simpa using hl) fun i A y hA hy => ?_
  rw [List.getElem?_map] at hA
  cases hi : as[i]? with
  | none => rw [hi] at hA; cases hA
  | some B =>
    rw [hi] at hA
    simp only [Option.map_some, Option.some.injEq] at hA
    subst hA
    obtain ⟨y', hy', hR⟩ := RL_get hargs i (frz hp' B) (by rw [List.getElem?_map, hi]; rfl)
    rw [hy] at hy'; cases hy'
    rcases e B (List.mem_of_getElem? hi) with e | e
    · rwa [← e]
    · rw [e]; simp [R]
theorem frz_agree {s : S} {hp : List (Nat × Ob)} {A : AV} (h : ∀ l ∈ topL A, ∀ ob, look s.hp l = some ob → look hp l = some ob) : frz hp A = frz s.hp A ∨ frz s.hp A = .bad := by
  cases A with
  | loc id off =>
    by_cases hlt : off < (rowOf s.hp id).length
    · left; simp only [frz, rowOf_agree (h id (by simp [topL])) (show 0 < (rowOf s.hp id).length by omega)]
    · right; simp only [frz, if_neg hlt]
  | bsl z id off n =>
    by_cases hlt : 0 < n * z ∧ off + n * z ≤ (rowOf s.hp id).length
    · left; simp only [frz, rowOf_agree (h id (by simp [topL])) (show 0 < (rowOf s.hp id).length by omega)]
    · right; simp only [frz, if_neg hlt]
  | csl z id off n c =>
    by_cases hlt : 0 < n * z ∧ off + n * z ≤ (rowOf s.hp id).length
    · left; simp only [frz, rowOf_agree (h id (by simp [topL])) (show 0 < (rowOf s.hp id).length by omega)]
    · right; simp only [frz, if_neg hlt]
  | _ => left; rfl

def CallX (P : Program) (g : FuncId) (as : List AV) (hp : List (Nat × Ob)) (K : AV → Prop) : Prop :=
  ∃ x, AFun P g (as.map (frz hp)) x ∧ (flat x = true ∨ as.flatMap bor = []) ∧ K x
@[congr] theorem CallX_congr {P : Program} {g : FuncId} {as as' : List AV} {hp hp' : List (Nat × Ob)} {K : AV → Prop} (h1 : as = as') (h2 : hp = hp') : CallX P g as hp K = CallX P g as' hp' K := by
  subst h1; subst h2; rfl
theorem CallX.flat {g : FuncId} {as as' : List AV} {x : AV} {hp : List (Nat × Ob)} {K : AV → Prop} (h : AFun P g as' x) (ha : as.map (frz hp) = as') (hf : Eng.flat x = true) (hk : K x) : CallX P g as hp K := ⟨x, by rw [ha]; exact h, .inl hf, hk⟩
theorem CallX.mem {g : FuncId} {as as' : List AV} {x : AV} {hp : List (Nat × Ob)} {K : AV → Prop} (h : AFun P g as' x) (ha : as.map (frz hp) = as') (hf : as.flatMap bor = []) (hk : K x) : CallX P g as hp K := ⟨x, by rw [ha]; exact h, .inr hf, hk⟩

theorem afun_run {g : FuncId} {as : List AV} {x : AV} {hp : List (Nat × Ob)} {γ : Gh} {cargs : List Value} (h : AFun P g (as.map (frz hp)) x) (hfl : Eng.flat x = true ∨ as.flatMap bor = []) (hr : HRel γ hp) (bs : γ.base ≤ γ.w.heap.size) (hargs : RL γ false as cargs) :
    CallV P g cargs γ.w fun v w' => ∃ γ', γ'.w = w' ∧ γ.le γ.nx γ' ∧ HRel γ' hp ∧ γ'.nx = γ.nx ∧ γ'.mu = γ.mu ∧ γ'.tk = γ.tk ∧ R γ' false x v := by
  obtain ⟨im, him, hok⟩ := Im_exists hr (as.flatMap bor)
  have hx := h γ.w im cargs hok (RL_frz (γ' := Gh.start γ.w γ.w.heap.size im) hr rfl him hargs fun x hx l hl => List.mem_flatMap.2 ⟨x, hx, hl⟩)
  refine hx.mono ?_
  rintro v w' ⟨im', hb, hok', hsame, hR⟩
  rcases hfl with hf | hf
  · have him0 : Im γ hp [] γ.im := ⟨fun _ => Nat.le_refl _, (fun l hl => by cases hl), fun _ _ => rfl⟩
    obtain ⟨γ', hw, hle, hh, hnx, _, hmu, htk⟩ := call_ghost (B := []) (im' := fun b => if b < γ.w.heap.size then γ.im b else im' b) hr bs him0 hb
      (fun b h => by rw [if_neg (by have := hb.size; omega)]; exact hok'.1 b h) (fun b h => if_pos h) (fun l hl => by cases hl) (fun l hl => by cases hl)
    exact ⟨γ', hw, hle, hh, hnx, hmu, htk, flat_R _ _ hf hR⟩
  · rw [hf] at him
    obtain ⟨γ', hw, hle, hh, hnx, him', hmu, htk⟩ := call_ghost (B := []) hr bs him hb hok'.1 hsame (fun l hl => by cases hl) (fun l hl => by cases hl)
    exact ⟨γ', hw, hle, hh, hnx, hmu, htk, R_np _ _ (R_im (γ := Gh.start w' w'.heap.size im') (by rw [hw]; rfl) (fun b => by rw [him']; exact Nat.le_refl _) _ _ hR)⟩
theorem StepAt.call {T : Tch} {i : Nat} {o : Oper} {s : S} (ho : ops[i]? = some o) (hd : dstOk s o.dst = true) (hb : Says ops s o true) {f : Operand} {args : Array Operand} {ts : Array TypeId} (hop : o.op = .call { callee := .value f, args, argTypes := ts })
    {g : FuncId} {as : List AV} (hc : callee s f (args.toList.map s.ev) = some (g, as)) {x : AV} (hx : AFun P g (as.map (frz s.hp)) x) (hfl : flat x = true ∨ as.flatMap bor = []) (hH : ∀ A ∈ as, ∀ l ∈ topL A, T.H l) (hP : ∀ l, ¬ T.Pn l) : StepAt P C al T ops i o s (s.set o.dst x s.hp s.nx) := by
  refine ⟨rfl, rfl, hd, fun t ht => set_fr t ht, Nat.le_refl _, fun _ => rfl, fun _ _ _ => rfl, fun l h => .inl h, fun l h => absurd h (hP l), ?_⟩
  intro γ hp a hh hbs hnx hsz hdf hfree hf hag next Q hn
  obtain ⟨s1, hs1⟩ : ∃ s1 : S, s1 = ⟨looksF s (o.looksAt ops), s.sz, hp, γ.nx, s.df⟩ := ⟨_, rfl⟩
  have hev : ∀ x ∈ o.op.operands, s1.ev x = s.ev x := by
    intro x hx
    subst hs1
    cases x with
    | tmp t =>
      have : t ∈ o.looksAt ops := List.mem_append_left _ (List.mem_filterMap.2 ⟨.tmp t, by simpa using hx, rfl⟩)
      simp only [S.ev, look_looksF, if_pos this]
    | _ => rfl
  have hrel : Rel γ s1 a := by
    subst hs1
    refine ⟨⟨fun t x h => ?_, hsz, hh, hdf, hbs⟩, rfl⟩
    dsimp only at h
    rw [look_looksF] at h
    split at h
    · rename_i ht; exact hf t ht x h
    · cases h
  have hopx : ∀ x, x = f ∨ x ∈ args.toList → x ∈ o.op.operands := by
    intro x hx; rw [hop]; simp only [Op.operands, Call.operands]
    rcases hx with rfl | hx
    · simp
    · simp at hx; simp [hx]
  have hmap : args.toList.map s1.ev = args.toList.map s.ev := List.map_congr_left fun x hx => hev x (hopx x (.inr hx))
  have hc1 : callee s1 f (args.toList.map s1.ev) = some (g, as) := by
    rw [hmap, ← hc]
    cases f with
    | func g' => rfl
    | tmp t => simp only [callee, hev (.tmp t) (hopx _ (.inl rfl))]
    | const v => simp only [callee, hev (.const v) (hopx _ (.inl rfl))]
    | global v => simp only [callee, hev (.global v) (hopx _ (.inl rfl))]
  obtain ⟨cargs, hca, hrun⟩ := run_call (P := P) (o := o) hop hc1 hrel
  have hagr : ∀ A ∈ as, frz hp A = frz s.hp A ∨ frz s.hp A = .bad := by
    intro A hA
    obtain ⟨k, hk⟩ := List.getElem?_of_mem hA
    obtain ⟨y, hy, hR⟩ := RL_get hca k A hk
    exact frz_agree fun l hl ob hob => hag l ob (hH A hA l hl) hob (free_top hR hl)
  have hx' := afun_frz hx hagr
  unfold wpOpIn
  simp only [ho, says_wanted hb hsz hf, if_true]
  refine upon_call (C := C) (fun c e => by rw [hop] at e; cases e) hrun (afun_run hx' hfl hh hbs hca) ?_
  rintro v w' ⟨γ', rfl, hle, hh', hnx', hmu, htk, hR⟩
  refine hn v γ' hp hle hh' hnx' (fun d y h1 h2 => by rw [set_dst h1 h2]; exact hR) (fun l h => h) (fun _ _ _ => rfl) fun _ l h1 h2 => ?_
  exact ⟨by rw [hnx']; exact h1.1, by rw [hmu]; exact h1.2.1, h1.2.2.1, by rw [htk]; exact h1.2.2.2⟩

theorem StepAt.unfix {T : Tch} {i : Nat} {o : Oper} {s s' : S} {d : Nat} {b : Bool} (hl : look s.fr d = some (.v (.bool b))) (h : StepAt P C al T ops i o (s.fix d b) s') : StepAt P C al T ops i o s s' := by
  refine ⟨h.sz, h.df, h.dst, fun t ht => (h.fr t ht).trans (look_fix hl t), h.le, h.na, h.t2, h.t3, fun l hp => ⟨(h.pin l hp).1, fun γ hp' tm hf => (h.pin l hp).2 γ hp' tm fun t ht x hx => hf t ht x (by rw [look_fix hl] at hx; exact hx)⟩, ?_⟩
  intro γ hp a hh hbs hnx hsz hdf hfree hf hag next Q hn
  exact h.run γ hp a hh hbs hnx hsz hdf hfree (fun t ht x hx => hf t ht x (by rw [look_fix hl] at hx; exact hx)) hag next Q hn

def bindsOn (o : Oper) (i : Nat) : Bool := o.after.toList.any fun e => Region.binds .any e && Nat.beq e.on i
/-- how a region's operations are taken, by their results' slots: a call that turns a box that it was lent; what looks at no box though it might -/
structure Cl where
  bx : Option Nat → Bool
  ex : Option Nat → Bool
  al : Bool
def Cl.wr (κ : Cl) (o : Oper) : Bool := wrOp o.op || κ.bx o.dst
def Cl.hq (κ : Cl) (o : Oper) : Bool := κ.wr o || (hqOp o.op && !κ.ex o.dst)
def Cl.all : Cl := ⟨fun _ => false, fun _ => false, true⟩
theorem Cl.wr_op {κ : Cl} {o : Oper} (h : κ.wr o = false) : wrOp o.op = false := (Bool.or_eq_false_iff.1 h).1
def meets (κ : Cl) (ops : Array Oper) (x y : Oper) : Bool := !x.apart ops y || (κ.wr x && κ.hq y) || (κ.hq x && κ.wr y)
def ordOk (κ : Cl) (ops : Array Oper) : Bool :=
  (List.range ops.size).all fun j => match ops[j]? with
    | some y => (y.after.toList.all fun e => !Region.binds .any e || Nat.blt e.on j) && (List.range j).all fun i => match ops[i]? with
      | some x => !meets κ ops x y || bindsOn y i
      | none => true
    | none => true
theorem ordOk_back {κ : Cl} {ops : Array Oper} (h : ordOk κ ops = true) {j : Nat} {y : Oper} (hy : ops[j]? = some y) : ∀ e ∈ y.after, Region.binds .any e = true → e.on < j := by
  unfold ordOk at h
  rw [List.all_eq_true] at h
  have hj : j < ops.size := (Array.getElem?_eq_some_iff.1 hy).1
  have := h j (List.mem_range.2 hj)
  simp only [hy, Bool.and_eq_true] at this
  intro e he hb
  have h1 := List.all_eq_true.1 this.1 e (by simpa using he)
  simp only [hb, Bool.not_true, Bool.false_or, Nat.blt_eq] at h1
  exact h1
theorem ordOk_meet {κ : Cl} {ops : Array Oper} (h : ordOk κ ops = true) {i j : Nat} {x y : Oper} (hx : ops[i]? = some x) (hy : ops[j]? = some y) (hij : i < j) (hm : meets κ ops x y = true) :
    ∃ e ∈ y.after, Region.binds .any e = true ∧ e.on = i := by
  unfold ordOk at h
  rw [List.all_eq_true] at h
  have hj : j < ops.size := (Array.getElem?_eq_some_iff.1 hy).1
  have := h j (List.mem_range.2 hj)
  simp only [hy, Bool.and_eq_true] at this
  have h1 := List.all_eq_true.1 this.2 i (List.mem_range.2 hij)
  simp only [hx, hm, Bool.not_true, Bool.false_or, bindsOn, List.any_eq_true, Bool.and_eq_true] at h1
  obtain ⟨e, he, hb, ho⟩ := h1
  exact ⟨e, by simpa using he, hb, Nat.eq_of_beq_eq_true ho⟩

theorem ordOk_edg {κ : Cl} {ops : Array Oper} (h : ordOk κ ops = true) {i j : Nat} {x y : Oper} (hx : ops[i]? = some x) (hy : ops[j]? = some y) (hij : i < j) (hm : meets κ ops x y = true) : Edg ops i j := by
  obtain ⟨e, he, hb, ho⟩ := ordOk_meet h hx hy hij hm
  exact ⟨y, hy, e, he, hb, ho⟩
def Tk (κ : Cl) : Option Oper → Tch
  | some o => ⟨fun _ => κ.wr o = true, fun _ => κ.hq o = true, fun _ => False⟩
  | none => ⟨fun _ => False, fun _ => False, fun _ => False⟩
def StepK (P : Program) (C : Cx) (κ : Cl) (ops : Array Oper) (i : Nat) (o : Oper) (s s' : S) : Prop := StepAt P C κ.al (Tk κ (some o)) ops i o s s' ∧ (κ.hq o = false → s'.nx = s.nx)
theorem ordsK {κ : Cl} (h : ordOk κ ops = true) (hs : ∀ i o, ops[i]? = some o → StepK P C κ ops i o (ss i) (ss (i + 1))) : Ords ops (fun i => (ss i).nx) fun i => Tk κ ops[i]? := by
  have get : ∀ i, (hi : i < ops.size) → ops[i]? = some ops[i] := fun i hi => Array.getElem?_eq_getElem hi
  refine ⟨fun j y hy e he hb => ordOk_back h hy e he hb, fun i j x y hx hy hij ha => ordOk_edg h hx hy hij (by simp [meets, ha]), fun i j l hij hj hw hh => ?_, fun i j l hij hj hw hh => ?_, fun i l hw => ?_, fun i j l hi hj h1 h2 hw _ => ?_⟩
  · rw [get i (by omega)] at hw; rw [get j hj] at hh
    simp only [Tk] at hw hh
    exact ordOk_edg h (get i (by omega)) (get j hj) hij (by simp [meets, hw, hh])
  · rw [get i (by omega)] at hw; rw [get j hj] at hh
    simp only [Tk] at hw hh
    exact ordOk_edg h (get i (by omega)) (get j hj) hij (by simp [meets, hw, hh])
  · cases ho : ops[i]? with
    | none => rw [ho] at hw; exact hw
    | some o => rw [ho] at hw; simp only [Tk] at hw ⊢; simp [Cl.hq, hw]
  · rw [get j hj] at hw
    simp only [Tk] at hw
    have hq : κ.hq ops[i] = true := by
      cases hh : κ.hq ops[i] with
      | true => rfl
      | false => have := (hs i _ (get i hi)).2 hh; omega
    exact ⟨fun hij => ordOk_edg h (get i hi) (get j hj) hij (by simp [meets, hw, hq]), fun hij => ordOk_edg h (get j hj) (get i hi) hij (by simp [meets, hw, hq])⟩
section
variable {κ : Cl}
theorem StepK.skip {i : Nat} {o : Oper} {s : S} (ho : ops[i]? = some o) (hd : dstOk s o.dst = true) (hb : Says ops s o false) : StepK P C κ ops i o s (s.set o.dst unit s.hp s.nx) := ⟨StepAt.skip ho hd hb fun _ h => h, fun _ => rfl⟩
theorem StepK.op {i : Nat} {o : Oper} {s : S} (ho : ops[i]? = some o) (hd : dstOk s o.dst = true) (hb : Says ops s o true) (hk : (ev1 P s o.op).ok) (hex : κ.ex o.dst = true → (ev1 P s o.op).nx = s.nx ∧ ∀ x ∈ o.op.operands, topL (s.ev x) = []) (hna : κ.al = false → (ev1 P s o.op).nx = s.nx) : StepK P C κ ops i o s ((ev1 P s o.op).to s o.dst) := by
  refine ⟨StepAt.op ho hd hb hk (fun hq x hx l hl => ?_) (fun l hw => .inl ?_) (fun l h => h.elim) hna, fun hq => ?_⟩
  · by_cases he : κ.ex o.dst = true
    · rw [(hex he).2 x hx] at hl; cases hl
    · simp [Tk, Cl.hq, hq, he]
  · simp only [Tk, Bool.not_eq_true] at hw
    exact Cl.wr_op hw
  · by_cases he : κ.ex o.dst = true
    · exact (hex he).1
    · exact (ev1_alike (P := P) (s := s) (hp := s.hp) o.op (fun _ _ _ _ _ _ h => h) hk).hq (by simpa [Cl.hq, he] using (Bool.or_eq_false_iff.1 hq).2)
theorem StepK.call {i : Nat} {o : Oper} {s : S} (ho : ops[i]? = some o) (hd : dstOk s o.dst = true) (hb : Says ops s o true) {f : Operand} {args : Array Operand} {ts : Array TypeId} (hop : o.op = .call { callee := .value f, args, argTypes := ts })
    {g : FuncId} {as : List AV} (hc : callee s f (args.toList.map s.ev) = some (g, as)) {x : AV} (hx : AFun P g (as.map (frz s.hp)) x) (hfl : flat x = true ∨ as.flatMap bor = []) (hex : κ.ex o.dst = true → ∀ A ∈ as, topL A = []) : StepK P C κ ops i o s (s.set o.dst x s.hp s.nx) := by
  refine ⟨StepAt.call ho hd hb hop hc hx hfl (fun A hA l hl => ?_) fun _ h => h, fun _ => rfl⟩
  by_cases he : κ.ex o.dst = true
  · rw [hex he A hA] at hl; cases hl
  · simp [Tk, Cl.hq, hop, hqOp, he]
theorem StepK.unfix {i : Nat} {o : Oper} {s s' : S} {d : Nat} {b : Bool} (hl : look s.fr d = some (.v (.bool b))) (h : StepK P C κ ops i o (s.fix d b) s') : StepK P C κ ops i o s s' := ⟨h.1.unfix hl, h.2⟩
theorem AW.drawnK {id : Nat} {s : S} {Q : Exit → S → Prop} (hm : P.follows .mixedOrders = true) (hord : ordOk κ ops = true)
    (h : ∃ ss : Nat → S, ss 0 = s ∧ (∀ i o, ops[i]? = some o → StepK P C κ ops i o (ss i) (ss (i + 1))) ∧ Q .normal (ss ops.size)) : AW P C (.region id ops true) Q s := by
  obtain ⟨ss, h0, hs, hq⟩ := h
  exact AW.drawn (al := κ.al) hm ⟨ss, fun i => Tk κ ops[i]?, h0, ordsK hord hs, fun i o ho => by dsimp only; rw [ho]; exact (hs i o ho).1, hq⟩
end

/-- a drawing region's operations, in text order -/
def dr (P : Program) (all : List Oper) : List Oper → S → (S → Prop) → Prop
  | [], s, K => K s
  | o :: r, s, K =>
    let core (s : S) : Prop := match o.op with
      | .call { callee := .value f, args, argTypes := _ } => match callee s f (args.toList.map s.ev) with
        | some (g, as) => dstOk s o.dst = true ∧ CallX P g as s.hp fun x => dr P all r (s.set o.dst x s.hp s.nx) K
        | none => False
      | op => (ev1 P s op).ok ∧ dstOk s o.dst = true ∧ dr P all r ((ev1 P s op).to s o.dst) K
    match o.guard with
    | none => core s
    | some (j, w) => match gbool s all j with
      | some (d, b) => GS b w (core (s.fix d w)) (dstOk s o.dst = true ∧ dr P all r ((s.fix d (!w)).set o.dst unit s.hp s.nx) K)
      | none => gund s all j = true ∧ dstOk s o.dst = true ∧ dr P all r (s.set o.dst unit s.hp s.nx) K

theorem dr_trace {K : S → Prop} : ∀ (r : List Oper) (k : Nat) (s : S), ops.toList.drop k = r → k ≤ ops.size → dr P ops.toList r s K →
    ∃ ss : Nat → S, ss k = s ∧ (∀ i o, k ≤ i → ops[i]? = some o → StepK P C Cl.all ops i o (ss i) (ss (i + 1))) ∧ K (ss ops.size)
  | [], k, s, hk, hkn, h => by
    have hsz : k = ops.size := by
      have := congrArg List.length hk
      simp at this
      omega
    subst hsz
    refine ⟨fun _ => s, rfl, fun i o hi ho => ?_, h⟩
    have := (Array.getElem?_eq_some_iff.1 ho).1
    omega
  | o :: r, k, s, hk, hkn, h => by
    have hko : ops[k]? = some o := by
      rw [← Array.getElem?_toList]
      have : (ops.toList.drop k)[0]? = some o := by rw [hk]; rfl
      simpa using this
    have hlt : k < ops.size := (Array.getElem?_eq_some_iff.1 hko).1
    have hr : ops.toList.drop (k + 1) = r := by
      have : (ops.toList.drop k).drop 1 = r := by rw [hk]; rfl
      rw [List.drop_drop] at this
      exact this
    have join : ∀ s', StepK P C Cl.all ops k o s s' → dr P ops.toList r s' K → ∃ ss : Nat → S, ss k = s ∧ (∀ i o, k ≤ i → ops[i]? = some o → StepK P C Cl.all ops i o (ss i) (ss (i + 1))) ∧ K (ss ops.size) := by
      intro s' hst hd
      obtain ⟨ss, h1, h2, h3⟩ := dr_trace r (k + 1) s' hr hlt hd
      refine ⟨fun i => if i ≤ k then s else ss i, by simp, fun i o' hi ho' => ?_, ?_⟩
      · by_cases e : i = k
        · subst e
          rw [hko] at ho'; cases ho'
          simp only [Nat.le_refl, if_true, if_neg (show ¬ i + 1 ≤ i by omega), h1]
          exact hst
        · simp only [if_neg (show ¬ i ≤ k by omega), if_neg (show ¬ i + 1 ≤ k by omega)]
          exact h2 i o' (by omega) ho'
      · dsimp only
        rw [if_neg (by omega)]
        exact h3
    have core : ∀ s0 : S, (∀ s', StepK P C Cl.all ops k o s0 s' → StepK P C Cl.all ops k o s s') → Says ops s0 o true → (match o.op with
      | .call { callee := .value f, args, argTypes := _ } => match callee s0 f (args.toList.map s0.ev) with
        | some (g, as) => dstOk s0 o.dst = true ∧ CallX P g as s0.hp fun x => dr P ops.toList r (s0.set o.dst x s0.hp s0.nx) K
        | none => False
      | op => (ev1 P s0 op).ok ∧ dstOk s0 o.dst = true ∧ dr P ops.toList r ((ev1 P s0 op).to s0 o.dst) K) → ∃ ss : Nat → S, ss k = s ∧ (∀ i o, k ≤ i → ops[i]? = some o → StepK P C Cl.all ops i o (ss i) (ss (i + 1))) ∧ K (ss ops.size) := by
      intro s0 hun hsays h
      split at h
      · rename_i f args ts hop
        split at h
        · rename_i g as hc
          obtain ⟨hd, x, hx, hfl, hk⟩ := h
          exact join _ (hun _ (StepK.call hko hd hsays hop hc hx hfl (fun h => by cases h))) hk
        · exact h.elim
      · obtain ⟨hok, hd, hk⟩ := h
        exact join _ (hun _ (StepK.op hko hd hsays hok (fun h => by cases h) (fun h => by cases h))) hk
    unfold dr at h
    simp only at h
    split at h
    · rename_i hg
      exact core s (fun _ h => h) (by simp [Says, hg]) h
    · rename_i j w hg
      split at h
      · rename_i d b hb
        obtain ⟨o', ho1, ho2, hlk⟩ := gbool_some hb
        have hlk' : look (s.fix d b).fr d = some (.v (.bool b)) := by rw [look_fix hlk]; exact hlk
        have hb' : gbool (s.fix d b) ops.toList j = some (d, b) := by simp only [gbool, ho1, ho2, hlk', gbA]
        by_cases hbw : b = w
        · subst hbw
          exact core (s.fix d b) (fun _ h => h.unfix hlk) (by simp only [Says, hg]; exact .inl ⟨d, b, hb', by simp⟩) (h.1 rfl)
        · have hbw' : b = !w := by cases b <;> cases w <;> simp_all
          subst hbw'
          obtain ⟨hd, hk⟩ := h.2 rfl
          refine join _ ?_ hk
          exact StepK.unfix hlk (StepK.skip hko hd (by simp only [Says, hg]; exact .inl ⟨d, _, hb', by cases w <;> rfl⟩))
      · obtain ⟨hu, hd, hk⟩ := h
        exact join _ (StepK.skip hko hd (by simp only [Says, hg]; exact .inr ⟨hu, trivial⟩)) hk

theorem AW.draw {id : Nat} {s : S} {Q : Exit → S → Prop} (hm : P.follows .mixedOrders = true) (hord : ordOk Cl.all ops = true) (h : dr P ops.toList ops.toList s (Q .normal)) : AW P C (.region id ops true) Q s := by
  obtain ⟨ss, h1, h2, h3⟩ := dr_trace ops.toList 0 s rfl (Nat.zero_le _) h
  exact AW.drawnK hm hord ⟨ss, h1, fun i o ho => h2 i o (Nat.zero_le _) ho, h3⟩
end
end Go.Eng

namespace Go.Eng
set_option linter.unusedSimpArgs false
set_option linter.unusedVariables false
open Go Go.RowKit

section
variable (P : Program) (C : Cx) (all : List Oper) (dst : Option Nat) (op : Op) (r : List Oper) (s : S) (K : S → Prop)
def CallE (g : FuncId) (as : List AV) : Prop := dstOk s dst = true ∧ CallK P g as s.hp s.nx fun x hp nx => ex P C all r (s.set dst x hp nx) K
def CallYE (l : Nat) (as : List AV) : Prop := dstOk s dst = true ∧ CallY P C l as s.hp s.nx fun x hp nx => ex P C all r (s.set dst x hp nx) K
def exF (xs : List AV) : Option (FuncId × List AV) → Option Nat → Prop
  | some (g, as), _ => CallE P C all dst r s K g as
  | none, some l => CallYE P C all dst r s K l xs
  | none, none => False
def exC : Prop := match op with
  | .call { callee := .value f, args, argTypes := _ } => exF P C all dst r s K (args.toList.map s.ev) (callee s f (args.toList.map s.ev)) (yieldee s f)
  | op => (ev1 P s op).ok ∧ dstOk s dst = true ∧ ex P C all r ((ev1 P s op).to s dst) K
def exG (d : Nat) (b w : Bool) : Prop := GS b w (exC P C all dst op r (s.fix d w) K) (dstOk s dst = true ∧ ex P C all r ((s.fix d (!w)).set dst unit s.hp s.nx) K)
def exJ (w : Bool) : Option (Nat × Bool) → Bool → Prop
  | some (d, b), _ => exG P C all dst op r s K d b w
  | none, u => u = true ∧ dstOk s dst = true ∧ ex P C all r (s.set dst unit s.hp s.nx) K
variable (ty : TypeId) (pos : String) (aft : Array Edge)
theorem ex_core : (match op with
      | .call { callee := .value f, args, argTypes := _ } => match callee s f (args.toList.map s.ev) with
        | some (g, as) => dstOk s dst = true ∧ CallK P g as s.hp s.nx fun x hp nx => ex P C all r (s.set dst x hp nx) K
        | none => match yieldee s f with
          | some l => dstOk s dst = true ∧ CallY P C l (args.toList.map s.ev) s.hp s.nx fun x hp nx => ex P C all r (s.set dst x hp nx) K
          | none => False
      | op => (ev1 P s op).ok ∧ dstOk s dst = true ∧ ex P C all r ((ev1 P s op).to s dst) K) = exC P C all dst op r s K := by
  unfold exC
  split
  · rename_i f args ts
    cases hc : callee s f (args.toList.map s.ev) with
    | some g => rfl
    | none => cases hy : yieldee s f <;> rfl
  · rfl
theorem ex_nil : ex P C all [] s K = K s := rfl
theorem ex_plain : ex P C all (⟨dst, op, ty, pos, aft, none⟩ :: r) s K = exC P C all dst op r s K := by
  rw [← ex_core]; rfl
theorem ex_guard (j : Nat) (w : Bool) : ex P C all (⟨dst, op, ty, pos, aft, some (j, w)⟩ :: r) s K = exJ P C all dst op r s K w (gbool s all j) (gund s all j) := by
  show (match gbool s all j with
      | some (d, b) => GS b w _ _
      | none => _) = _
  cases hb : gbool s all j with
  | none => rfl
  | some x =>
    obtain ⟨d, b⟩ := x
    show GS b w _ _ = exG P C all dst op r s K d b w
    unfold exG
    rw [← ex_core] <;> rfl
theorem exF_some (xs : List AV) (g : FuncId) (as : List AV) (o : Option Nat) : exF P C all dst r s K xs (some (g, as)) o = CallE P C all dst r s K g as := rfl
theorem exF_yield (xs : List AV) (l : Nat) : exF P C all dst r s K xs none (some l) = CallYE P C all dst r s K l xs := rfl
theorem exJ_none (w u : Bool) : exJ P C all dst op r s K w none u = (u = true ∧ dstOk s dst = true ∧ ex P C all r (s.set dst unit s.hp s.nx) K) := rfl
theorem exJ_some (w u : Bool) (d : Nat) (b : Bool) : exJ P C all dst op r s K w (some (d, b)) u = exG P C all dst op r s K d b w := rfl
theorem exG_tt (d : Nat) : exG P C all dst op r s K d true true = exC P C all dst op r (s.fix d true) K := by unfold exG; exact GS_tt _ _
theorem exG_ff (d : Nat) : exG P C all dst op r s K d false false = exC P C all dst op r (s.fix d false) K := by unfold exG; exact GS_ff _ _
theorem exG_tf (d : Nat) : exG P C all dst op r s K d true false = (dstOk s dst = true ∧ ex P C all r ((s.fix d true).set dst unit s.hp s.nx) K) := by unfold exG; exact GS_tf _ _
theorem exG_ft (d : Nat) : exG P C all dst op r s K d false true = (dstOk s dst = true ∧ ex P C all r ((s.fix d false).set dst unit s.hp s.nx) K) := by unfold exG; exact GS_ft _ _

def CallXE (g : FuncId) (as : List AV) : Prop := dstOk s dst = true ∧ CallX P g as s.hp fun x => dr P all r (s.set dst x s.hp s.nx) K
def drF : Option (FuncId × List AV) → Prop
  | some (g, as) => CallXE P all dst r s K g as
  | none => False
def drC : Prop := match op with
  | .call { callee := .value f, args, argTypes := _ } => drF P all dst r s K (callee s f (args.toList.map s.ev))
  | op => (ev1 P s op).ok ∧ dstOk s dst = true ∧ dr P all r ((ev1 P s op).to s dst) K
def drG (d : Nat) (b w : Bool) : Prop := GS b w (drC P all dst op r (s.fix d w) K) (dstOk s dst = true ∧ dr P all r ((s.fix d (!w)).set dst unit s.hp s.nx) K)
def drJ (w : Bool) : Option (Nat × Bool) → Bool → Prop
  | some (d, b), _ => drG P all dst op r s K d b w
  | none, u => u = true ∧ dstOk s dst = true ∧ dr P all r (s.set dst unit s.hp s.nx) K
theorem dr_core : (match op with
      | .call { callee := .value f, args, argTypes := _ } => match callee s f (args.toList.map s.ev) with
        | some (g, as) => dstOk s dst = true ∧ CallX P g as s.hp fun x => dr P all r (s.set dst x s.hp s.nx) K
        | none => False
      | op => (ev1 P s op).ok ∧ dstOk s dst = true ∧ dr P all r ((ev1 P s op).to s dst) K) = drC P all dst op r s K := by
  unfold drC
  split
  · rename_i f args ts
    cases hc : callee s f (args.toList.map s.ev) <;> rfl
  · rfl
theorem dr_nil : dr P all [] s K = K s := rfl
theorem dr_plain : dr P all (⟨dst, op, ty, pos, aft, none⟩ :: r) s K = drC P all dst op r s K := by
  rw [← dr_core]; rfl
theorem dr_guard (j : Nat) (w : Bool) : dr P all (⟨dst, op, ty, pos, aft, some (j, w)⟩ :: r) s K = drJ P all dst op r s K w (gbool s all j) (gund s all j) := by
  show (match gbool s all j with
      | some (d, b) => GS b w _ _
      | none => _) = _
  cases hb : gbool s all j with
  | none => rfl
  | some x =>
    obtain ⟨d, b⟩ := x
    show GS b w _ _ = drG P all dst op r s K d b w
    unfold drG
    rw [← dr_core] <;> rfl
theorem drF_some (g : FuncId) (as : List AV) : drF P all dst r s K (some (g, as)) = CallXE P all dst r s K g as := rfl
theorem drJ_none (w u : Bool) : drJ P all dst op r s K w none u = (u = true ∧ dstOk s dst = true ∧ dr P all r (s.set dst unit s.hp s.nx) K) := rfl
theorem drJ_some (w u : Bool) (d : Nat) (b : Bool) : drJ P all dst op r s K w (some (d, b)) u = drG P all dst op r s K d b w := rfl
theorem drG_tt (d : Nat) : drG P all dst op r s K d true true = drC P all dst op r (s.fix d true) K := by unfold drG; exact GS_tt _ _
theorem drG_ff (d : Nat) : drG P all dst op r s K d false false = drC P all dst op r (s.fix d false) K := by unfold drG; exact GS_ff _ _
theorem drG_tf (d : Nat) : drG P all dst op r s K d true false = (dstOk s dst = true ∧ dr P all r ((s.fix d true).set dst unit s.hp s.nx) K) := by unfold drG; exact GS_tf _ _
theorem drG_ft (d : Nat) : drG P all dst op r s K d false true = (dstOk s dst = true ∧ dr P all r ((s.fix d false).set dst unit s.hp s.nx) K) := by unfold drG; exact GS_ft _ _
end
section
variable {P : Program} {C : Cx} {all : List Oper} {dst : Option Nat} {op : Op} {r : List Oper} {s : S} {K : S → Prop} {g : FuncId} {as as' : List AV} {x : AV} {d : Nat} {p : Prop} {inst : Decidable p}
theorem CallE.flat (h : AFun P g as' x) (ha : as.map (frz s.hp) = as') (hf : Eng.flat x = true) (hd : dstOk s dst = true) (hk : ex P C all r (s.set dst x s.hp s.nx) K) : CallE P C all dst r s K g as := ⟨hd, CallK.flat h ha hf hk⟩
theorem CallE.mem (h : AFun P g as' x) (ha : as.map (frz s.hp) = as') (hb : ∀ l ∈ as.flatMap bor, isBox (look s.hp l) = true) (hd : dstOk s dst = true) (hk : ex P C all r (s.set dst x (dels s.hp (as.flatMap bor)) s.nx) K) : CallE P C all dst r s K g as := ⟨hd, CallK.mem h ha hb hk⟩
theorem CallE.enter {fn : Func} {c : Code} (hf : P.funcs[g]? = some fn) (hb : fn.body = some c)
    (hcall : ∀ (args : Array Value) (w : World), (callFunc g args).run P w = .ok (.enter g args) w) (hn : as.length ≤ fn.ntmps) (hd : dstOk s dst = true)
    (h : ∀ γ1, AW P ⟨none, γ1, s.nx⟩ c (Qof P ⟨none, γ1, s.nx⟩ (fin P fn fun x hp nx => ex P C all r (s.set dst x hp nx) K) []) ⟨frameOf 0 as, fn.ntmps, s.hp, s.nx, []⟩) : CallE P C all dst r s K g as := ⟨hd, CallK.enter hf hb hcall hn h⟩
theorem CallXE.flat (h : AFun P g as' x) (ha : as.map (frz s.hp) = as') (hf : Eng.flat x = true) (hd : dstOk s dst = true) (hk : dr P all r (s.set dst x s.hp s.nx) K) : CallXE P all dst r s K g as := ⟨hd, CallX.flat h ha hf hk⟩
theorem CallXE.mem (h : AFun P g as' x) (ha : as.map (frz s.hp) = as') (hb : as.flatMap bor = []) (hd : dstOk s dst = true) (hk : dr P all r (s.set dst x s.hp s.nx) K) : CallXE P all dst r s K g as := ⟨hd, CallX.mem h ha hb hk⟩
theorem exG_dec (h1 : p → exC P C all dst op r (s.fix d true) K) (h2 : ¬ p → dstOk s dst = true ∧ ex P C all r ((s.fix d false).set dst unit s.hp s.nx) K) : exG P C all dst op r s K d (@decide p inst) true :=
  ⟨fun h => h1 (of_decide_eq_true h), fun h => h2 (of_decide_eq_false h)⟩
theorem exG_decf (h1 : ¬ p → exC P C all dst op r (s.fix d false) K) (h2 : p → dstOk s dst = true ∧ ex P C all r ((s.fix d true).set dst unit s.hp s.nx) K) : exG P C all dst op r s K d (@decide p inst) false :=
  ⟨fun h => h1 (of_decide_eq_false h), fun h => h2 (of_decide_eq_true h)⟩
theorem drG_dec (h1 : p → drC P all dst op r (s.fix d true) K) (h2 : ¬ p → dstOk s dst = true ∧ dr P all r ((s.fix d false).set dst unit s.hp s.nx) K) : drG P all dst op r s K d (@decide p inst) true :=
  ⟨fun h => h1 (of_decide_eq_true h), fun h => h2 (of_decide_eq_false h)⟩
end
attribute [go_sem] ex_nil ex_plain ex_guard exC exF_some exF_yield exJ_some exJ_none gund gundA_unit gbA_bool gbA_unit exG_tt exG_ff exG_tf exG_ft dr_nil dr_plain dr_guard drC drF_some drJ_some drJ_none drG_tt drG_ff drG_tf drG_ft yieldee
end Go.Eng

namespace Go.Eng
set_option linter.unusedSimpArgs false
set_option linter.unusedVariables false
open Go Go.RowKit

def yv (l : Nat) : AV := .v (.func (.yield l) #[] #[])
def closure (s : S) (g : Operand) : Option (FuncId × List AV × List AV) := match s.ev g with
  | .fn (.func f) fs cs => some (f, fs, cs)
  | .v (.func (.func f) fs cs) => if fs.size = 0 ∧ cs.size = 0 then some (f, [], []) else none
  | _ => none
theorem closure_R {γ : Gh} {s : S} {a : Act} (hr : Rel γ s a) {g : Operand} {f : FuncId} {fs cs : List AV} (h : closure s g = some (f, fs, cs)) :
    ∃ us vs : List Value, a.eval g = .func (.func f) us.toArray vs.toArray ∧ RL γ false fs us ∧ RL γ false cs vs := by
  unfold closure at h
  have hR := hr.ev g
  split at h
  · rename_i f' fs' cs' hA
    cases h
    rw [hA] at hR
    simpa only [R] using hR
  · rename_i f' fs' cs' hA
    split at h
    · rename_i hz
      cases h
      rw [hA] at hR
      simp only [R] at hR
      have e1 : fs' = #[] := Array.eq_empty_of_size_eq_zero hz.1
      have e2 : cs' = #[] := Array.eq_empty_of_size_eq_zero hz.2
      subst e1; subst e2
      exact ⟨[], [], by rw [hR], RL_nil, RL_nil⟩
    · cases h
  · cases h

/-- the parameters of a round -/
def zipF : List Nat → List AV → List (Nat × AV) → List (Nat × AV)
  | p :: ps, x :: xs, fr => zipF ps xs ((p, x) :: fr)
  | _, _, fr => fr
theorem zipF_R {γ : Gh} : ∀ (ps : List Nat) (as : List AV) (vs : List Value) (fr : List (Nat × AV)) (T : Array Value), RL γ false as vs → (∀ p ∈ ps, p < T.size) → (∀ t x, look fr t = some x → R γ false x (T.getD t undef)) →
    (((ps.zip vs).foldl (fun tmps (p : Nat × Value) => tmps.setIfInBounds p.1 p.2) T).size = T.size) ∧ ∀ t x, look (zipF ps as fr) t = some x → R γ false x (((ps.zip vs).foldl (fun tmps (p : Nat × Value) => tmps.setIfInBounds p.1 p.2) T).getD t undef)
  | [], as, vs, fr, T, _, _, hT => by simpa [zipF] using hT
  | p :: ps, [], vs, fr, T, hv, _, hT => by
    simp only [RL] at hv; subst hv
    simpa [zipF] using hT
  | p :: ps, x :: as, vs, fr, T, hv, hp, hT => by
    simp only [RL] at hv
    obtain ⟨u, us, rfl, h1, h2⟩ := hv
    have ih := zipF_R ps as us ((p, x) :: fr) (T.setIfInBounds p u) h2 (by intro q hq; rw [Array.size_setIfInBounds]; exact hp q (List.mem_cons_of_mem _ hq)) (by
      intro t y hy
      rw [look_cons] at hy
      by_cases e : p = t
      · subst e
        rw [if_pos rfl] at hy; cases hy
        have hlt := hp p (by simp)
        have : (T.setIfInBounds p u).getD p undef = u := by simp [Array.getD, hlt]
        rw [this]; exact h1
      · rw [if_neg e] at hy
        rw [getD_put e]
        exact hT t y hy)
    rw [Array.size_setIfInBounds] at ih
    simpa [zipF] using ih

/-- how a round ends -/
def roundQ (kL : Nat) (rec : LoopState → Option Code → Obj) (Ky : AV → List (Nat × Ob) → Nat → Prop) (e : Exit) (s : S) : Prop :=
  look s.hp kL = some (.raw (rec .busy none)) ∧ match e with
    | .normal => Ky (boo true) (rep s.hp kL (.raw (rec .ready none))) s.nx
    | .ret => Ky (boo false) (rep s.hp kL (.raw (rec .done (some .ret)))) s.nx
    | .exit id => Ky (boo false) (rep s.hp kL (.raw (rec .done (some (.exit id))))) s.nx
    | .goto t => Ky (boo false) (rep s.hp kL (.raw (rec .done (some (.goto t))))) s.nx
    | _ => False
/-- a round begins -/
def roundA (P : Program) (C : Cx) (kL : Nat) (rec : LoopState → Option Code → Obj) (body : Code) (Ky : AV → List (Nat × Ob) → Nat → Prop) (e : Exit) (s : S) : Prop :=
  e = .normal ∧ look s.hp kL = some (.raw (rec .ready none)) ∧ AW P C body (Qof P C (roundQ kL rec Ky) []) ⟨s.fr, s.sz, rep s.hp kL (.raw (rec .busy none)), s.nx, s.df⟩
def jumpQ (Q : Exit → S → Prop) (c : Code) (s : S) : Prop := match c with
  | .ret => Q .ret s
  | .exit id => Q (.exit id) s
  | .goto t => Q (.goto t) s
  | _ => False
/-- behind the loop -/
def After (Q : Exit → S → Prop) (kL : Nat) (rec : LoopState → Option Code → Obj) (fr : List (Nat × AV)) (sz : Nat) (df : List Nat) (hp : List (Nat × Ob)) (nx : Nat) : Prop :=
  (look hp kL = some (.raw (rec .ready none)) ∧ Q .normal ⟨fr, sz, del hp kL, nx, df⟩) ∨
  ∃ c, look hp kL = some (.raw (rec .done (some c))) ∧ jumpQ Q c ⟨fr, sz, del hp kL, nx, df⟩
/-- what a call of yield does -/
def Yields (P : Program) (γ2 : Gh) (lo l kL : Nat) (rec : LoopState → Option Code → Obj) (ps : List Nat) (assign body : Code) (fr : List (Nat × AV)) (sz : Nat) : Prop :=
  ∀ (as : List AV) (hp : List (Nat × Ob)) (nx : Nat) (Ky : AV → List (Nat × Ob) → Nat → Prop), as.length = ps.length → look hp kL = some (.raw (rec .ready none)) →
    (∀ γy, γ2.le lo γy → AW P ⟨some l, γy, nx⟩ assign (Qof P ⟨some l, γy, nx⟩ (roundA P ⟨some l, γy, nx⟩ kL rec body Ky) []) ⟨zipF ps as fr, sz, hp, nx, []⟩) → CallY P ⟨none, γ2, lo⟩ l as hp nx Ky

section
variable {P : Program} {C : Cx} {Q : Exit → S → Prop} {s : S}

/-- a block of another kind that is known, turned -/
theorem put_known {γ0 γ : Gh} {lo : Nat} {hp : List (Nat × Ob)} (hle : γ0.le lo γ) (hr : HRel γ hp) {k b : Nat} {o : Obj} (hk : look hp k = some (.raw o)) (hb : γ0.mu k = some b) (hkl : k < lo) :
    γ.w.heap[b]? = some o ∧ ∀ o', ∃ γ', γ'.w = γ.w.putObj b o' ∧ γ.le γ.nx γ' ∧ HRel γ' (rep hp k (.raw o')) ∧ γ'.nx = γ.nx := by
  have hm := hle.mu k b hkl hb
  obtain ⟨b', g1, g2, g3, g4⟩ := hr.raw k o hk
  rw [hm] at g1; cases g1
  refine ⟨g3, fun o' => ?_⟩
  obtain ⟨γ', h1, h2, h3⟩ := ghost_put hr hk hm o'
  exact ⟨γ', h1, h2.le, h2.hr, h2.nx⟩

theorem yields_of {γ2 : Gh} {lo l kL : Nat} {rec : LoopState → Option Code → Obj} {ps : Array Tmp} {assign body : Code} {fr : List (Nat × AV)} {T : Array Value} {fn : FuncId} {D : Nat}
    (hrec : rec = fun st pe => .loop { state := st, pending := pe, fn, tmps := T, params := ps, assign, body, defers := D }) (hmu : γ2.mu kL = some l) (hkl : kL < lo) (hlo : lo ≤ γ2.nx)
    (hfr : ∀ t x, look fr t = some x → lab lo x ∧ R γ2 false x (T.getD t undef)) (hps : ∀ p ∈ ps.toList, p < T.size) : Yields P γ2 lo l kL rec ps.toList assign body fr T.size := by
  intro as hp nx Ky hlen hk hAW γ cargs hle hr hnx hbs hargs
  dsimp only at hle
  obtain ⟨hh, hput⟩ := put_known hle hr hk hmu hkl
  rw [hrec] at hh
  have hcl : cargs.toArray.size = ps.size := by
    rw [List.size_toArray, ← RL_length hargs, hlen, Array.length_toList]
  refine ⟨fn, _, assign, body, run_yield hh hcl, roundIn_of_wpIn trivial ?_⟩
  have hz := zipF_R (γ := γ) ps.toList as cargs fr T hargs hps fun t x hx => R_mono hle false x _ (.inr (hfr t x hx).1) (hfr t x hx).2
  have hfold : ((ps.zip cargs.toArray).foldl (fun tmps (t, a) => tmps.setIfInBounds t a) T) = ((ps.toList.zip cargs).foldl (fun tmps (p : Nat × Value) => tmps.setIfInBounds p.1 p.2) T) := by
    rw [← Array.foldl_toList, Array.toList_zip]
  dsimp only
  rw [hfold]
  have hrel : Rel γ ⟨zipF ps.toList as fr, T.size, hp, nx, []⟩ { tmps := (ps.toList.zip cargs).foldl (fun tmps (p : Nat × Value) => tmps.setIfInBounds p.1 p.2) T, defers := [] } :=
    ⟨⟨hz.2, hz.1, hr, rfl, hbs⟩, hnx⟩
  refine wpIn_mono (hAW γ hle γ _ (Gh.le.refl (by rw [hnx]; exact Nat.le_refl _)) hrel) ?_
  rintro e a1 w1 ⟨γ1, s1, rfl, hle1, hr1, hq⟩
  simp only [Qof, roundA] at hq
  obtain ⟨rfl, hk1, hbody⟩ := hq
  dsimp only at hle1
  rw [← hnx] at hle1
  have hle1' := hle.trans (hle1.mono hle.nxl)
  obtain ⟨hh1, hput1⟩ := put_known hle1' hr1.hr hk1 hmu hkl
  obtain ⟨γ1', hw1', hle2, hh2, hnx2⟩ := hput1 (rec .busy none)
  have hbr := run_beginRound (P := P) (w := γ1.w) (l := l) (by rw [hh1, hrec]) rfl
  refine ⟨γ1'.w, ?_, ?_⟩
  · rw [hbr, hw1', hrec]
  have hle2' : γ.le γ.nx γ1' := hle1.trans (hle2.mono hle1.nxl)
  refine wpIn_mono (hbody γ1' a1 (by dsimp only; rw [← hnx]; exact hle2') ⟨⟨fun t x h => R_le hle2 (hr1.fr t x h), hr1.sz, hh2, DF_le hle2 hr1.df, by rw [hle2.base]; exact Nat.le_trans hr1.bs hle2.below.size⟩, by rw [hnx2]; exact hr1.nx⟩) ?_
  rintro e a3 w3 ⟨γ3, s3, rfl, hle3, hr3, hq⟩
  simp only [Qof, roundQ] at hq
  obtain ⟨hk3, hq⟩ := hq
  dsimp only at hle3
  rw [← hnx] at hle3
  have hle3f := hle2'.trans hle3
  have hle3' := hle.trans (hle3f.mono hle.nxl)
  obtain ⟨hh3, hput3⟩ := put_known hle3' hr3.hr hk3 hmu hkl
  have fin : ∀ (j : Option Code), Ky (boo j.isNone) (rep s3.hp kL (.raw (rec (if j.isNone then .ready else .done) j))) s3.nx →
      ∃ v w', (Instr.endRound l j).run P γ3.w = .ok v w' ∧ (fun e w' => ∃ v, e = Ending.returned v ∧ ∃ γ' x hp' nx', γ'.w = w' ∧ γ.le γ.nx γ' ∧ HRel γ' hp' ∧ γ'.nx = nx' ∧ R γ' false x v ∧ Ky x hp' nx') (.returned v) w' := by
    intro j hky
    obtain ⟨γ4, hw4, hle4, hh4, hnx4⟩ := hput3 (rec (if j.isNone then .ready else .done) j)
    refine ⟨.bool j.isNone, γ4.w, ?_, .bool j.isNone, rfl, γ4, _, _, _, rfl, ?_, hh4, by rw [hnx4]; exact hr3.nx, by simp [R], hky⟩
    · rw [run_endRound (P := P) j (by rw [hh3, hrec]), hw4, hrec]
    · exact hle3f.trans (hle4.mono hle3f.nxl)
  cases e with
  | normal => exact fin none hq
  | ret => exact fin (some .ret) hq
  | exit id => exact fin (some (.exit id)) hq
  | goto t => exact fin (some (.goto t)) hq
  | _ => exact hq.elim

/-- A range over a function. -/
theorem AW.rangeFunc {g : Operand} {ps : Array Tmp} {assign body : Code} (hro : C.r = none) {gf : FuncId} {fs cs : List AV} (hg : closure s g = some (gf, fs, cs)) {fn : Func} {c : Code} (hf : P.funcs[gf]? = some fn) (hb : fn.body = some c)
    (hcall : ∀ (args : Array Value) (w : World), (callFunc gf args).run P w = .ok (.enter gf args) w) (hps : ∀ p ∈ ps.toList, p < s.sz) (hn : (fs ++ [yv 0] ++ cs).length ≤ fn.ntmps)
    (h : ∀ (l : Nat) (rec : LoopState → Option Code → Obj) (γ2 : Gh), Yields P γ2 (s.nx + 2) l (s.nx + 1) rec ps.toList assign body s.fr s.sz →
      AW P ⟨none, γ2, s.nx + 2⟩ c (Qof P ⟨none, γ2, s.nx + 2⟩ (fin P fn fun _ hp nx => After Q (s.nx + 1) rec s.fr s.sz (s.nx :: s.df) hp nx) [])
        ⟨frameOf 0 (fs ++ [yv l] ++ cs), fn.ntmps, (s.nx + 1, .raw (rec .ready none)) :: (s.nx, .raw (.deferred (some []))) :: s.hp, s.nx + 2, []⟩) : AW P C (.rangeFunc g ps assign body) Q s := by
  intro γ a hl hr
  obtain ⟨us, vs, hev, hus, hvs⟩ := closure_R hr hg
  refine wpIn_rangeFunc ?_
  intro fid hfn
  have hround : (FF C.r).round = none := hro
  rw [hround]
  obtain ⟨rec, hrec⟩ : ∃ rec : LoopState → Option Code → Obj, rec = fun st pe => .loop { state := st, pending := pe, fn := fid, tmps := a.tmps, params := ps, assign, body, defers := γ.w.heap.size } := ⟨_, rfl⟩
  -- the two blocks
  obtain ⟨hle0, hh0, hf0⟩ := ghost_bump hr.hr (s.nx + 2) (by rw [hr.nx]; omega)
  obtain ⟨γ1, hw1, hst1, hmu1, hb1⟩ := ghost_raw hh0 (by exact hr.bs) (hf0 s.nx (by rw [hr.nx]; exact Nat.le_refl _) (by omega)) (.deferred (some []))
  have hfree1 := hst1.free (s.nx + 1) (hf0 (s.nx + 1) (by rw [hr.nx]; omega) (by omega)) (by omega)
  obtain ⟨γ2, hw2, hst2, hmu2, hb2⟩ := ghost_raw hst1.hr (by rw [hb1, hw1, World.size_alloc]; exact Nat.le_succ_of_le hr.bs) hfree1 (rec .ready none)
  have hnx2 : γ2.nx = s.nx + 2 := by rw [hst2.nx, hst1.nx]
  have hle1 : γ.le γ.nx γ1 := hle0.trans (hst1.le.mono hle0.nxl)
  have hle2 : γ.le γ.nx γ2 := hle1.trans (hst2.le.mono hle1.nxl)
  have hw1' : γ1.w = γ.w.alloc (.deferred (some [])) := hw1
  have hmu2' : γ2.mu (s.nx + 1) = some (γ.w.heap.size + 1) := by rw [hmu2, hw1', World.size_alloc]
  have hmuD : γ2.mu s.nx = some γ.w.heap.size := hst2.le.mu s.nx _ (by rw [hst1.nx]; show s.nx < s.nx + 2; omega) hmu1
  have hW : γ2.w = (γ.w.alloc (.deferred (some []))).alloc (rec .ready none) := by rw [hw2, hw1']
  have hargs : RL γ2 false (fs ++ [yv (γ.w.heap.size + 1)] ++ cs) (us ++ [.func (.yield (γ.w.heap.size + 1)) #[] #[]] ++ vs) :=
    RL_append (RL_append (RL_le hle2 hus) (RL_one (by simp [R, yv]))) (RL_le hle2 hvs)
  have hY : Yields P γ2 (s.nx + 2) (γ.w.heap.size + 1) (s.nx + 1) rec ps.toList assign body s.fr s.sz := by
    rw [← hr.sz] at hps ⊢
    refine yields_of hrec hmu2' (by omega) (by rw [hnx2]; exact Nat.le_refl _) (fun t x hx => ?_) hps
    have := R_le hle2 (hr.fr t x hx)
    have hlab := R_lab x _ this
    rw [hnx2] at hlab
    exact ⟨hlab, this⟩
  have hcalls := calls_enter hf hb (by simpa using hn) hst2.hr hnx2 (by rw [hle2.base]; exact Nat.le_trans hr.bs hle2.below.size) hargs (h (γ.w.heap.size + 1) rec γ2 hY)
  refine ⟨γ.w.heap.size + 1, [{ target := .collected γ.w.heap.size, args := #[] }], γ2.w, { target := .fn (.func gf) vs.toArray, args := us.toArray ++ #[.func (.yield (γ.w.heap.size + 1)) #[] #[]] }, γ2.w, gf,
    (us ++ [Value.func (.yield (γ.w.heap.size + 1)) #[] #[]] ++ vs).toArray, γ2.w, ?_, ?_, fun _ _ => trivial, ?_, fun h => (by cases h), ?_⟩
  · rw [hW, hrec]; exact run_enterLoop_outer _ _ _ _ _
  · simp only [resolve, rangeCall, hev, Deferred.ofValue, Sem.run_pure]
    simp [Act.eval]
  · have e : (us.toArray ++ #[Value.func (.yield (γ.w.heap.size + 1)) #[] #[]] ++ vs.toArray : Array Value) = (us ++ [Value.func (.yield (γ.w.heap.size + 1)) #[] #[]] ++ vs).toArray := by apply Array.ext'; simp
    simp only [invoke, e]
    exact hcall _ _
  · refine callsIn_FF.2 (hcalls.mono ?_)
    rintro e w3 ⟨v, rfl, γ3, x, hp', nx', rfl, hle3, hh3, hnx3, _, hA⟩
    have hle03 : γ.le γ.nx γ3 := hle2.trans (hle3.mono hle2.nxl)
    have hloc : C.lo ≤ γ.nx := hl.nxl
    -- the record is shut
    have shut : ∀ st pe, look hp' (s.nx + 1) = some (.raw (rec st pe)) → st ≠ .busy → ∃ γ4, (Instr.endLoop (γ.w.heap.size + 1)).run P γ3.w = .ok pe γ4.w ∧ γ.le C.lo γ4 ∧
        Rel γ4 ⟨s.fr, s.sz, del hp' (s.nx + 1), nx', s.nx :: s.df⟩ { a with defers := { target := .collected γ.w.heap.size, args := #[] } :: a.defers } := by
      intro st pe hk hst
      rw [hnx2] at hle3
      obtain ⟨hh, hput⟩ := put_known hle3 hh3 hk hmu2' (by omega)
      obtain ⟨γ4, hw4, hle4, hh4, hnx4⟩ := hput (.loop { state := .exhausted, pending := pe, fn := fid, tmps := a.tmps, params := ps, assign, body, defers := γ.w.heap.size })
      obtain ⟨γ5, hw5, hle5, hh5, hnx5, _⟩ := hrel_del hh4 (s.nx + 1)
      have hle45 : γ3.le γ3.nx γ5 := hle4.trans (hle5.mono hle4.nxl)
      have hle05 := hle03.trans (hle45.mono hle03.nxl)
      refine ⟨γ5, ?_, hle05.mono hloc, ⟨⟨fun t x h => R_le hle05 (hr.fr t x h), hr.sz, hh5.look fun l => ?_, ?_, by rw [hle05.base]; exact Nat.le_trans hr.bs hle05.below.size⟩, by rw [hnx5, hnx4]; exact hnx3⟩⟩
      · rw [run_endLoop (P := P) (by rw [hh, hrec]) (by simpa using hst), hw5, hw4]
      · rw [look_del, look_del, look_rep _ _ _ _ (by rw [hk]; rfl)]
        split <;> rfl
      · refine ⟨γ.w.heap.size, a.defers, rfl, ?_, ?_, DF_le hle05 hr.df⟩
        · have h1 : γ2.nx ≤ γ3.nx := by rw [hnx2]; exact hle3.nxl
          have := hle45.nxl
          omega
        · have h1 := hle3.mu s.nx _ (by omega) hmuD
          refine hle45.mu s.nx _ ?_ h1
          have : s.nx + 2 ≤ γ3.nx := hle3.nxl
          omega
    rcases hA with ⟨hk, hq⟩ | ⟨jc, hk, hq⟩
    · obtain ⟨γ4, hrun, hle4, hrel⟩ := shut .ready none hk (by simp)
      exact ⟨none, γ4.w, hrun, γ4, _, rfl, hle4, hrel, hq⟩
    · obtain ⟨γ4, hrun, hle4, hrel⟩ := shut .done (some jc) hk (by simp)
      refine ⟨some jc, γ4.w, hrun, ?_⟩
      unfold jumpQ at hq
      split at hq
      · exact wpIn_ret ⟨γ4, _, rfl, hle4, hrel, hq⟩
      · exact wpIn_exit ⟨γ4, _, rfl, hle4, hrel, hq⟩
      · exact wpIn_goto ⟨γ4, _, rfl, hle4, hrel, hq⟩
      · exact hq.elim
end
end Go.Eng

namespace Go.Eng
set_option linter.unusedSimpArgs false
set_option linter.unusedVariables false
open Go Go.RowKit

mutual
def ren (σ : Nat → Nat) : AV → AV
  | .bad => .bad
  | .v x => .v x
  | .sl z cs n k => .sl z (renL σ cs) n (k.map σ)
  | .ptr cs => .ptr (renL σ cs)
  | .loc id off => .loc (σ id) off
  | .bsl z id off n => .bsl z (σ id) off n
  | .csl z id off n c => .csl z (σ id) off n c
  | .agg cs => .agg (renL σ cs)
  | .tup cs => .tup (renL σ cs)
  | .fn f fs cs => .fn f (renL σ fs) (renL σ cs)
  | .ifc t x => .ifc t (ren σ x)
def renL (σ : Nat → Nat) : List AV → List AV
  | [] => []
  | x :: xs => ren σ x :: renL σ xs
end
theorem renL_length (σ : Nat → Nat) : ∀ xs, (renL σ xs).length = xs.length
  | [] => rfl
  | x :: xs => by simp [renL, renL_length σ xs]

def renG (γ : Gh) (σ : Nat → Nat) (n : Nat) (al : Nat → Bool) : Gh :=
  { γ with mu := fun l => if l < n then γ.mu (σ l) else none, nx := n, al := al, tk := fun l => if l < n then γ.tk (σ l) else false }

mutual
theorem R_ren {γ : Gh} {σ : Nat → Nat} {n : Nat} {al : Nat → Bool} (ha : ∀ l, l < n → al l = true → γ.al (σ l) = true) (p : Bool) : ∀ (x : AV) (y : Value), lab n x → R γ p (ren σ x) y → R (renG γ σ n al) p x y
  | .bad, _, _, _ => by simp [R]
  | .v _, _, _, r => by simpa [R, ren] using r
  | .sl z cs m k, y, hl, r => by
    simp only [R, ren] at r ⊢
    obtain ⟨a, cap, h1, h2, h3, h4, h5, h6, h7⟩ := r
    rw [renL_length] at h4
    refine ⟨a, cap, h1, h2, h3, h4, h5, ?_, fun k' e => ?_⟩
    · rcases h6 with h6 | ⟨b, o, e, hi, hc⟩
      · exact .inl h6
      · exact .inr ⟨b, o, e, hi, RC_ren ha b cs o hc⟩
    · subst e
      have hlt : k' < n := hl k' rfl
      obtain ⟨g1, g2, g3, g4⟩ := h7 (σ k') rfl
      refine ⟨g1, hlt, by simp only [renG, if_pos hlt]; exact g3, fun hal => ?_⟩
      rcases g4 (ha k' hlt hal) with g | ⟨b, o, cur, e', i1, i2, i3, i4, i5, i6⟩
      · exact .inl g
      · exact .inr ⟨b, o, cur, e', i1, by simp only [renG, if_pos hlt]; exact i2, i3, i4, i5, i6⟩
  | .ptr cs, y, _, r => by
    simp only [R, ren] at r ⊢
    obtain ⟨b, o, h1, h2, h3⟩ := r
    rw [renL_length] at h2
    exact ⟨b, o, h1, h2, RC_ren ha b cs o h3⟩
  | .loc id off, y, hl, r => by
    simp only [R, ren] at r ⊢
    obtain ⟨h1, h2, b, h3, h4⟩ := r
    have hlt : id < n := hl
    exact ⟨h1, hlt, b, by simp only [renG, if_pos hlt]; exact h3, h4⟩
  | .bsl z id off m, y, hl, r => by
    simp only [R, ren] at r ⊢
    obtain ⟨h1, h2, b, a, cap, h3, h4⟩ := r
    have hlt : id < n := hl
    exact ⟨h1, hlt, b, a, cap, by simp only [renG, if_pos hlt]; exact h3, h4⟩
  | .csl z id off m c, y, hl, r => by
    simp only [R, ren] at r ⊢
    obtain ⟨h1, h2, b, h3, h4⟩ := r
    have hlt : id < n := hl
    exact ⟨h1, hlt, b, by simp only [renG, if_pos hlt]; exact h3, h4⟩
  | .agg cs, y, hl, r => by simp only [R, ren] at r ⊢; obtain ⟨vs, h1, h2, h3⟩ := r; exact ⟨vs, h1, h2, RL_ren ha p cs vs hl h3⟩
  | .tup cs, y, hl, r => by simp only [R, ren] at r ⊢; obtain ⟨vs, h1, h3⟩ := r; exact ⟨vs, h1, RL_ren ha p cs vs hl h3⟩
  | .fn f fs cs, y, hl, r => by simp only [R, ren] at r ⊢; obtain ⟨us, vs, h1, h3, h4⟩ := r; exact ⟨us, vs, h1, RL_ren ha p fs us hl.1 h3, RL_ren ha p cs vs hl.2 h4⟩
  | .ifc t x, y, hl, r => by simp only [R, ren] at r ⊢; obtain ⟨u, h1, h3⟩ := r; exact ⟨u, h1, R_ren ha p x u hl h3⟩
theorem RL_ren {γ : Gh} {σ : Nat → Nat} {n : Nat} {al : Nat → Bool} (ha : ∀ l, l < n → al l = true → γ.al (σ l) = true) (p : Bool) : ∀ (xs : List AV) (ys : List Value), labL n xs → RL γ p (renL σ xs) ys → RL (renG γ σ n al) p xs ys
  | [], _, _, r => by simpa [RL, renL] using r
  | x :: xs, ys, hl, r => by simp only [RL, renL] at r ⊢; obtain ⟨u, us, h1, h2, h3⟩ := r; exact ⟨u, us, h1, R_ren ha p x u hl.1 h2, RL_ren ha p xs us hl.2 h3⟩
theorem RC_ren {γ : Gh} {σ : Nat → Nat} {n : Nat} {al : Nat → Bool} (ha : ∀ l, l < n → al l = true → γ.al (σ l) = true) (b : Nat) : ∀ (xs : List AV) (o : Nat), RC γ b o (renL σ xs) → RC (renG γ σ n al) b o xs
  | [], _, _ => by simp [RC]
  | x :: xs, o, r => by
    simp only [RC, renL] at r ⊢
    obtain ⟨⟨u, h1, h2, h3⟩, h4⟩ := r
    exact ⟨⟨u, h1, h2, R_renT ha x u h3⟩, RC_ren ha b xs (o + 1) h4⟩
theorem R_renT {γ : Gh} {σ : Nat → Nat} {n : Nat} {al : Nat → Bool} (ha : ∀ l, l < n → al l = true → γ.al (σ l) = true) : ∀ (x : AV) (y : Value), R γ true (ren σ x) y → R (renG γ σ n al) true x y
  | .bad, _, _ => by simp [R]
  | .v _, _, r => by simpa [R, ren] using r
  | .sl z cs m k, y, r => by
    simp only [R, ren] at r ⊢
    obtain ⟨a, cap, h1, h2, h3, h4, h5, h6, h7⟩ := r
    rw [renL_length] at h4
    refine ⟨a, cap, h1, h2, h3, h4, h5, ?_, fun k' e => ?_⟩
    · rcases h6 with h6 | ⟨b, o, e, hi, hc⟩
      · exact .inl h6
      · exact .inr ⟨b, o, e, hi, RC_ren ha b cs o hc⟩
    · subst e
      have := (h7 (σ k') rfl).1; cases this
  | .ptr cs, y, r => by
    simp only [R, ren] at r ⊢
    obtain ⟨b, o, h1, h2, h3⟩ := r
    rw [renL_length] at h2
    exact ⟨b, o, h1, h2, RC_ren ha b cs o h3⟩
  | .loc id off, y, r => by simp [R, ren] at r
  | .bsl z id off m, y, r => by simp [R, ren] at r
  | .csl z id off m c, y, r => by simp [R, ren] at r
  | .agg cs, y, r => by simp only [R, ren] at r ⊢; obtain ⟨vs, h1, h2, h3⟩ := r; exact ⟨vs, h1, h2, RL_renT ha cs vs h3⟩
  | .tup cs, y, r => by simp only [R, ren] at r ⊢; obtain ⟨vs, h1, h3⟩ := r; exact ⟨vs, h1, RL_renT ha cs vs h3⟩
  | .fn f fs cs, y, r => by simp only [R, ren] at r ⊢; obtain ⟨us, vs, h1, h3, h4⟩ := r; exact ⟨us, vs, h1, RL_renT ha fs us h3, RL_renT ha cs vs h4⟩
  | .ifc t x, y, r => by simp only [R, ren] at r ⊢; obtain ⟨u, h1, h3⟩ := r; exact ⟨u, h1, R_renT ha x u h3⟩
theorem RL_renT {γ : Gh} {σ : Nat → Nat} {n : Nat} {al : Nat → Bool} (ha : ∀ l, l < n → al l = true → γ.al (σ l) = true) : ∀ (xs : List AV) (ys : List Value), RL γ true (renL σ xs) ys → RL (renG γ σ n al) true xs ys
  | [], _, r => by simpa [RL, renL] using r
  | x :: xs, ys, r => by simp only [RL, renL] at r ⊢; obtain ⟨u, us, h1, h2, h3⟩ := r; exact ⟨u, us, h1, R_renT ha x u h2, RL_renT ha xs us h3⟩
end
def renO (σ : Nat → Nat) : Ob → Ob
  | .box row => .box (renL σ row)
  | .tok => .tok
  | .raw o => .raw o
def labO (n : Nat) : Ob → Prop
  | .box row => labL n row
  | _ => True
theorem look_mem {α : Type} : ∀ {l : List (Nat × α)} {t : Nat} {x : α}, look l t = some x → (t, x) ∈ l
  | [], t, x, h => by cases h
  | (k, y) :: r, t, x, h => by
    rw [look_cons] at h
    by_cases e : k = t
    · rw [if_pos e] at h; cases h; subst e; simp
    · rw [if_neg e] at h; exact List.mem_cons_of_mem _ (look_mem h)

theorem Sub.of {C : Cx} {s s' : S} (σ : Nat → Nat) (hσ : ∀ l, l < C.lo → σ l = l) (hinj : ∀ l l', l < s'.nx → l' < s'.nx → σ l = σ l' → l = l') (hlo : C.lo ≤ s'.nx)
    (hsz : s'.sz = s.sz) (hdf : s.df = s'.df.map σ) (hdl : ∀ l ∈ s'.df, l < s'.nx)
    (hfr : ∀ p ∈ s'.fr, lab s'.nx p.2 ∧ look s.fr p.1 = some (ren σ p.2))
    (hhp : ∀ p ∈ s'.hp, p.1 < s'.nx ∧ labO s'.nx p.2 ∧ look s.hp (σ p.1) = some (renO σ p.2)) : Sub C s s' := by
  intro γ a hl hr
  have hh := hr.hr
  obtain ⟨al, hal⟩ : ∃ al : Nat → Bool, ∀ l, al l = true ↔ look s'.hp l = some .tok :=
    ⟨fun l => match look s'.hp l with | some .tok => true | _ => false, fun l => by
      dsimp only
      split
      · rename_i h; simp [h]
      · rename_i h; constructor
        · intro h'; cases h'
        · intro h'; exact absurd h' h⟩
  have hlt : ∀ l ob, look s'.hp l = some ob → l < s'.nx := fun l ob h => (hhp _ (look_mem h)).1
  have hob : ∀ l ob, look s'.hp l = some ob → look s.hp (σ l) = some (renO σ ob) := fun l ob h => (hhp _ (look_mem h)).2.2
  have ha : ∀ l, l < s'.nx → al l = true → γ.al (σ l) = true := fun l _ h => (hh.tok _).2 (hob l _ ((hal l).1 h))
  have hle : γ.le C.lo (renG γ σ s'.nx al) := by
    refine ⟨rfl, Below.refl _ _, fun _ => Nat.le_refl _, fun _ _ => rfl, fun _ _ _ => rfl, hlo, fun l b h hm => ?_, fun k h ht => ?_, fun k h ht hal' => ?_, fun _ _ _ _ _ _ => ⟨rfl, fun c _ h => ⟨c, h, rfl⟩⟩⟩
    · simp only [renG, if_pos (Nat.lt_of_lt_of_le h hlo), hσ l h]; exact hm
    · simp only [renG, if_pos (Nat.lt_of_lt_of_le h hlo), hσ k h]; exact ht
    · have := ha k (Nat.lt_of_lt_of_le h hlo) hal'; rwa [hσ k h] at this
  refine ⟨renG γ σ s'.nx al, rfl, hle, ⟨⟨?_, ?_, ?_, ?_, hr.bs⟩, rfl⟩⟩
  · intro t x hx
    obtain ⟨h1, h2⟩ := hfr _ (look_mem hx)
    exact R_ren ha false x _ h1 (hr.fr t _ h2)
  · rw [hr.sz, hsz]
  · refine ⟨?_, ?_, ?_, ?_, ?_, hh.imz, ?_, ?_, hh.gok.le hle⟩
    · intro l row h
      have hl' := hlt l _ h
      obtain ⟨b, cur, e, g1, g2, g3, g4, g5, g6⟩ := hh.box (σ l) _ (hob l _ h)
      exact ⟨b, cur, e, by simp only [renG, if_pos hl']; exact g1, g2, g3, g4, g5, RL_ren ha false row _ (hhp _ (look_mem h)).2.1 g6⟩
    · intro k; exact hal k
    · intro l l' b h1 h2 h3 h4
      obtain ⟨o1, e1⟩ := Option.isSome_iff_exists.mp h1
      obtain ⟨o2, e2⟩ := Option.isSome_iff_exists.mp h2
      have n1 := hlt l _ e1
      have n2 := hlt l' _ e2
      simp only [renG, if_pos n1] at h3
      simp only [renG, if_pos n2] at h4
      exact hinj l l' n1 n2 (hh.inj _ _ b (by rw [hob l _ e1]; rfl) (by rw [hob l' _ e2]; rfl) h3 h4)
    · intro l h
      have hn : ¬ l < s'.nx := Nat.not_lt.2 h
      refine ⟨by simp only [renG, if_neg hn], ?_, by simp only [renG, if_neg hn]⟩
      cases h' : look s'.hp l with
      | none => rfl
      | some ob => exact absurd (hlt l _ h') hn
    · intro k h
      have h' := (hal k).1 h
      simp only [renG, if_pos (hlt k _ h')]
      exact hh.tkal _ ((hh.tok _).2 (hob k _ h'))
    · intro l b h
      simp only [renG] at h
      split at h
      · exact hh.live _ b h
      · cases h
    · intro l o h
      obtain ⟨b, g1, g2, g3, g4⟩ := hh.raw (σ l) o (hob l _ h)
      exact ⟨b, by simp only [renG, if_pos (hlt l _ h)]; exact g1, g2, g3, g4⟩
  · have key : ∀ (ks : List Nat) (ds : List Deferred), (∀ l ∈ ks, l < s'.nx) → DF γ (ks.map σ) ds → DF (renG γ σ s'.nx al) ks ds := by
      intro ks
      induction ks with
      | nil => intro ds _ h; exact h
      | cons k ks ih =>
        intro ds hk h
        simp only [List.map_cons, DF] at h ⊢
        obtain ⟨D, r, h1, h2, h3, h4⟩ := h
        have := hk k (by simp)
        exact ⟨D, r, h1, this, by simp only [renG, if_pos this]; exact h3, ih r (fun l hl => hk l (List.mem_cons_of_mem _ hl)) h4⟩
    exact key _ _ hdl (by rw [← hdf]; exact hr.df)
theorem renL_fix {σ : Nat → Nat} : ∀ {xs : List AV}, (∀ x ∈ xs, ren σ x = x) → renL σ xs = xs
  | [], _ => rfl
  | x :: xs, h => by rw [renL, h x (by simp), renL_fix fun y hy => h y (List.mem_cons_of_mem _ hy)]
theorem labL_all {n : Nat} : ∀ {xs : List AV}, (∀ x ∈ xs, lab n x) → labL n xs
  | [], _ => trivial
  | x :: xs, h => ⟨h x (by simp), labL_all fun y hy => h y (List.mem_cons_of_mem _ hy)⟩
@[go_sem] theorem renL_bys (σ : Nat → Nat) (b : List UInt8) : renL σ (bys b) = bys b := renL_fix (by simp [bys, ren])
@[go_sem] theorem labL_bys (n : Nat) (b : List UInt8) : labL n (bys b) = True := eq_true (labL_all (by simp [bys, lab]))
theorem Sub.refl {C : Cx} {s : S} : Sub C s s := fun γ a hl hr => ⟨γ, rfl, Gh.le.refl hl.nxl, hr⟩
end Go.Eng

namespace Go.Eng
open Go Go.RowKit
attribute [go_sem] finD zipF closure yv lab labL labO ren renL renO isBox S.fix
section
variable (P : Program) (s : S) (t : Nat) (r : List ResultVar) (x y : AV) (xs : List AV)
@[go_sem] theorem resOk_nil : resOk P s [] = True := rfl
@[go_sem] theorem resOk_tmp : resOk P s (.tmp t :: r) = resOk P s r := rfl
@[go_sem] theorem resA_nil : resA P s [] = [] := rfl
@[go_sem] theorem resA_tmp : resA P s (.tmp t :: r) = s.ev (.tmp t) :: resA P s r := rfl
@[go_sem] theorem oneOr_one : oneOr [x] = x := rfl
@[go_sem] theorem oneOr_two : oneOr (x :: y :: xs) = .tup (x :: y :: xs) := rfl
end
section
variable {P : Program} {C : Cx} {s : S} {c : Operand} {x y : Code} {Q : Exit → S → Prop}
theorem AW.cond_dec {p : Prop} {inst : Decidable p} (hc : s.ev c = .v (.bool (@decide p inst))) (ht : p → AW P C x Q s) (hf : ¬ p → AW P C y Q s) : AW P C (.cond c x y) Q s :=
  AW.cond hc (fun h => ht (of_decide_eq_true h)) (fun h => hf (of_decide_eq_false h))
theorem AW.cond_tt (hc : s.ev c = .v (.bool true)) (h : AW P C x Q s) : AW P C (.cond c x y) Q s := AW.cond hc (fun _ => h) (fun h => by cases h)
theorem AW.cond_ff (hc : s.ev c = .v (.bool false)) (h : AW P C y Q s) : AW P C (.cond c x y) Q s := AW.cond hc (fun h => by cases h) (fun _ => h)
end

theorem row_u8 {l : List UInt8} {n : Nat} (h : n < l.length) : (List.drop n (l.map u8)).getD 0 .bad = u8 (l.getD n 0) := by
  rw [List.getD_eq_getElem?_getD, List.getElem?_drop, Nat.add_zero, List.getElem?_map, List.getElem?_eq_getElem h, List.getD_eq_getElem?_getD, List.getElem?_eq_getElem h]; rfl
theorem wrap_tdiv {i b : Int} (hi : inI i) (hb : 0 < b) : IntKind.i64.wrap (i.tdiv b) = i.tdiv b := by
  refine wrapI _ ?_
  have h1 : (i.tdiv b).natAbs ≤ i.natAbs := by rw [Int.natAbs_tdiv]; exact Nat.div_le_self _ _
  unfold inI at *
  by_cases h : i.tdiv b = i
  · rw [h]; exact hi
  · have h2 : b.natAbs ≠ 1 := by
      intro h3
      have h5 : b = 1 := by omega
      rw [h5, Int.tdiv_one] at h
      exact h rfl
    have h4 : (i.tdiv b).natAbs ≤ i.natAbs / 2 := by rw [Int.natAbs_tdiv]; exact Nat.div_le_div_left (by omega) (by decide)
    omega
@[go_sem] theorem wrap_u8i (x : UInt8) : IntKind.i64.wrap (x.toNat : Int) = (x.toNat : Int) := wrapI _ (by have := x.toNat_lt; unfold inI; omega)
@[go_sem] theorem wrap_u8u (x : UInt8) : IntKind.u64.wrap (x.toNat : Int) = (x.toUInt64.toNat : Int) := by
  rw [wrap_u _ rfl, UInt8.toNat_toUInt64]
  have := x.toNat_lt
  rw [Nat.mod_eq_of_lt (by simp only [IntKind.bits]; omega)]
theorem wrap_inI {i : Int} (h : inI i) : IntKind.i64.wrap i = i := wrapI i h
attribute [go_sem] Nat.zero_add Nat.mul_one Int.toNat_natCast

theorem splice_u8 {l : List UInt8} {n : Nat} {x : UInt8} (h : n < l.length) : splice (l.map u8) n [u8 x] = (l.set n x).map u8 := by
  unfold splice
  rw [List.set_eq_take_append_cons_drop, if_pos h]
  simp
theorem splice_all {l x : List AV} (h : x.length = l.length) : splice l 0 x = x := by
  unfold splice
  simp [h]
@[go_sem] theorem map_dt_u8 (l : List UInt8) : (l.map u8).map dt = l.map u8 := by simp [dt]
@[go_sem] theorem resA_cell {P : Program} {s : S} {a : Nat} {t : TypeId} {r : List ResultVar} : resA P s (.cell a t :: r) = (match P.underlying t with | some d => loadA d (P.cellsOf t) (placeA s.hp (s.ev (.tmp a))) | none => .bad) :: resA P s r := rfl
@[go_sem] theorem resOk_cell {P : Program} {s : S} {a : Nat} {t : TypeId} {r : List ResultVar} : resOk P s (.cell a t :: r) = ((P.underlying t).isSome = true ∧ 0 < P.cellsOf t ∧ P.cellsOf t ≤ (placeA s.hp (s.ev (.tmp a))).length ∧ resOk P s r) := rfl

@[go_sem] theorem one_int (k : IntKind) (n : Int) : (Value.int k n).oneCell' = true := rfl
@[go_sem] theorem one_bool (b : Bool) : (Value.bool b).oneCell' = true := rfl
@[go_sem] theorem one_str (b : ByteArray) : (Value.string b).oneCell' = true := rfl
@[go_sem] theorem one_slice (a : Option Addr) (n c : Nat) : (Value.slice a n c).oneCell' = true := rfl
@[go_sem] theorem wrap_u64c {n : Int} : IntKind.u64.wrap n = n % 18446744073709551616 := by
  unfold IntKind.wrap; simp [IntKind.signed, IntKind.bits]
end Go.Eng

namespace Go.Eng
set_option linter.unusedSimpArgs false
set_option linter.unusedVariables false
open Go Go.RowKit

theorem bytesOf_ints (bs : List UInt8) : (Lib.bytesOf (bs.map fun x => (x.toNat : Int))) = bs := by
  unfold Lib.bytesOf
  rw [List.map_map]
  conv => rhs; rw [← List.map_id bs]
  refine List.map_congr_left fun x _ => ?_
  simp
theorem run_bytesOf_sl {P : Program} {γ : Gh} {p : Bool} {bs : List UInt8} {k : Option Nat} {y : Value} (h : R γ p (.sl 1 (bys bs) bs.length k) y) : (Extern.Bytes.bytesOf y).run P γ.w = .ok ⟨bs.toArray⟩ γ.w := by
  simp only [R] at h
  obtain ⟨a, cap, rfl, h2, h3, h4, h5, h6, _⟩ := h
  rcases h6 with h6 | ⟨b, o, rfl, _, hc⟩
  · have hb : bs = [] := List.eq_nil_of_length_eq_zero h6
    subst hb
    cases a with
    | none => simp [Extern.Bytes.bytesOf]; rfl
    | some a => simp [Extern.Bytes.bytesOf, Extern.Bytes.loadBytes]; rfl
  · have hl := Lib.run_loadBytesX (P := P) γ.w (bs.map fun x => (x.toNat : Int)) ⟨b, o, none⟩ .empty (fun j x hj => by
      have e : (⟨b, o, none⟩ : Addr).add j = ⟨b, o + j, none⟩ := by unfold Addr.add; split <;> simp_all
      rw [e]
      rw [List.getElem?_map] at hj
      cases hbj : bs[j]? with
      | none => rw [hbj] at hj; cases hj
      | some x' =>
        rw [hbj] at hj
        simp only [Option.map_some, Option.some.injEq] at hj
        subst hj
        obtain ⟨u, hu, _, hR⟩ := RC_get hc j (u8 x') (by simp [bys, hbj])
        simp only [R] at hR
        rw [hu, hR])
    rw [List.length_map, bytesOf_ints] at hl
    simp only [Extern.Bytes.bytesOf, hl]
    congr 1
    apply ByteArray.ext
    show (#[] : Array UInt8) ++ bs.toArray = bs.toArray
    simp

theorem AFun.compare {P : Program} {g : FuncId} {fn : Func} (hf : P.funcs[g]? = some fn) (hname : (fn.name == "runtime.NumGoroutine") = false) (hb : fn.body.isNone = true) (hn : Extern.findNext fn = none) (he : Extern.find fn = some Extern.BytealgCompare.compare)
    (a b : List UInt8) : AFun P g [.sl 1 (bys a) a.length none, .sl 1 (bys b) b.length none] (int (Lib.compareBytes a b)) := by
  intro w im cargs hok hargs
  simp only [RL] at hargs
  obtain ⟨u, us, rfl, h1, u2, us2, rfl, h2, rfl⟩ := hargs
  have e1 := run_bytesOf_sl (P := P) h1
  have e2 := run_bytesOf_sl (P := P) h2
  refine .inr ⟨.int .i64 (Lib.compareBytes a b), w, ?_, im, Below.refl _ _, hok, fun _ _ => rfl, by simp [R]⟩
  rw [run_callFunc_extern hf hname hb hn he]
  have : (Extern.BytealgCompare.compare [u, u2].toArray).run P w = .ok (.int .i64 (Lib.compareBytes a b)) w := by
    show Sem.run P (do pure (goInt (Extern.BytealgCompare.cmp (← Extern.Bytes.bytesOf u) (← Extern.Bytes.bytesOf u2)))) w = _
    have e1' : Sem.run P (Extern.Bytes.bytesOf u) w = .ok ⟨a.toArray⟩ w := e1
    have e2' : Sem.run P (Extern.Bytes.bytesOf u2) w = .ok ⟨b.toArray⟩ w := e2
    simp only [Sem.run_bind, e1', e2', Result.andThen, Sem.run_pure, Lib.cmp_eq]
    rfl
  rw [this]
  rfl

@[go_sem] theorem renL_mapu8 (σ : Nat → Nat) (b : List UInt8) : renL σ (b.map u8) = b.map u8 := renL_fix (by simp [ren])
@[go_sem] theorem labL_mapu8 (n : Nat) (b : List UInt8) : labL n (b.map u8) = True := eq_true (labL_all (by simp [lab]))
theorem Sub.same {C : Cx} {s s' : S} (hlo : C.lo ≤ s'.nx) (hsz : s'.sz = s.sz) (hdf : s.df = s'.df) (hdl : ∀ l ∈ s'.df, l < s'.nx)
    (hfr : ∀ p ∈ s'.fr, lab s'.nx p.2 ∧ look s.fr p.1 = some (ren id p.2)) (hhp : ∀ p ∈ s'.hp, p.1 < s'.nx ∧ labO s'.nx p.2 ∧ look s.hp p.1 = some (renO id p.2)) : Sub C s s' :=
  Sub.of id (fun _ _ => rfl) (fun _ _ _ _ h => h) hlo hsz (by rw [hdf]; simp) hdl hfr hhp
def slotN (s : S) (t : Nat) : Int := match look s.fr t with
  | some (.v (.int _ n)) => n
  | _ => 0
end Go.Eng

namespace Go.Eng
set_option linter.unusedSimpArgs false
set_option linter.unusedVariables false
open Go Go.RowKit

theorem run_nilEq {P : Program} {w : World} {t e : TypeId} (ht : P.underlying t = some (.slice e)) (a : Option Addr) (n c : Nat) : (binOp .eql t (.slice a n c) (.slice none 0 0)).run P w = .ok (.bool a.isNone) w := by
  have h10 : Op.maxDepth = 9999 + 1 := rfl
  unfold binOp Op.equal
  rw [h10]
  unfold Op.equalIn
  cases a <;> simp only [Sem.run_bind, run_underlying ht, Result.andThen, Sem.run_pure] <;> rfl

/-- Is a slice nil? Where it reads as one without elements, it may be. -/
theorem AW.nilTest {P : Program} {C : Cx} {s : S} {Q : Exit → S → Prop} {id : Nat} {o1 o2 : Oper} {t d1 d2 : Nat} {ty ty' e : TypeId} (h1 : o1.op = .move (.tmp t)) (g1 : o1.guard = none) (e1 : o1.dst = some d1)
    (h2 : o2.op = .binOp .eql ty (.tmp d1) (.const (.slice none 0 0)) ty') (g2 : o2.guard = none) (e2 : o2.dst = some d2) (hd1 : d1 < s.sz) (hd2 : d2 < s.sz) (ht : P.underlying ty = some (.slice e))
    {z n : Nat} {cs : List AV} {k : Option Nat} (hA : s.ev (.tmp t) = .sl z cs n k)
    (ht' : n = 0 → Q .normal ⟨(d2, boo true) :: (d1, .sl z cs n k) :: s.fr, s.sz, s.hp, s.nx, s.df⟩) (hf' : Q .normal ⟨(d2, boo false) :: (d1, .sl z cs n k) :: s.fr, s.sz, s.hp, s.nx, s.df⟩) : AW P C (.region id #[o1, o2] false) Q s := by
  intro γ a hl hr
  refine wpIn_region_list ?_
  have hR := hr.ev (.tmp t)
  rw [hA] at hR
  obtain ⟨y, hy⟩ : ∃ y, y = a.eval (.tmp t) := ⟨_, rfl⟩
  rw [← hy] at hR
  have hrel1 := hr.set (Gh.le.refl (Nat.le_refl _)) hr.hr hr.nx (some d1) (by simp [dstOk, hd1]) (.sl z cs n k) y hR
  have hyd : (a.put (some d1) y).eval (.tmp d1) = y := by
    have : d1 < a.tmps.size := by rw [hr.sz]; exact hd1
    simp [Act.put, Act.eval, Array.getD, this]
  obtain ⟨ad, cap, hsl, hn0⟩ : ∃ ad cap, y = .slice ad n cap ∧ (ad = none → n = 0) := by
    simp only [R] at hR
    obtain ⟨ad, cap, g1, g2, _, _, g5, _⟩ := hR
    exact ⟨ad, cap, g1, fun h => by have := g5 h; omega⟩
  have hrel2 := hrel1.set (Gh.le.refl (Nat.le_refl _)) hrel1.hr hrel1.nx (some d2) (by simp [dstOk, hd2, S.set]) (boo ad.isNone) (.bool ad.isNone) (by simp [R])
  show wpListIn (FF C.r) 0 P #[o1, o2] _ [o1, o2] a γ.w
  unfold wpListIn
  rw [if_pos (by simp [Region.wanted, g1])]
  refine ⟨fun _ _ => trivial, ?_⟩
  rw [Oper.semAt_eq _ _ _ (fun c e => by rw [h1] at e; cases e)]
  have hx1 : (execOp a.eval o1).run P γ.w = .ok (.value y) γ.w := by
    unfold execOp
    rw [h1, hy]
    rfl
  rw [hx1]
  rw [Oper.uponIn_value, e1]
  unfold wpListIn
  rw [if_pos (by simp [Region.wanted, g2])]
  refine ⟨fun _ _ => trivial, ?_⟩
  rw [Oper.semAt_eq _ _ _ (fun c e => by rw [h2] at e; cases e)]
  have hx2 : (execOp (a.put (some d1) y).eval o2).run P γ.w = .ok (.value (.bool ad.isNone)) γ.w := by
    unfold execOp
    rw [h2]
    simp only [hyd]
    have hc : (a.put (some d1) y).eval (.const (.slice none 0 0)) = .slice none 0 0 := rfl
    rw [hc, hsl]
    simp only [eqGuard_at_slice, Sem.run_bind, Sem.run_pure, Result.andThen, run_nilEq ht]
  rw [hx2]
  rw [Oper.uponIn_value, e2]
  unfold wpListIn
  refine ⟨γ, _, rfl, Gh.le.refl hl.nxl, hrel2, ?_⟩
  cases ad with
  | none => exact ht' (hn0 rfl)
  | some ad => exact hf'

section
variable (p : Nat × AV) (ps : List (Nat × AV)) (x : AV) (xs ys : List AV) (b : List UInt8)
@[go_sem] theorem onesP_nil : onesP [] = True := by simp [onesP]
@[go_sem] theorem onesP_cons : onesP (p :: ps) = (oneA p.2 = true ∧ onesP ps) := by simp [onesP]
@[go_sem] theorem dkL_nil : dkL [] = [] := rfl
@[go_sem] theorem dkL_cons {x : AV} {xs : List AV} : dkL (x :: xs) = dk x :: dkL xs := rfl
@[go_sem] theorem dkL_append {xs ys : List AV} : dkL (xs ++ ys) = dkL xs ++ dkL ys := by
  induction xs with
  | nil => rfl
  | cons x xs ih => simp [dkL, ih]
theorem dkL_fix : ∀ {xs : List AV}, (∀ x ∈ xs, dk x = x) → dkL xs = xs
  | [], _ => rfl
  | x :: xs, h => by rw [dkL, h x (by simp), dkL_fix fun y hy => h y (List.mem_cons_of_mem _ hy)]
@[go_sem] theorem dkL_bys : dkL (bys b) = bys b := dkL_fix (by simp [bys, dk])
@[go_sem] theorem dkL_mapu8 : dkL (b.map u8) = b.map u8 := dkL_fix (by simp [dk])
@[go_sem] theorem dk_v {x : Value} : dk (.v x) = .v x := rfl
@[go_sem] theorem dk_sl {z n : Nat} {cs : List AV} {k : Option Nat} : dk (.sl z cs n k) = .sl z cs n none := rfl
@[go_sem] theorem dk_ptr {cs : List AV} : dk (.ptr cs) = .ptr cs := rfl
@[go_sem] theorem pl_sl {z n : Nat} {cs : List AV} : pl (.sl z cs n none) = true := rfl
@[go_sem] theorem pl_ptr {cs : List AV} : pl (.ptr cs) = true := rfl
@[go_sem] theorem plL_nil : plL [] = True := by simp [plL]
@[go_sem] theorem plL_cons : plL (x :: xs) = (pl x = true ∧ plL xs) := by simp [plL]
@[go_sem] theorem plL_append : plL (xs ++ ys) = (plL xs ∧ plL ys) := by
  simp only [plL, List.mem_append, eq_iff_iff]
  exact ⟨fun h => ⟨fun x hx => h x (.inl hx), fun x hx => h x (.inr hx)⟩, fun h x hx => hx.elim (h.1 x) (h.2 x)⟩
@[go_sem] theorem plL_bys : plL (bys b) = True := by simp [plL, bys, pl]
@[go_sem] theorem plL_mapu8 : plL (b.map u8) = True := by simp [plL, pl]
@[go_sem] theorem pl_v (v : Value) : pl (.v v) = true := by simp [pl]
@[go_sem] theorem fall_nil {α : Type} {q : α → Prop} : (∀ x, x ∈ ([] : List α) → q x) = True := by simp
@[go_sem] theorem fall_cons {α : Type} {q : α → Prop} {a : α} {l : List α} : (∀ x, x ∈ a :: l → q x) = (q a ∧ ∀ x, x ∈ l → q x) := by simp
@[go_sem] theorem bys_append (a b : List UInt8) : bys a ++ bys b = bys (a ++ b) := by simp [bys]
@[go_sem] theorem bys_length : (bys b).length = b.length := by simp [bys]
@[go_sem] theorem inOrder_nil : inOrder 0 [] = true := rfl
@[go_sem] theorem maxLen_eq : maxLen = 9223372036854775807 := rfl
@[go_sem] theorem bys_one (x : UInt8) : bys b ++ [u8 x] = bys (b ++ [x]) := by simp [bys]
@[go_sem] theorem bys_two (x y : UInt8) : bys b ++ [u8 x, u8 y] = bys (b ++ [x, y]) := by simp [bys]
end
attribute [go_sem] List.flatMap_nil List.flatMap_cons List.nil_append List.append_nil List.singleton_append List.cons_append

@[go_sem] theorem not_dec {p : Prop} {inst : Decidable p} : (!(@decide p inst)) = decide (¬ p) := by simp
@[go_sem] theorem wrap_u64_u8 (x : UInt64) : IntKind.u8.wrap (x.toNat : Int) = (x.toUInt8.toNat : Int) := by
  rw [wrap_u _ rfl, UInt64.toNat_toUInt8]; rfl
@[go_sem] theorem wrap_u64_u64 (x : UInt64) : IntKind.u64.wrap (x.toNat : Int) = (x.toNat : Int) := by
  rw [wrap_u _ rfl, Nat.mod_eq_of_lt]; exact x.toNat_lt

@[go_sem] theorem bys_drop (b : List UInt8) (n : Nat) : (bys b).drop n = bys (b.drop n) := by simp [bys]
@[go_sem] theorem bys_take (b : List UInt8) (n : Nat) : (bys b).take n = bys (b.take n) := by simp [bys]
theorem bys_get {l : List UInt8} (h : 0 < l.length) : (bys l).getD 0 .bad = u8 (l.getD 0 0) := by
  cases l with
  | nil => simp at h
  | cons x l => rfl

attribute [go_sem] List.drop_zero Int.sub_zero
end Go.Eng

namespace Go.Eng
set_option linter.unusedSimpArgs false
set_option linter.unusedVariables false
open Go Go.RowKit

theorem stepR_scope {P : Program} {b : Frame} {a : Act} {k : List Item} {cs : List Frame} {w : World} {c : Code} : step P (lone (b.atR a (.code (.scope c) :: k)) cs w) = .next (lone (b.atR a (.code c :: .inScope c :: k)) cs w) :=
  step_lone_go (by simp [stepG, stepG.exec, Frame.atR])
theorem stepR_inScope {P : Program} {b : Frame} {a : Act} {k : List Item} {cs : List Frame} {w : World} {c : Code} : step P (lone (b.atR a (.inScope c :: k)) cs w) = .next (lone (b.atR a k) cs w) :=
  step_lone_go (by simp [stepG, stepG.exec, Frame.atR])
/-- A scope that no jump goes about in. -/
theorem AW.scope {P : Program} {C : Cx} {s : S} {fin : Exit → S → Prop} {k : List It} {c : Code} (h : AW P C c (Qof P C fin (.scp :: k)) s) : AW P C (.scope c) (Qof P C fin k) s := by
  intro γ a hl hr b kk cs hro hb hrm
  obtain ⟨e, a1, w1, ⟨γ', s', h1, h2, h3, hq⟩, harr⟩ := h γ a hl hr b (.inScope c :: kk) cs hro hb hrm
  have s0 : StepsIn (Machine.fenced P (FF C.r)) P (lone (b.atR a (.code (.scope c) :: kk)) cs γ.w) (lone (b.atR a (.code c :: .inScope c :: kk)) cs γ.w) := .one (fenced_FF _ _ _) stepR_scope
  cases e with
  | normal => exact ⟨.normal, a1, w1, ⟨γ', s', h1, h2, h3, hq⟩, s0.trans (StepsIn.trans harr (.one (fenced_FF _ _ _) stepR_inScope))⟩
  | exit id => exact ⟨.exit id, a1, w1, ⟨γ', s', h1, h2, h3, hq⟩, fun k' hk => s0.trans (harr.1 k' (by simp [exitTo, hk])), fun hr' hk => let ⟨k1, g1, g2⟩ := harr.2 hr' (by simp [exitTo, hk]); ⟨k1, g1, s0.trans g2⟩⟩
  | goto l => exact hq.elim
  | ret => exact ⟨_, a1, w1, ⟨γ', s', h1, h2, h3, hq⟩, .of_steps s0 harr⟩
  | panic ch => exact ⟨_, a1, w1, ⟨γ', s', h1, h2, h3, hq⟩, .of_steps s0 harr⟩
  | outgrown => exact ⟨_, a1, w1, ⟨γ', s', h1, h2, h3, hq⟩, .of_steps s0 harr⟩
attribute [go_sem] Qof_scp Qof_scp_ret Qof_scp_exit roundA roundQ jumpQ
@[go_sem] theorem splice1 (a b : AV) : splice [a] 0 [b] = [b] := rfl
theorem After.done {Q : Exit → S → Prop} {kL : Nat} {rec : LoopState → Option Code → Obj} {fr : List (Nat × AV)} {sz : Nat} {df : List Nat} {hp : List (Nat × Ob)} {nx : Nat} {c : Code} (h1 : look hp kL = some (.raw (rec .done (some c)))) (h2 : jumpQ Q c ⟨fr, sz, del hp kL, nx, df⟩) : After Q kL rec fr sz df hp nx := .inr ⟨c, h1, h2⟩
theorem After.ready {Q : Exit → S → Prop} {kL : Nat} {rec : LoopState → Option Code → Obj} {fr : List (Nat × AV)} {sz : Nat} {df : List Nat} {hp : List (Nat × Ob)} {nx : Nat} (h1 : look hp kL = some (.raw (rec .ready none))) (h2 : Q .normal ⟨fr, sz, del hp kL, nx, df⟩) : After Q kL rec fr sz df hp nx := .inl ⟨h1, h2⟩
@[go_sem] theorem yield_lit (l : Nat) : (if (#[] : Array Value).size = 0 ∧ (#[] : Array Value).size = 0 then some l else none) = some l := rfl
end Go.Eng

namespace Go.Eng
set_option linter.unusedSimpArgs false
set_option linter.unusedVariables false
open Go Go.RowKit

/-- A function that hands out memory of its own: what is known of it, with n labels. -/
def AFunH (P : Program) (f : FuncId) (as : List AV) (hp' : List (Nat × Ob)) (n : Nat) (r : AV) : Prop :=
  ∀ (w : World) (im : Nat → Nat) (cargs : List Value), okIm w im → RL (Gh.start w w.heap.size im) true as cargs →
    CallV P f cargs w fun v w' => ∃ γ' : Gh, γ'.w = w' ∧ γ'.base = w.heap.size ∧ Below w.heap.size w w' ∧ (∀ b, b < w.heap.size → γ'.im b = im b) ∧ HRel γ' hp' ∧ γ'.nx = n ∧ R γ' false r v

def upHp (k : Nat) : List (Nat × Ob) → List (Nat × Ob)
  | [] => []
  | (l, o) :: r => (l + k, renO (· + k) o) :: upHp k r
theorem look_app {α : Type} : ∀ (xs ys : List (Nat × α)) (l : Nat), look (xs ++ ys) l = match look xs l with | some x => some x | none => look ys l
  | [], ys, l => by simp [look_nil]
  | (k, x) :: xs, ys, l => by
    rw [List.cons_append, look_cons, look_cons, look_app xs ys l]
    split <;> rfl

/-- Such a contract, from a body: behind it, what is told, its labels named anew. -/
theorem AFunH.enter {P : Program} {g : FuncId} {fn : Func} {c : Code} {as : List AV} {hp' : List (Nat × Ob)} {n : Nat} {r : AV} (hf : P.funcs[g]? = some fn) (hb : fn.body = some c)
    (hcall : ∀ (args : Array Value) (w : World), (callFunc g args).run P w = .ok (.enter g args) w) (hn : as.length ≤ fn.ntmps)
    (h : ∀ γ1, AW P ⟨none, γ1, 0⟩ c (Qof P ⟨none, γ1, 0⟩ (fin P fn fun x hp nx => Sub ⟨none, γ1, 0⟩ ⟨[(0, x)], 1, hp, nx, []⟩ ⟨[(0, r)], 1, hp', n, []⟩) []) ⟨frameOf 0 as, fn.ntmps, [], 0, []⟩) : AFunH P g as hp' n r := by
  intro w im cargs hok hargs
  have hr : HRel (Gh.start w w.heap.size im) [] := by
    exact ⟨(fun l row h => by cases h), (fun k => by simp [Gh.start, look]), (fun l l' b h => by cases h), (fun l _ => ⟨rfl, rfl, rfl⟩), (fun k h => by cases h), hok.1, (fun l b h => by cases h), (fun l o h => by cases h), hok.2⟩
  obtain ⟨γ0, hγ0⟩ : ∃ γ0, γ0 = Gh.start w w.heap.size im := ⟨_, rfl⟩
  rw [← hγ0] at hr
  have hn0 : γ0.nx = 0 := by rw [hγ0]; rfl
  have hb0 : γ0.base = w.heap.size := by rw [hγ0]; rfl
  have hw0 : γ0.w = w := by rw [hγ0]; rfl
  have hi0 : γ0.im = im := by rw [hγ0]; rfl
  have := calls_enter (cargs := cargs) hf hb hn hr hn0 (by rw [hb0, hw0]; exact Nat.le_refl _) (by rw [hγ0]; exact RL_np _ _ hargs) (h γ0)
  rw [hw0] at this
  refine CallV.mono (Rr := fun v w' => ∃ (γ' : Gh) (x : AV) (hp1 : List (Nat × Ob)) (nx1 : Nat), γ'.w = w' ∧ γ0.le γ0.nx γ' ∧ HRel γ' hp1 ∧ γ'.nx = nx1 ∧ R γ' false x v ∧ Sub ⟨none, γ0, 0⟩ ⟨[(0, x)], 1, hp1, nx1, []⟩ ⟨[(0, r)], 1, hp', n, []⟩) (.inl ⟨hcall _ _, this.mono fun e w' h => h⟩) ?_
  rintro v w' ⟨γ', x, hp1, nx1, rfl, hle, hh, rfl, hR, hs⟩
  have hle0 := hle.mono (lo' := 0) (Nat.zero_le _)
  obtain ⟨γ2, hw2, hle2, hr2⟩ := hs γ' { tmps := #[v], defers := [] } hle0 ⟨⟨(fun t y hy => by
      rw [look_cons] at hy
      split at hy
      · rename_i e; subst e; cases hy; exact hR
      · cases hy), rfl, hh, rfl, (by rw [hle.base, hb0]; have := hle.below.size; rw [hw0] at this; exact this)⟩, rfl⟩
  have hle3 := hle0.trans hle2
  refine ⟨γ2, hw2, by rw [hle3.base, hb0], ?_, fun b hb => ?_, hr2.hr, hr2.nx, ?_⟩
  · have := hle3.below
    rw [hb0, hw0, hw2] at this
    exact this
  · rw [hle3.imo b (by rw [hb0]; exact hb), hi0]
  · exact hr2.fr 0 r rfl
theorem Sub.trans {C : Cx} {s s1 s2 : S} (h : Sub C s s1) (k : Sub C s1 s2) : Sub C s s2 := by
  intro γ a hl hr
  obtain ⟨γ1, h1, h2, h3⟩ := h γ a hl hr
  obtain ⟨γ2, k1, k2, k3⟩ := k γ1 a (hl.trans h2) h3
  exact ⟨γ2, k1.trans h1, h2.trans k2, k3⟩
/-- arguments that read as those of the contract -/
theorem AFun.wk {P : Program} {f : FuncId} {as as' : List AV} {r : AV} (h : AFun P f as' r) (hw : WkL as as') : AFun P f as r :=
  fun w im cargs hok hargs => h w im cargs hok (WkL_RL hw hargs)
theorem AFunH.wk {P : Program} {f : FuncId} {as as' : List AV} {hp' : List (Nat × Ob)} {n : Nat} {r : AV} (h : AFunH P f as' hp' n r) (hw : WkL as as') : AFunH P f as hp' n r :=
  fun w im cargs hok hargs => h w im cargs hok (WkL_RL hw hargs)
theorem WkL_RC {γ : Gh} {b : Nat} : ∀ {xs rs : List AV} {o : Nat}, WkL xs rs → RC γ b o xs → RC γ b o rs
  | [], [], _, _, h => h
  | x :: xs, r :: rs, _, hw, h => by
    simp only [RC] at h ⊢
    obtain ⟨⟨u, h1, h2, h3⟩, h4⟩ := h
    exact ⟨⟨u, h1, h2, hw.1 _ _ h3⟩, WkL_RC hw.2 h4⟩
theorem WkL_length : ∀ {xs rs : List AV}, WkL xs rs → xs.length = rs.length
  | [], [], _ => rfl
  | x :: xs, r :: rs, h => by simp [WkL_length h.2]
theorem Wk.sl {z n : Nat} {cs cs' : List AV} (h : WkL cs cs') : Wk (.sl z cs n none) (.sl z cs' n none) := by
  intro γ y hR
  simp only [R] at hR ⊢
  obtain ⟨a, cap, h1, h2, h3, h4, h5, h6, h7⟩ := hR
  refine ⟨a, cap, h1, h2, h3, by rw [← WkL_length h]; exact h4, h5, ?_, fun k e => by cases e⟩
  rcases h6 with h6 | ⟨b, o, e, hi, hc⟩
  · exact .inl h6
  · exact .inr ⟨b, o, e, hi, WkL_RC h hc⟩
section
variable {P : Program} {C : Cx} {all : List Oper} {dst : Option Nat} {op : Op} {r : List Oper} {s : S} {K K' : S → Prop} {g : FuncId} {as as' : List AV} {x : AV} {hp' : List (Nat × Ob)} {n : Nat}
theorem CallE.memW (h : AFun P g as' x) (hw : WkL (as.map (frz s.hp)) as') (hb : ∀ l ∈ as.flatMap bor, isBox (look s.hp l) = true) (hd : dstOk s dst = true) (hk : ex P C all r (s.set dst x (dels s.hp (as.flatMap bor)) s.nx) K) : CallE P C all dst r s K g as := ⟨hd, CallK.mem (AFun.wk h hw) rfl hb hk⟩
theorem CallXE.memW (h : AFun P g as' x) (hw : WkL (as.map (frz s.hp)) as') (hb : as.flatMap bor = []) (hd : dstOk s dst = true) (hk : dr P all r (s.set dst x s.hp s.nx) K') : CallXE P all dst r s K' g as := ⟨hd, CallX.mem (AFun.wk h hw) rfl hb hk⟩
end
attribute [go_sem] upHp aggOk deepOk ne_eq not_false_eq_true Bool.not_true Bool.not_false Int.cast_ofNat_Int decide_true decide_false List.getD_cons_zero List.getD_cons_succ not_true_eq_false
theorem frz_agg8 (hp : List (Nat × Ob)) (a : List UInt8) : frz hp (.agg (a.map u8)) = .agg (a.map u8) := by
  simp only [frz, List.map_map]
  congr 1
theorem frz_vv (hp : List (Nat × Ob)) (x : Value) : frz hp (.v x) = .v x := rfl
section
variable {P : Program} {t : TypeId} {as bs : List AV}
@[go_sem] theorem bin_eql_agg : binO P t .eql (.agg as) (.agg bs) = (aggOk P t as bs, boo (aggEq as bs)) := rfl
@[go_sem] theorem bin_neq_agg : binO P t .neq (.agg as) (.agg bs) = (aggOk P t as bs, boo (!aggEq as bs)) := rfl
@[go_sem] theorem okU8_map (a : List UInt8) : okU8 (a.map u8) = True := eq_true ⟨a, rfl⟩
@[go_sem] theorem intsOk_u8 (a : List UInt8) : intsOk .u8 (a.map u8) = True := by
  simp only [intsOk, List.mem_map, eq_iff_iff, iff_true]
  rintro _ ⟨x, _, rfl⟩
  exact ⟨_, rfl⟩
@[go_sem] theorem aggEq_u8 (a b : List UInt8) : aggEq (a.map u8) (b.map u8) = decide (a = b) := by
  unfold aggEq
  rw [Bool.eq_iff_iff, decide_eq_true_iff, decide_eq_true_iff, List.map_map, List.map_map]
  constructor
  · intro h
    refine (List.map_inj_right (f := intA ∘ u8) fun x y hxy => ?_).1 h
    simp only [Function.comp, intA] at hxy
    exact UInt8.toNat_inj.1 (by omega)
  · rintro rfl; rfl
end
end Go.Eng

namespace Go.Eng
set_option linter.unusedSimpArgs false
set_option linter.unusedVariables false
open Go Go.RowKit

theorem del_cons_look {hp : List (Nat × Ob)} {L : Nat} {ob : Ob} (h : look hp L = some ob) (l : Nat) : look hp l = look ((L, ob) :: del hp L) l := by
  rw [look_cons, look_del]
  by_cases e : L = l
  · subst e; rw [if_pos rfl]; exact h
  · rw [if_neg e, if_neg e]
def CallB (P : Program) (g : FuncId) (as : List AV) (L : Nat) (row row' : List AV) (x : AV) : Prop :=
  ∀ (γ : Gh) (hp : List (Nat × Ob)) (cargs : List Value), HRel γ hp → γ.base ≤ γ.w.heap.size → look hp L = some (.box row) → RL γ false as cargs →
    CallV P g cargs γ.w fun v w' => ∃ γ', γ'.w = w' ∧ γ.le γ.nx γ' ∧ HRel γ' (rep hp L (.box row')) ∧ γ'.nx = γ.nx ∧ R γ' false x v
theorem CallB.enter {P : Program} {g : FuncId} {fn : Func} {c : Code} {as : List AV} {L : Nat} {row row' : List AV} {x : AV} (hf : P.funcs[g]? = some fn) (hb : fn.body = some c)
    (hcall : ∀ (args : Array Value) (w : World), (callFunc g args).run P w = .ok (.enter g args) w) (hn : as.length ≤ fn.ntmps)
    (h : ∀ (γ1 : Gh) (rest : List (Nat × Ob)) (nx : Nat), L < nx → AW P ⟨none, γ1, nx⟩ c (Qof P ⟨none, γ1, nx⟩ (fin P fn fun x' hp' nx' => x' = x ∧ hp' = (L, .box row') :: rest ∧ nx' = nx) []) ⟨frameOf 0 as, fn.ntmps, (L, .box row) :: rest, nx, []⟩) : CallB P g as L row row' x := by
  intro γ hp cargs hr bs hL hargs
  have hLn : L < γ.nx := look_lt hr (by rw [hL]; rfl)
  have hr1 : HRel γ ((L, .box row) :: del hp L) := hr.look (del_cons_look hL)
  have := calls_enter (cargs := cargs) hf hb hn hr1 rfl bs hargs (h γ (del hp L) γ.nx hLn)
  refine CallV.mono (Rr := fun v w' => ∃ (γ' : Gh) (x' : AV) (hp1 : List (Nat × Ob)) (nx1 : Nat), γ'.w = w' ∧ γ.le γ.nx γ' ∧ HRel γ' hp1 ∧ γ'.nx = nx1 ∧ R γ' false x' v ∧ (x' = x ∧ hp1 = (L, .box row') :: del hp L ∧ nx1 = γ.nx)) (.inl ⟨hcall _ _, this.mono fun e w' h => h⟩) ?_
  rintro v w' ⟨γ', x', hp1, nx1, rfl, hle, hh, hnx, hR, rfl, rfl, rfl⟩
  refine ⟨γ', rfl, hle, hh.look fun l => ?_, hnx, hR⟩
  rw [look_cons, look_del, look_rep _ _ _ _ (by rw [hL]; rfl)]
  by_cases e : L = l
  · rw [if_pos e, if_pos e]
  · rw [if_neg e, if_neg e, if_neg e]

section
variable {P : Program} {C : Cx} {κ : Cl} {ops : Array Oper}
theorem StepK.box {i : Nat} {o : Oper} {s : S} (ho : ops[i]? = some o) (hd : dstOk s o.dst = true) (hb : Says ops s o true) {f : Operand} {args : Array Operand} {ts : Array TypeId} (hop : o.op = .call { callee := .value f, args, argTypes := ts })
    {g : FuncId} {as : List AV} (hc : callee s f (args.toList.map s.ev) = some (g, as)) {L : Nat} {row row' : List AV} {x A : AV} (hL : look s.hp L = some (.box row)) (hA : A ∈ as) (hLA : L ∈ topL A) (hx : CallB P g as L row row' x) (hbx : κ.bx o.dst = true) (hal : κ.al = false) :
    StepK P C κ ops i o s (s.set o.dst x (rep s.hp L (.box row')) s.nx) := by
  have hwr : κ.wr o = true := by simp [Cl.wr, hbx]
  have hhq : κ.hq o = true := by simp [Cl.hq, hwr]
  refine ⟨⟨rfl, rfl, hd, fun t ht => set_fr t ht, Nat.le_refl _, fun _ => rfl, fun l h => absurd hwr h, fun l h => ?_, fun l h => h.elim, ?_⟩, fun _ => rfl⟩
  · left
    have h' : look (rep s.hp L (.box row')) l ≠ none := h
    rw [look_rep _ _ _ _ (by rw [hL]; rfl)] at h'
    by_cases e : L = l
    · subst e; rw [hL]; simp
    · rwa [if_neg e] at h'
  intro γ hp a hh hbs hnx hsz hdf hfree hf hag next Q hn
  obtain ⟨s1, hs1⟩ : ∃ s1 : S, s1 = ⟨looksF s (o.looksAt ops), s.sz, hp, γ.nx, s.df⟩ := ⟨_, rfl⟩
  have hev : ∀ x ∈ o.op.operands, s1.ev x = s.ev x := by
    intro x hx
    subst hs1
    cases x with
    | tmp t =>
      have : t ∈ o.looksAt ops := List.mem_append_left _ (List.mem_filterMap.2 ⟨.tmp t, by simpa using hx, rfl⟩)
      simp only [S.ev, look_looksF, if_pos this]
    | _ => rfl
  have hrel : Rel γ s1 a := by
    subst hs1
    refine ⟨⟨fun t x h => ?_, hsz, hh, hdf, hbs⟩, rfl⟩
    dsimp only at h
    rw [look_looksF] at h
    split at h
    · rename_i ht; exact hf t ht x h
    · cases h
  have hopx : ∀ x, x = f ∨ x ∈ args.toList → x ∈ o.op.operands := by
    intro x hx; rw [hop]; simp only [Op.operands, Call.operands]
    rcases hx with rfl | hx
    · simp
    · simp at hx; simp [hx]
  have hmap : args.toList.map s1.ev = args.toList.map s.ev := List.map_congr_left fun x hx => hev x (hopx x (.inr hx))
  have hc1 : callee s1 f (args.toList.map s1.ev) = some (g, as) := by
    rw [hmap, ← hc]
    cases f with
    | func g' => rfl
    | tmp t => simp only [callee, hev (.tmp t) (hopx _ (.inl rfl))]
    | const v => simp only [callee, hev (.const v) (hopx _ (.inl rfl))]
    | global v => simp only [callee, hev (.global v) (hopx _ (.inl rfl))]
  obtain ⟨cargs, hca, hrun⟩ := run_call (P := P) (o := o) hop hc1 hrel
  have hLh : look hp L = some (.box row) := by
    obtain ⟨k, hk⟩ := List.getElem?_of_mem hA
    obtain ⟨y, hy, hR⟩ := RL_get hca k A hk
    exact hag L _ hhq hL (free_top hR hLA)
  unfold wpOpIn
  simp only [ho, says_wanted hb hsz hf, if_true]
  refine upon_call (C := C) (fun c e => by rw [hop] at e; cases e) hrun (hx γ hp cargs hh hbs hLh hca) ?_
  rintro v w' ⟨γ', rfl, hle, hh', hnx', hR⟩
  refine hn v γ' _ hle hh' hnx' (fun d y h1 h2 => by rw [set_dst h1 h2]; exact hR) (fun l h => ?_) (fun l h => absurd hwr h) (fun h => by rw [hal] at h; cases h)
  show look (rep hp L (.box row')) l = look (rep s.hp L (.box row')) l
  rw [look_rep _ _ _ _ (by rw [hLh]; rfl), look_rep _ _ _ _ (by rw [hL]; rfl), h]
end

def exOk (κ : Cl) (dst : Option Nat) (s : S) (op : Op) : Prop := κ.ex dst = true → match op with
  | .load _ x => topL (s.ev x) = []
  | _ => False
theorem exOk_no {κ : Cl} {dst : Option Nat} {s : S} {op : Op} (h : κ.ex dst = false) : exOk κ dst s op := fun h' => by rw [h] at h'; cases h'
theorem exOk_ld {κ : Cl} {dst : Option Nat} {s : S} {t : TypeId} {x : Operand} (h : topL (s.ev x) = []) : exOk κ dst s (.load t x) := fun _ => h
def drB (P : Program) (κ : Cl) : List Oper → S → (S → Prop) → Prop
  | [], s, K => K s
  | o :: r, s, K => o.guard = none ∧ match o.op with
    | .call { callee := .value f, args, argTypes := _ } => match callee s f (args.toList.map s.ev) with
      | some (g, as) => dstOk s o.dst = true ∧ (((κ.ex o.dst = true → ∀ A ∈ as, topL A = []) ∧ CallX P g as s.hp fun x => drB P κ r (s.set o.dst x s.hp s.nx) K) ∨
        (κ.bx o.dst = true ∧ ∃ L row row' x A, look s.hp L = some (.box row) ∧ A ∈ as ∧ L ∈ topL A ∧ CallB P g as L row row' x ∧ drB P κ r (s.set o.dst x (rep s.hp L (.box row')) s.nx) K))
      | none => False
    | op => (ev1 P s op).ok ∧ dstOk s o.dst = true ∧ exOk κ o.dst s op ∧ (ev1 P s op).nx = s.nx ∧ drB P κ r ((ev1 P s op).to s o.dst) K
section
variable (P : Program) (κ : Cl) (dst : Option Nat) (op : Op) (r : List Oper) (s : S) (K : S → Prop)
def CallBE (g : FuncId) (as : List AV) : Prop :=
  dstOk s dst = true ∧ (((κ.ex dst = true → ∀ A ∈ as, topL A = []) ∧ CallX P g as s.hp fun x => drB P κ r (s.set dst x s.hp s.nx) K) ∨
    (κ.bx dst = true ∧ ∃ L row row' x A, look s.hp L = some (.box row) ∧ A ∈ as ∧ L ∈ topL A ∧ CallB P g as L row row' x ∧ drB P κ r (s.set dst x (rep s.hp L (.box row')) s.nx) K))
def drBF : Option (FuncId × List AV) → Prop
  | some (g, as) => CallBE P κ dst r s K g as
  | none => False
def drBC : Prop := match op with
  | .call { callee := .value f, args, argTypes := _ } => drBF P κ dst r s K (callee s f (args.toList.map s.ev))
  | op => (ev1 P s op).ok ∧ dstOk s dst = true ∧ exOk κ dst s op ∧ (ev1 P s op).nx = s.nx ∧ drB P κ r ((ev1 P s op).to s dst) K
end
section
variable {P : Program} {C : Cx} {κ : Cl} {ops : Array Oper}
theorem drB_nil {s : S} {K : S → Prop} : drB P κ [] s K = K s := rfl
theorem drB_core {dst : Option Nat} {op : Op} {r : List Oper} {s : S} {K : S → Prop} : (match op with
    | .call { callee := .value f, args, argTypes := _ } => match callee s f (args.toList.map s.ev) with
      | some (g, as) => dstOk s dst = true ∧ (((κ.ex dst = true → ∀ A ∈ as, topL A = []) ∧ CallX P g as s.hp fun x => drB P κ r (s.set dst x s.hp s.nx) K) ∨
        (κ.bx dst = true ∧ ∃ L row row' x A, look s.hp L = some (.box row) ∧ A ∈ as ∧ L ∈ topL A ∧ CallB P g as L row row' x ∧ drB P κ r (s.set dst x (rep s.hp L (.box row')) s.nx) K))
      | none => False
    | op => (ev1 P s op).ok ∧ dstOk s dst = true ∧ exOk κ dst s op ∧ (ev1 P s op).nx = s.nx ∧ drB P κ r ((ev1 P s op).to s dst) K) = drBC P κ dst op r s K := by
  unfold drBC
  split
  · rename_i f args ts
    cases hc : callee s f (args.toList.map s.ev) <;> rfl
  · rfl
theorem drB_cons {dst : Option Nat} {op : Op} {ty : TypeId} {pos : String} {aft : Array Edge} {r : List Oper} {s : S} {K : S → Prop} : drB P κ (⟨dst, op, ty, pos, aft, none⟩ :: r) s K = drBC P κ dst op r s K := by
  rw [← drB_core]
  simp only [drB, true_and]
theorem drBF_some {dst : Option Nat} {r : List Oper} {s : S} {K : S → Prop} {g : FuncId} {as : List AV} : drBF P κ dst r s K (some (g, as)) = CallBE P κ dst r s K g as := rfl
theorem drB_trace (hal : κ.al = false) {K : S → Prop} : ∀ (r : List Oper) (k : Nat) (s : S), ops.toList.drop k = r → k ≤ ops.size → drB P κ r s K →
    ∃ ss : Nat → S, ss k = s ∧ (∀ i o, k ≤ i → ops[i]? = some o → StepK P C κ ops i o (ss i) (ss (i + 1))) ∧ K (ss ops.size)
  | [], k, s, hk, hkn, h => by
    have hsz : k = ops.size := by
      have := congrArg List.length hk
      simp at this
      omega
    subst hsz
    refine ⟨fun _ => s, rfl, fun i o hi ho => ?_, h⟩
    have := (Array.getElem?_eq_some_iff.1 ho).1
    omega
  | o :: r, k, s, hk, hkn, h => by
    have hko : ops[k]? = some o := by
      rw [← Array.getElem?_toList]
      have : (ops.toList.drop k)[0]? = some o := by rw [hk]; rfl
      simpa using this
    have hlt : k < ops.size := (Array.getElem?_eq_some_iff.1 hko).1
    have hr : ops.toList.drop (k + 1) = r := by
      have : (ops.toList.drop k).drop 1 = r := by rw [hk]; rfl
      rw [List.drop_drop] at this
      exact this
    have join : ∀ s', StepK P C κ ops k o s s' → drB P κ r s' K → ∃ ss : Nat → S, ss k = s ∧ (∀ i o, k ≤ i → ops[i]? = some o → StepK P C κ ops i o (ss i) (ss (i + 1))) ∧ K (ss ops.size) := by
      intro s' hst hd
      obtain ⟨ss, h1, h2, h3⟩ := drB_trace hal r (k + 1) s' hr hlt hd
      refine ⟨fun i => if i ≤ k then s else ss i, by simp, fun i o' hi ho' => ?_, ?_⟩
      · by_cases e : i = k
        · subst e
          rw [hko] at ho'; cases ho'
          simp only [Nat.le_refl, if_true, if_neg (show ¬ i + 1 ≤ i by omega), h1]
          exact hst
        · simp only [if_neg (show ¬ i ≤ k by omega), if_neg (show ¬ i + 1 ≤ k by omega)]
          exact h2 i o' (by omega) ho'
      · dsimp only
        rw [if_neg (by omega)]
        exact h3
    obtain ⟨hg, h⟩ := h
    have hsays : Says ops s o true := by simp [Says, hg]
    split at h
    · rename_i f args ts hop
      split at h
      case h_2 => exact h.elim
      case h_1 g as hc =>
        obtain ⟨hd, ⟨hex, x, hx, hfl, hk⟩ | ⟨hbx, L, row, row', x, A, hL, hA, hLA, hx, hk⟩⟩ := h
        · exact join _ (StepK.call hko hd hsays hop hc hx hfl hex) hk
        · exact join _ (StepK.box hko hd hsays hop hc hL hA hLA hx hbx hal) hk
    · obtain ⟨hok, hd, hex, hnx, hk⟩ := h
      refine join _ (StepK.op hko hd hsays hok (fun he => ⟨hnx, ?_⟩) fun _ => hnx) hk
      have := hex he
      split at this
      · rename_i t x hop
        intro y hy
        rw [hop] at hy
        simp only [Op.operands] at hy
        simp at hy
        subst hy
        exact this
      · exact this.elim
theorem AW.drawB (κ : Cl) {id : Nat} {s : S} {Q : Exit → S → Prop} (hm : P.follows .mixedOrders = true) (hord : ordOk κ ops = true) (hal : κ.al = false) (h : drB P κ ops.toList s (Q .normal)) : AW P C (.region id ops true) Q s := by
  obtain ⟨ss, h1, h2, h3⟩ := drB_trace (C := C) hal ops.toList 0 s rfl (Nat.zero_le _) h
  exact AW.drawnK hm hord ⟨ss, h1, fun i o ho => h2 i o (Nat.zero_le _) ho, h3⟩
theorem CallBE.flat {dst : Option Nat} {r : List Oper} {s : S} {K : S → Prop} {g : FuncId} {as as' : List AV} {x : AV} (h : AFun P g as' x) (ha : as.map (frz s.hp) = as') (hf : Eng.flat x = true) (hex : ∀ A ∈ as, topL A = []) (hd : dstOk s dst = true) (hk : drB P κ r (s.set dst x s.hp s.nx) K) : CallBE P κ dst r s K g as := ⟨hd, .inl ⟨fun _ => hex, CallX.flat h ha hf hk⟩⟩
theorem CallBE.box {dst : Option Nat} {r : List Oper} {s : S} {K : S → Prop} {g : FuncId} {as : List AV} {L : Nat} {row row' : List AV} {x : AV} (A : AV) (hx : CallB P g as L row row' x) (hL : look s.hp L = some (.box row)) (hA : A ∈ as) (hLA : L ∈ topL A) (hbx : κ.bx dst = true) (hd : dstOk s dst = true) (hk : drB P κ r (s.set dst x (rep s.hp L (.box row')) s.nx) K) : CallBE P κ dst r s K g as :=
  ⟨hd, .inr ⟨hbx, L, row, row', x, A, hL, hA, hLA, hx, hk⟩⟩
/-- one call that turns a box; loads and calls that look at no box -/
def Cl.one (b : Nat) (es : List Nat) : Cl := ⟨fun d => match d with | some k => Nat.beq k b | none => false, fun d => match d with | some k => es.any (Nat.beq k) | none => false, false⟩
end
attribute [go_sem] drB_nil drB_cons drBF_some drBC
end Go.Eng

namespace Go.Eng
set_option linter.unusedSimpArgs false
set_option linter.unusedVariables false
open Go Go.RowKit
theorem row_u32 {l : List UInt32} {n : Nat} (h : n < l.length) : (List.drop n (l.map u32)).getD 0 .bad = u32 (l.getD n 0) := by
  rw [List.getD_eq_getElem?_getD, List.getElem?_drop, Nat.add_zero, List.getElem?_map, List.getElem?_eq_getElem h, List.getD_eq_getElem?_getD, List.getElem?_eq_getElem h]; rfl
theorem splice_u32 {l : List UInt32} {n : Nat} {x : UInt32} (h : n < l.length) : splice (l.map u32) n [u32 x] = (l.set n x).map u32 := by
  unfold splice
  rw [List.map_set, List.set_eq_take_append_cons_drop, if_pos (by simpa using h)]
  simp
@[go_sem] theorem renL_mapu32 (σ : Nat → Nat) (b : List UInt32) : renL σ (b.map u32) = b.map u32 := renL_fix (by simp [ren])
@[go_sem] theorem labL_mapu32 (n : Nat) (b : List UInt32) : labL n (b.map u32) = True := eq_true (labL_all (by simp [lab]))
@[go_sem] theorem plL_mapu32 {b : List UInt32} : plL (b.map u32) = True := by simp [plL, pl]
@[go_sem] theorem dkL_mapu32 {b : List UInt32} : dkL (b.map u32) = b.map u32 := dkL_fix (by simp [dk])
@[go_sem] theorem intsOk_u32 (a : List UInt32) : intsOk .u32 (a.map u32) = True := by
  simp only [intsOk, List.mem_map, eq_iff_iff, iff_true]
  rintro _ ⟨x, _, rfl⟩
  exact ⟨_, rfl⟩
@[go_sem] theorem aggEq_u32 (a b : List UInt32) : aggEq (a.map u32) (b.map u32) = decide (a = b) := by
  unfold aggEq
  rw [Bool.eq_iff_iff, decide_eq_true_iff, decide_eq_true_iff, List.map_map, List.map_map]
  constructor
  · intro h
    refine (List.map_inj_right (f := intA ∘ u32) fun x y hxy => ?_).1 h
    simp only [Function.comp, intA] at hxy
    exact UInt32.toNat_inj.1 (by omega)
  · rintro rfl; rfl
theorem frz_agg32 (hp : List (Nat × Ob)) (a : List UInt32) : frz hp (.agg (a.map u32)) = .agg (a.map u32) := by
  simp only [frz, List.map_map]
  congr 1
theorem zrow_u32 (n : Nat) (x : UInt32) : List.replicate n (u32 x) = (List.replicate n x).map u32 := by simp
/-- a slice whose end is nobody's -/
theorem Sub.untok {C : Cx} {s : S} (t : Nat) {z n : Nat} {cs : List AV} {k : Option Nat} (h : look s.fr t = some (.sl z cs n k)) : Sub C s ⟨(t, .sl z cs n none) :: s.fr, s.sz, s.hp, s.nx, s.df⟩ := by
  intro γ a hl hr
  refine ⟨γ, rfl, Gh.le.refl hl.nxl, ⟨⟨fun j x hx => ?_, hr.sz, hr.hr, hr.df, hr.bs⟩, hr.nx⟩⟩
  rw [look_cons] at hx
  split at hx
  · rename_i e
    subst e
    cases hx
    exact dk_R (hr.fr t _ h)
  · exact hr.fr j x hx
@[go_sem] theorem ev_global {s : S} {g : Nat} : s.ev (.global g) = .v (.pointer (some ⟨g, 0, none⟩)) := rfl
theorem Wk.agg {xs rs : List AV} (h : WkL xs rs) : Wk (.agg xs) (.agg rs) := by
  intro γ y hR
  simp only [R] at hR ⊢
  obtain ⟨vs, h1, h2, h3⟩ := hR
  exact ⟨vs, h1, h2, WkL_RL h h3⟩
theorem WkL.app : ∀ (xs : List AV) {ys zs : List AV}, WkL ys zs → WkL (xs ++ ys) (xs ++ zs)
  | [], _, _, h => h
  | x :: xs, _, _, h => ⟨Wk.refl x, WkL.app xs h⟩
def wlOf (s : S) : Op → List Nat
  | .store _ x _ => topL (s.ev x)
  | .call { callee := .builtin .append, args, argTypes := _ } => match args.toList with
    | x :: _ => topL (s.ev x)
    | [] => []
  | _ => []
def hlOf (s : S) (op : Op) : List Nat := bif hqOp op then op.operands.toList.flatMap fun x => topL (s.ev x) else []
def plainOp : Op → Bool
  | .convert a b _ => !(a == b)
  | .call { callee := .builtin .copy, args := _, argTypes := _ } => false
  | .call { callee := .value (.func _), args := _, argTypes := _ } => true
  | .call { callee := .value _, args := _, argTypes := _ } => false
  | _ => true
def hits (a b : List Nat) : Bool := a.any fun l => b.any fun m => Nat.beq l m
theorem hits_of {a b : List Nat} {l : Nat} (ha : l ∈ a) (hb : l ∈ b) : hits a b = true := List.any_eq_true.2 ⟨l, ha, List.any_eq_true.2 ⟨l, hb, by simp⟩⟩
def meetsL (s : S) (ops : Array Oper) (x y : Oper) : Bool := !x.apart ops y || hits (wlOf s x.op) (hlOf s y.op) || hits (hlOf s x.op) (wlOf s y.op)
def ordB (s : S) (ops : Array Oper) : Bool :=
  (List.range ops.size).all fun j => match ops[j]? with
    | some y => (y.after.toList.all fun e => !Region.binds .any e || Nat.blt e.on j) && (List.range j).all fun i => match ops[i]? with
      | some x => !meetsL s ops x y || bindsOn y i
      | none => true
    | none => true
/-- the labels' order holds in the last state -/
def OrdAt (s : S) (ops : Array Oper) : Prop := ordB s ops = true
theorem OrdAt.of {s : S} {ops : Array Oper} (h : ordB s ops = true) : OrdAt s ops := h
theorem ordB_back {s : S} {ops : Array Oper} (h : ordB s ops = true) {j : Nat} {y : Oper} (hy : ops[j]? = some y) : ∀ e ∈ y.after, Region.binds .any e = true → e.on < j := by
  unfold ordB at h
  rw [List.all_eq_true] at h
  have hj : j < ops.size := (Array.getElem?_eq_some_iff.1 hy).1
  have := h j (List.mem_range.2 hj)
  simp only [hy, Bool.and_eq_true] at this
  intro e he hb
  have h1 := List.all_eq_true.1 this.1 e (by simpa using he)
  simp only [hb, Bool.not_true, Bool.false_or, Nat.blt_eq] at h1
  exact h1
theorem ordB_edg {s : S} {ops : Array Oper} (h : ordB s ops = true) {i j : Nat} {x y : Oper} (hx : ops[i]? = some x) (hy : ops[j]? = some y) (hij : i < j) (hm : meetsL s ops x y = true) : Edg ops i j := by
  unfold ordB at h
  rw [List.all_eq_true] at h
  have hj : j < ops.size := (Array.getElem?_eq_some_iff.1 hy).1
  have := h j (List.mem_range.2 hj)
  simp only [hy, Bool.and_eq_true] at this
  have h1 := List.all_eq_true.1 this.2 i (List.mem_range.2 hij)
  simp only [hx, hm, Bool.not_true, Bool.false_or, bindsOn, List.any_eq_true, Bool.and_eq_true] at h1
  obtain ⟨e, he, hb, ho⟩ := h1
  exact ⟨y, hy, e, by simpa using he, hb, Nat.eq_of_beq_eq_true ho⟩
/-- what is looked at by labels is not written again; and nothing else turns memory -/
def stays : List Oper → Bool
  | [] => true
  | o :: r => plainOp o.op && (!hqOp o.op || o.op.operands.toList.all fun x => match x with
    | .tmp t => (o :: r).all fun y => match y.dst with
      | some d => !Nat.beq d t
      | none => true
    | _ => true) && stays r
theorem stays_of {o : Oper} {r : List Oper} (h : stays (o :: r) = true) (hn : hqOp o.op = true) {t : Nat} (ht : .tmp t ∈ o.op.operands) : ∀ y ∈ o :: r, y.dst ≠ some t := by
  simp only [stays, hn, Bool.not_true, Bool.false_or, Bool.and_eq_true] at h
  have h1 := List.all_eq_true.1 h.1.2 (.tmp t) (by simpa using ht)
  intro y hy hd
  have h2 := List.all_eq_true.1 h1 y hy
  rw [hd] at h2
  simp at h2
theorem topL_tmp {s : S} {x : Operand} {l : Nat} (h : l ∈ topL (s.ev x)) : ∃ t, x = .tmp t := by
  cases x with
  | tmp t => exact ⟨t, rfl⟩
  | _ => simp [S.ev, topL] at h
theorem look_rep_ne {α : Type} (l : List (Nat × α)) (k : Nat) (y : α) (t : Nat) (h : k ≠ t) : look (rep l k y) t = look l t := by
  induction l with
  | nil => rfl
  | cons e r ih =>
    obtain ⟨j, x⟩ := e
    simp only [rep]
    by_cases e : j = k
    · subst e
      simp only [Nat.beq_refl, cond_true, look_cons, if_neg h]
    · rw [beq_ne e]
      simp only [cond_false, look_cons, ih]
section
variable {P : Program} {C : Cx} {ops : Array Oper}
theorem wl_look {s : S} {op : Op} {l : Nat} (hp : plainOp op = true) (hl : l ∉ wlOf s op) : wrOp op = false ∨ ∀ hp, look (ev1 P (s.wi hp) op).hp l = look hp l ∨ (s.nx ≤ l ∧ l < (ev1 P (s.wi hp) op).nx) := by
  have he : ∀ hp x, (s.wi hp).ev x = s.ev x := fun hp x => by cases x <;> rfl
  unfold wrOp
  split
  · rename_i t x y
    right
    intro hp
    simp only [ev1, he]
    simp only [wlOf] at hl
    unfold storeO
    split
    · rename_i id off e
      rw [e] at hl
      simp only [topL, List.mem_singleton] at hl
      left
      exact look_rep_ne _ _ _ _ (Ne.symm hl)
    · exact .inl rfl
  · rename_i a b x
    left
    simpa [plainOp] using hp
  · rename_i args ts
    right
    intro hp
    simp only [ev1, he]
    simp only [wlOf] at hl
    split
    · rename_i x y t tx h1 h2
      rw [h1] at hl
      simp only at hl
      unfold appendO
      split
      · split
        · split
          · rename_i z cs n k e
            rw [e] at hl
            simp only [topL, List.mem_singleton] at hl
            simp only [look_cons, look_del, S.wi]
            by_cases h : s.nx = l
            · exact .inr (by omega)
            · rw [if_neg h, if_neg (Ne.symm hl)]; exact .inl rfl
          · simp only [look_cons, look_del, S.wi]
            by_cases h : s.nx + 1 = l
            · exact .inr (by omega)
            · by_cases h' : s.nx = l
              · exact .inr (by omega)
              · simp [h, h']
          · exact .inl rfl
        · exact .inl rfl
      · exact .inl rfl
    · exact .inl rfl
  · cases hp
  · exact .inl rfl
theorem wl_pin {s : S} {op : Op} {l : Nat} (hk : (ev1 P s op).ok) (hl : l ∈ wlOf s op) : look s.hp l ≠ none ∧ ∃ t, .tmp t ∈ op.operands ∧ l ∈ topL (s.ev (.tmp t)) := by
  unfold wlOf at hl
  split at hl
  · rename_i t x y
    obtain ⟨u, rfl⟩ := topL_tmp hl
    refine ⟨?_, u, by simp [Op.operands], hl⟩
    simp only [ev1] at hk
    unfold storeO at hk
    split at hk
    · rename_i id off e
      rw [e] at hl
      simp only [topL, List.mem_singleton] at hl
      subst hl
      have := rowOf_some (hp := s.hp) (id := l) (by have := hk; simp only at this; omega)
      rw [this]; simp
    · exact hk.elim
  · rename_i args ts
    split at hl
    · rename_i x r h1
      obtain ⟨u, rfl⟩ := topL_tmp hl
      refine ⟨?_, u, ?_, hl⟩
      · simp only [ev1] at hk
        split at hk
        · rename_i x' y t tx h1' h2
          rw [h1] at h1'
          cases h1'
          unfold appendO at hk
          split at hk
          · split at hk
            · split at hk
              · rename_i z cs n k e
                rw [e] at hl
                simp only [topL, List.mem_singleton] at hl
                subst hl
                rw [hk.2.2.2.2.1]; simp
              · rename_i e; rw [e] at hl; simp [topL] at hl
              · exact hk.elim
            · exact hk.elim
          · exact hk.elim
        · exact hk.elim
      · have : Operand.tmp u ∈ args.toList := by rw [h1]; simp
        simpa [Op.operands, Call.operands] using this
    · cases hl
  · cases hl
theorem wl_hl {s : S} {op : Op} {l : Nat} (hl : l ∈ wlOf s op) : l ∈ hlOf s op := by
  unfold wlOf at hl
  split at hl
  · rename_i t x y
    simp only [hlOf, hqOp, cond_true, List.mem_flatMap]
    exact ⟨x, by simp [Op.operands], hl⟩
  · rename_i args ts
    split at hl
    · rename_i x r h1
      simp only [hlOf, hqOp, cond_true, List.mem_flatMap]
      refine ⟨x, ?_, hl⟩
      have : x ∈ args.toList := by rw [h1]; simp
      simpa [Op.operands, Call.operands] using this
    · cases hl
  · cases hl
theorem wl_congr {s s' : S} {op : Op} (h : hqOp op = true → ∀ x ∈ op.operands, s'.ev x = s.ev x) : wlOf s' op = wlOf s op := by
  unfold wlOf
  split
  · rename_i t x y
    rw [h rfl x (by simp [Op.operands])]
  · rename_i args ts
    split
    · rename_i x r h1
      rw [h rfl x (by have : x ∈ args.toList := by rw [h1]; simp
                      simpa [Op.operands, Call.operands] using this)]
    · rfl
  · rfl
theorem flatMap_congr' {α β : Type} {f g : α → List β} : ∀ {l : List α}, (∀ x ∈ l, f x = g x) → l.flatMap f = l.flatMap g
  | [], _ => rfl
  | a :: l, h => by rw [List.flatMap_cons, List.flatMap_cons, h a (by simp), flatMap_congr' fun x hx => h x (by simp [hx])]
theorem hl_congr {s s' : S} {op : Op} (h : hqOp op = true → ∀ x ∈ op.operands, s'.ev x = s.ev x) : hlOf s' op = hlOf s op := by
  unfold hlOf
  cases hq : hqOp op with
  | false => rfl
  | true =>
    simp only [cond_true]
    exact flatMap_congr' fun x hx => by rw [h hq x (by simpa using hx)]
def Tch.non : Tch := ⟨fun _ => False, fun _ => False, fun _ => False⟩
theorem dr_own {K : S → Prop} : ∀ (r : List Oper) (k : Nat) (s : S), ops.toList.drop k = r → k ≤ ops.size → stays r = true → dr P ops.toList r s K →
    ∃ (ss : Nat → S) (T : Nat → Tch), ss k = s ∧ (∀ i o, k ≤ i → ops[i]? = some o → StepAt P C true (T i) ops i o (ss i) (ss (i + 1)) ∧ (∀ l, (T i).W l → l ∈ wlOf (ss ops.size) o.op) ∧ ∀ l, (T i).H l → l ∈ hlOf (ss ops.size) o.op) ∧
      (∀ i l, k ≤ i → (T i).W l → (T i).H l ∧ (T i).Pn l) ∧ K (ss ops.size) ∧ ∀ t, (∀ y ∈ r, y.dst ≠ some t) → look (ss ops.size).fr t = look s.fr t
  | [], k, s, hk, hkn, _, h => by
    have hsz : k = ops.size := by
      have := congrArg List.length hk
      simp at this
      omega
    subst hsz
    refine ⟨fun _ => s, fun _ => Tch.non, rfl, fun i o hi ho => ?_, fun _ _ _ h => h.elim, h, fun _ _ => rfl⟩
    have := (Array.getElem?_eq_some_iff.1 ho).1
    omega
  | o :: r, k, s, hk, hkn, hst0, h => by
    have hko : ops[k]? = some o := by
      rw [← Array.getElem?_toList]
      have : (ops.toList.drop k)[0]? = some o := by rw [hk]; rfl
      simpa using this
    have hlt : k < ops.size := (Array.getElem?_eq_some_iff.1 hko).1
    have hr : ops.toList.drop (k + 1) = r := by
      have : (ops.toList.drop k).drop 1 = r := by rw [hk]; rfl
      rw [List.drop_drop] at this
      exact this
    have hst1 : stays r = true := by simp only [stays, Bool.and_eq_true] at hst0; exact hst0.2
    have hpl : plainOp o.op = true := by simp only [stays, Bool.and_eq_true] at hst0; exact hst0.1.1
    have join : ∀ (s0 s' : S) (T0 : Tch), (∀ t, look s0.fr t = look s.fr t) → (∀ t, o.dst ≠ some t → look s'.fr t = look s.fr t) → StepAt P C true T0 ops k o s s' → (∀ l, T0.W l → l ∈ wlOf s0 o.op) → (∀ l, T0.H l → l ∈ hlOf s0 o.op) → (∀ l, T0.W l → T0.H l ∧ T0.Pn l) → dr P ops.toList r s' K →
        ∃ (ss : Nat → S) (T : Nat → Tch), ss k = s ∧ (∀ i o, k ≤ i → ops[i]? = some o → StepAt P C true (T i) ops i o (ss i) (ss (i + 1)) ∧ (∀ l, (T i).W l → l ∈ wlOf (ss ops.size) o.op) ∧ ∀ l, (T i).H l → l ∈ hlOf (ss ops.size) o.op) ∧
          (∀ i l, k ≤ i → (T i).W l → (T i).H l ∧ (T i).Pn l) ∧ K (ss ops.size) ∧ ∀ t, (∀ y ∈ o :: r, y.dst ≠ some t) → look (ss ops.size).fr t = look s.fr t := by
      intro s0 s' T0 hs0 hfr hst hw0 hh0 hsub hd
      obtain ⟨ss, T, h1, h2, h5, h3, h4⟩ := dr_own r (k + 1) s' hr hlt hst1 hd
      have hall : ∀ t, (∀ y ∈ o :: r, y.dst ≠ some t) → look (ss ops.size).fr t = look s.fr t := fun t ht => (h4 t fun y hy => ht y (by simp [hy])).trans (hfr t (ht o (by simp)))
      have hev : hqOp o.op = true → ∀ x ∈ o.op.operands, (ss ops.size).ev x = s0.ev x := by
        intro hq x hx
        cases x with
        | tmp t => simp only [S.ev]; rw [hall t (stays_of hst0 hq hx), hs0 t]
        | _ => rfl
      refine ⟨fun i => if i ≤ k then s else ss i, fun i => if i = k then T0 else T i, by simp, fun i o' hi ho' => ?_, fun i l hi => ?_, ?_, ?_⟩
      · have hsz : (if ops.size ≤ k then s else ss ops.size) = ss ops.size := if_neg (by omega)
        dsimp only
        rw [hsz]
        by_cases e : i = k
        · subst e
          rw [hko] at ho'; cases ho'
          simp only [Nat.le_refl, if_true, if_neg (show ¬ i + 1 ≤ i by omega), h1]
          exact ⟨hst, fun l hl => by rw [wl_congr hev]; exact hw0 l hl, fun l hl => by rw [hl_congr hev]; exact hh0 l hl⟩
        · simp only [if_neg (show ¬ i ≤ k by omega), if_neg (show ¬ i + 1 ≤ k by omega), if_neg e]
          exact h2 i o' (by omega) ho'
      · by_cases e : i = k
        · simp only [if_pos e]; exact hsub l
        · simp only [if_neg e]; exact h5 i l (by omega)
      · dsimp only
        rw [if_neg (by omega)]
        exact h3
      · dsimp only
        rw [if_neg (by omega)]
        exact hall
    have core : ∀ s0 : S, (∀ t, look s0.fr t = look s.fr t) → (∀ T s', StepAt P C true T ops k o s0 s' → StepAt P C true T ops k o s s') → Says ops s0 o true → (match o.op with
      | .call { callee := .value f, args, argTypes := _ } => match callee s0 f (args.toList.map s0.ev) with
        | some (g, as) => dstOk s0 o.dst = true ∧ CallX P g as s0.hp fun x => dr P ops.toList r (s0.set o.dst x s0.hp s0.nx) K
        | none => False
      | op => (ev1 P s0 op).ok ∧ dstOk s0 o.dst = true ∧ dr P ops.toList r ((ev1 P s0 op).to s0 o.dst) K) →
        ∃ (ss : Nat → S) (T : Nat → Tch), ss k = s ∧ (∀ i o, k ≤ i → ops[i]? = some o → StepAt P C true (T i) ops i o (ss i) (ss (i + 1)) ∧ (∀ l, (T i).W l → l ∈ wlOf (ss ops.size) o.op) ∧ ∀ l, (T i).H l → l ∈ hlOf (ss ops.size) o.op) ∧
          (∀ i l, k ≤ i → (T i).W l → (T i).H l ∧ (T i).Pn l) ∧ K (ss ops.size) ∧ ∀ t, (∀ y ∈ o :: r, y.dst ≠ some t) → look (ss ops.size).fr t = look s.fr t := by
      intro s0 hl0 hun hsays h
      split at h
      · rename_i f args ts hop
        split at h
        · rename_i g as hc
          obtain ⟨hd, x, hx, hfl, hk⟩ := h
          refine join s0 _ ⟨fun _ => False, fun l => l ∈ hlOf s0 o.op, fun _ => False⟩ hl0 (fun t ht => (set_fr t ht).trans (hl0 t)) (hun _ _ (StepAt.call hko hd hsays hop hc hx hfl (fun A hA l hl => ?_) fun _ h => h)) (fun _ h => h.elim) (fun _ h => h) (fun _ h => h.elim) hk
          rw [hop] at hpl
          show l ∈ hlOf s0 o.op
          rw [hop]
          cases f with
          | func g' =>
            have e : as = args.toList.map s0.ev := by
              simp only [callee, Option.some.injEq, Prod.mk.injEq] at hc
              exact hc.2.symm
            rw [e] at hA
            obtain ⟨x, hx, rfl⟩ := List.mem_map.1 hA
            simp only [hlOf, hqOp, cond_true, List.mem_flatMap]
            exact ⟨x, by simp [Op.operands, Call.operands] at hx ⊢; simp [hx], hl⟩
          | _ => cases hpl
        · exact h.elim
      · obtain ⟨hok, hd, hk⟩ := h
        exact join s0 _ ⟨fun l => l ∈ wlOf s0 o.op, fun l => l ∈ hlOf s0 o.op, fun l => l ∈ wlOf s0 o.op⟩ hl0 (fun t ht => (set_fr t ht).trans (hl0 t))
          (hun _ _ (StepAt.op hko hd hsays hok (fun hq x hx l hl => by
            show l ∈ hlOf s0 o.op
            simp only [hlOf, hq, cond_true, List.mem_flatMap]
            exact ⟨x, by simpa using hx, hl⟩) (fun l hl => wl_look hpl hl) (fun l hl => wl_pin hok hl) (fun h => by cases h))) (fun _ h => h) (fun _ h => h) (fun l hl => ⟨wl_hl hl, hl⟩) hk
    unfold dr at h
    simp only at h
    split at h
    · rename_i hg
      exact core s (fun _ => rfl) (fun _ _ h => h) (by simp [Says, hg]) h
    · rename_i j w hg
      split at h
      · rename_i d b hb
        obtain ⟨o', ho1, ho2, hlk⟩ := gbool_some hb
        have hlk' : look (s.fix d b).fr d = some (.v (.bool b)) := by rw [look_fix hlk]; exact hlk
        have hb' : gbool (s.fix d b) ops.toList j = some (d, b) := by simp only [gbool, ho1, ho2, hlk', gbA]
        by_cases hbw : b = w
        · subst hbw
          exact core (s.fix d b) (fun t => look_fix hlk t) (fun _ _ h => h.unfix hlk) (by simp only [Says, hg]; exact .inl ⟨d, b, hb', by simp⟩) (h.1 rfl)
        · have hbw' : b = !w := by cases b <;> cases w <;> simp_all
          subst hbw'
          obtain ⟨hd, hk⟩ := h.2 rfl
          exact join (s.fix d (!w)) ((s.fix d (!w)).set o.dst unit s.hp s.nx) Tch.non (fun t => look_fix hlk t) (fun t ht => (set_fr t ht).trans (look_fix hlk t))
            (StepAt.unfix hlk (StepAt.skip (s := s.fix d (!w)) hko hd (by simp only [Says, hg]; exact .inl ⟨d, _, hb', by cases w <;> rfl⟩) fun _ h => h)) (fun _ h => h.elim) (fun _ h => h.elim) (fun _ h => h.elim) hk
      · obtain ⟨hu, hd, hk⟩ := h
        exact join s (s.set o.dst unit s.hp s.nx) Tch.non (fun _ => rfl) (fun t ht => set_fr t ht) (StepAt.skip hko hd (by simp only [Says, hg]; exact .inr ⟨hu, trivial⟩) fun _ h => h) (fun _ h => h.elim) (fun _ h => h.elim) (fun _ h => h.elim) hk
theorem AW.drawN {id : Nat} {s : S} {Q : Exit → S → Prop} (hm : P.follows .mixedOrders = true) (hst : stays ops.toList = true) (h : dr P ops.toList ops.toList s fun s' => OrdAt s' ops ∧ Q .normal s') : AW P C (.region id ops true) Q s := by
  obtain ⟨ss, T, h1, h2, h5, h3, _⟩ := dr_own (C := C) ops.toList 0 s rfl (Nat.zero_le _) hst h
  obtain ⟨hord, hq⟩ := h3
  have get : ∀ i, (hi : i < ops.size) → ops[i]? = some ops[i] := fun i hi => Array.getElem?_eq_getElem hi
  refine AW.drawn (al := true) hm ⟨ss, T, h1, ⟨fun j y hy e he hb => ordB_back hord hy e he hb, fun i j x y hx hy hij ha => ordB_edg hord hx hy hij (by simp [meetsL, ha]), fun i j l hij hj hw hh => ?_, fun i j l hij hj hh hw => ?_, fun i l hw => (h5 i l (Nat.zero_le _) hw).1, fun i j l _ _ _ _ hw hn => absurd (h5 j l (Nat.zero_le _) hw).2 hn⟩, fun i o ho => (h2 i o (Nat.zero_le _) ho).1, hq⟩
  · refine ordB_edg hord (get i (by omega)) (get j hj) hij ?_
    simp [meetsL, hits_of ((h2 i _ (Nat.zero_le _) (get i (by omega))).2.1 l hw) ((h2 j _ (Nat.zero_le _) (get j hj)).2.2 l hh)]
  · refine ordB_edg hord (get i (by omega)) (get j hj) hij ?_
    simp [meetsL, hits_of ((h2 i _ (Nat.zero_le _) (get i (by omega))).2.2 l hh) ((h2 j _ (Nat.zero_le _) (get j hj)).2.1 l hw)]
end
end Go.Eng

namespace Go.Eng
set_option linter.unusedSimpArgs false
set_option linter.unusedVariables false
open Go Go.RowKit

/-- what is known can be seen as less; labels from lo on may be forgotten -/
def SubK (lo : Nat) (x : AV) (hp : List (Nat × Ob)) (nx : Nat) (x2 : AV) (hp2 : List (Nat × Ob)) (nx2 : Nat) : Prop :=
  ∀ (γ : Gh) (v : Value), HRel γ hp → γ.nx = nx → lo ≤ nx → γ.base ≤ γ.w.heap.size → R γ false x v → ∃ γ', γ'.w = γ.w ∧ γ.le lo γ' ∧ HRel γ' hp2 ∧ γ'.nx = nx2 ∧ R γ' false x2 v
theorem SubK.of {lo : Nat} {x x2 : AV} {hp hp2 : List (Nat × Ob)} {nx nx2 : Nat} (h : ∀ γ1, Sub ⟨none, γ1, lo⟩ ⟨[(0, x)], 1, hp, nx, []⟩ ⟨[(0, x2)], 1, hp2, nx2, []⟩) : SubK lo x hp nx x2 hp2 nx2 := by
  intro γ v hr hn hlo bs hx
  have hrel : Rel γ ⟨[(0, x)], 1, hp, nx, []⟩ { tmps := #[v], defers := [] } := by
    refine ⟨⟨fun t y hy => ?_, rfl, hr, rfl, bs⟩, hn⟩
    rw [look_cons] at hy
    split at hy
    · rename_i e; subst e; cases hy; exact hx
    · simp [look] at hy
  obtain ⟨γ', h1, h2, h3⟩ := h γ γ _ (Gh.le.refl (by rw [hn]; exact hlo)) hrel
  exact ⟨γ', h1, h2, h3.hr, h3.nx, h3.fr 0 x2 rfl⟩
theorem SubK.refl {lo : Nat} {x : AV} {hp : List (Nat × Ob)} {nx : Nat} : SubK lo x hp nx x hp nx := fun γ v hr hn hlo bs hx => ⟨γ, rfl, Gh.le.refl (by omega), hr, hn, hx⟩
theorem CallK.sub {P : Program} {g : FuncId} {as : List AV} {hp : List (Nat × Ob)} {nx : Nat} {K : AV → List (Nat × Ob) → Nat → Prop} (h : CallK P g as hp nx fun x hp' nx' => ∃ x2 hp2 nx2, SubK nx x hp' nx' x2 hp2 nx2 ∧ K x2 hp2 nx2) : CallK P g as hp nx K := by
  intro γ cargs hr hn bs hargs
  refine (h γ cargs hr hn bs hargs).mono ?_
  rintro v w' ⟨γ', x, hp', nx', rfl, hle, hh, hnx, hx, x2, hp2, nx2, hs, hk⟩
  rw [hn] at hle
  obtain ⟨γ2, h1, h2, h3, h4, h5⟩ := hs γ' v hh hnx (by rw [← hnx]; exact hle.nxl) (by rw [hle.base]; exact Nat.le_trans bs hle.below.size) hx
  exact ⟨γ2, x2, hp2, nx2, h1, by rw [hn]; exact hle.trans h2, h3, h4, h5, hk⟩
section
variable {P : Program} {C : Cx} {all : List Oper} {dst : Option Nat} {r : List Oper} {s : S} {K : S → Prop} {g : FuncId} {as : List AV}
theorem CallE.join (x2 : AV) (hp2 : List (Nat × Ob)) (nx2 : Nat) (h : CallK P g as s.hp s.nx fun x hp nx => SubK s.nx x hp nx x2 hp2 nx2) (hd : dstOk s dst = true) (hk : ex P C all r (s.set dst x2 hp2 nx2) K) : CallE P C all dst r s K g as :=
  ⟨hd, CallK.sub (h.mono fun x hp nx hs => ⟨x2, hp2, nx2, hs, hk⟩)⟩
end
def Qj (P : Program) (C : Cx) (fin : Exit → S → Prop) (k : List It) (s2 : S) (e : Exit) (s : S) : Prop := match e with
  | .normal => Sub C s s2
  | e => Qof P C fin k e s
section
variable {P : Program} {C : Cx} {fin : Exit → S → Prop} {k : List It} {s : S}
@[go_sem] theorem Qj_normal {s2 : S} : Qj P C fin k s2 .normal s = Sub C s s2 := rfl
@[go_sem] theorem Qj_ret {s2 : S} : Qj P C fin k s2 .ret s = Qof P C fin k .ret s := rfl
@[go_sem] theorem Qj_exit {s2 : S} {id : Nat} : Qj P C fin k s2 (.exit id) s = Qof P C fin k (.exit id) s := rfl
/-- a piece of code behind which one state is enough -/
theorem AW.join {x y : Code} (s2 : S) (h : AW P C x (Qof P C (Qj P C fin k s2) []) s) (h2 : AW P C y (Qof P C fin k) s2) : AW P C (.seq x y) (Qof P C fin k) s := by
  refine AW.seq (h.mono fun e s' hq => ?_)
  cases e with
  | normal => exact AW.sub hq h2
  | _ => exact hq
end

mutual
theorem ren_id : ∀ x : AV, ren (fun l => l) x = x
  | .bad => rfl
  | .v _ => rfl
  | .sl z cs n k => by simp only [ren, renL_id cs]; cases k <;> rfl
  | .ptr cs => by simp only [ren, renL_id cs]
  | .loc id off => rfl
  | .bsl z id off n => rfl
  | .csl z id off n c => rfl
  | .agg cs => by simp only [ren, renL_id cs]
  | .tup cs => by simp only [ren, renL_id cs]
  | .fn f fs cs => by simp only [ren, renL_id fs, renL_id cs]
  | .ifc t x => by simp only [ren, ren_id x]
theorem renL_id : ∀ xs : List AV, renL (fun l => l) xs = xs
  | [] => rfl
  | x :: xs => by simp only [renL, ren_id x, renL_id xs]
end
def WkF (x x2 : AV) : Prop := ∀ (γ : Gh) (v : Value), R γ false x v → R γ false x2 v
theorem WkF.refl (x : AV) : WkF x x := fun _ _ h => h
def WkFL (xs xs2 : List AV) : Prop := ∀ (γ : Gh) (vs : List Value), RL γ false xs vs → RL γ false xs2 vs
theorem WkFL.refl (xs : List AV) : WkFL xs xs := fun _ _ h => h
theorem WkFL.cons {x x2 : AV} {xs xs2 : List AV} (h : WkF x x2) (hs : WkFL xs xs2) : WkFL (x :: xs) (x2 :: xs2) := fun γ vs hr => by
  simp only [RL] at hr ⊢
  obtain ⟨u, us, e, h1, h2⟩ := hr
  exact ⟨u, us, e, h γ u h1, hs γ us h2⟩
theorem WkF.nil {z n : Nat} {cs : List AV} (hn : n = 0) (hc : cs = []) : WkF nilS (.sl z cs n none) := fun γ v h => by
  subst hn; subst hc
  simp only [R] at h ⊢
  exact ⟨none, 0, h, Nat.le_refl _, by simp, by simp, by simp, .inl trivial, fun k e => by cases e⟩
theorem WkF.dk (x : AV) : WkF x (Eng.dk x) := fun γ v h => dk_R h
theorem WkF.untok {z n : Nat} {cs : List AV} {k : Option Nat} : WkF (.sl z cs n k) (.sl z cs n none) := fun γ v h => dk_R (x := .sl z cs n k) h
theorem WkF.tup {xs xs2 : List AV} (h : WkFL xs xs2) : WkF (.tup xs) (.tup xs2) := fun γ v hr => by
  simp only [R] at hr ⊢
  obtain ⟨vs, h1, h2⟩ := hr
  exact ⟨vs, h1, h γ vs h2⟩
def WkO (o o2 : Ob) : Prop := match o, o2 with
  | .box r, .box r2 => WkFL r r2
  | o, o2 => o = o2
theorem WkO.refl (o : Ob) : WkO o o := by cases o <;> first | exact WkFL.refl _ | rfl
theorem WkO.tok {o : Ob} (h : WkO o .tok) : o = .tok := by cases o <;> first | exact h | cases h
theorem WkO.raw {o : Ob} {x : Obj} (h : WkO o (.raw x)) : o = .raw x := by cases o <;> first | exact h | cases h
theorem WkO.box {o : Ob} {r2 : List AV} (h : WkO o (.box r2)) : ∃ r, o = .box r ∧ WkFL r r2 := by
  cases o with
  | box r => exact ⟨r, rfl, h⟩
  | tok => cases h
  | raw x => cases h
theorem ghost_wk {lo : Nat} {hp hp2 : List (Nat × Ob)} {γ : Gh} (hh : HRel γ hp)
    (hob : ∀ l ob2, look hp2 l = some ob2 → l < lo ∧ labO lo ob2 ∧ ∃ ob, look hp l = some ob ∧ WkO ob ob2) :
    ∃ γ', γ'.w = γ.w ∧ γ.le lo γ' ∧ HRel γ' hp2 ∧ γ'.nx = lo ∧ ∀ y u, lab lo y → R γ false y u → R γ' false y u := by
  obtain ⟨al, hal⟩ : ∃ al : Nat → Bool, ∀ l, al l = true ↔ look hp2 l = some .tok :=
    ⟨fun l => match look hp2 l with | some .tok => true | _ => false, fun l => by
      dsimp only
      split
      · rename_i h; simp [h]
      · rename_i h; constructor
        · intro h'; cases h'
        · intro h'; exact absurd h' h⟩
  have hlt : ∀ l ob, look hp2 l = some ob → l < lo := fun l ob h => (hob l ob h).1
  have htok : ∀ l, look hp2 l = some .tok → look hp l = some .tok := fun l h => by
    obtain ⟨ob, h1, h2⟩ := (hob l _ h).2.2; rw [h1, h2.tok]
  have ha : ∀ l, l < lo → al l = true → γ.al l = true := fun l _ h => (hh.tok _).2 (htok l ((hal l).1 h))
  obtain ⟨γ', hγ⟩ : ∃ γ', γ' = renG γ (fun l => l) lo al := ⟨_, rfl⟩
  have hR : ∀ y u, lab lo y → R γ false y u → R γ' false y u := fun y u h1 h2 => by subst hγ; exact R_ren ha false y u h1 (by rw [ren_id]; exact h2)
  have hRL : ∀ y u, labL lo y → RL γ false y u → RL γ' false y u := fun y u h1 h2 => by subst hγ; exact RL_ren ha false y u h1 (by rw [renL_id]; exact h2)
  have hle : γ.le lo γ' := by
    subst hγ
    refine ⟨rfl, Below.refl _ _, fun _ => Nat.le_refl _, fun _ _ => rfl, fun _ _ _ => rfl, Nat.le_refl _, fun l b h hm => ?_, fun k h ht => ?_, fun k h ht hal' => ?_, fun _ _ _ _ _ _ => ⟨rfl, fun c _ h => ⟨c, h, rfl⟩⟩⟩
    · simp only [renG, if_pos h]; exact hm
    · simp only [renG, if_pos h]; exact ht
    · exact ha k h hal'
  refine ⟨γ', by subst hγ; rfl, hle, ?_, by subst hγ; rfl, hR⟩
  refine ⟨?_, ?_, ?_, ?_, ?_, by subst hγ; exact hh.imz, ?_, ?_, hh.gok.le hle⟩
  · intro l row h
    obtain ⟨h1, h2, ob, h3, h4⟩ := hob l _ h
    obtain ⟨row0, rfl, h5⟩ := h4.box
    obtain ⟨b, cur, e, g1, g2, g3, g4, g5, g6⟩ := hh.box l _ h3
    refine ⟨b, cur, e, by subst hγ; simp only [renG, if_pos h1]; exact g1, by subst hγ; exact g2, by subst hγ; exact g3, by subst hγ; exact g4, g5, hRL _ _ h2 (h5 γ _ g6)⟩
  · intro k; subst hγ; exact hal k
  · intro l l' b h1 h2 h3 h4
    obtain ⟨o1, e1⟩ := Option.isSome_iff_exists.mp h1
    obtain ⟨o2, e2⟩ := Option.isSome_iff_exists.mp h2
    subst hγ
    simp only [renG, if_pos (hlt l _ e1)] at h3
    simp only [renG, if_pos (hlt l' _ e2)] at h4
    obtain ⟨p1, q1, _⟩ := (hob l _ e1).2.2
    obtain ⟨p2, q2, _⟩ := (hob l' _ e2).2.2
    exact hh.inj _ _ b (by rw [q1]; rfl) (by rw [q2]; rfl) h3 h4
  · intro l h
    subst hγ
    have hn' : ¬ l < lo := Nat.not_lt.2 h
    refine ⟨by simp only [renG, if_neg hn'], ?_, by simp only [renG, if_neg hn']⟩
    cases h' : look hp2 l with
    | none => rfl
    | some ob => exact absurd (hlt l _ h') hn'
  · intro k h
    subst hγ
    have h' := (hal k).1 h
    simp only [renG, if_pos (hlt k _ h')]
    exact hh.tkal _ ((hh.tok _).2 (htok k h'))
  · intro l b h
    subst hγ
    simp only [renG] at h
    split at h
    · exact hh.live _ b h
    · cases h
  · intro l o h
    obtain ⟨h1, h2, ob, h3, h4⟩ := hob l _ h
    rw [h4.raw] at h3
    obtain ⟨b, g1, g2, g3, g4⟩ := hh.raw l o h3
    exact ⟨b, by subst hγ; simp only [renG, if_pos h1]; exact g1, by subst hγ; exact g2, by subst hγ; exact g3, by subst hγ; exact g4⟩

theorem SubK.mk {lo : Nat} {x x2 : AV} {hp hp2 : List (Nat × Ob)} {nx : Nat} (hw : WkF x x2) (hl : lab lo x2)
    (hob : ∀ l ob2, look hp2 l = some ob2 → l < lo ∧ labO lo ob2 ∧ ∃ ob, look hp l = some ob ∧ WkO ob ob2) : SubK lo x hp nx x2 hp2 lo := by
  intro γ v hh hn hlo bs hx
  obtain ⟨γ', h1, h2, h3, h4, h5⟩ := ghost_wk hh hob
  exact ⟨γ', h1, h2, h3, h4, h5 _ _ hl (hw γ v hx)⟩
theorem Sub.wk {C : Cx} {s s' : S} (hlo : C.lo ≤ s'.nx) (hsz : s'.sz = s.sz) (hdf : s.df = s'.df) (hdl : ∀ l ∈ s'.df, l < s'.nx)
    (hfr : ∀ p ∈ s'.fr, lab s'.nx p.2 ∧ ∃ x, look s.fr p.1 = some x ∧ WkF x p.2)
    (hob : ∀ p ∈ s'.hp, p.1 < s'.nx ∧ labO s'.nx p.2 ∧ ∃ ob, look s.hp p.1 = some ob ∧ WkO ob p.2) : Sub C s s' := by
  intro γ a hl hr
  obtain ⟨γ', h1, h2, h3, h4, h5⟩ := ghost_wk (lo := s'.nx) (hp2 := s'.hp) hr.hr fun l ob2 h => hob (l, ob2) (look_mem h)
  refine ⟨γ', h1, h2.mono hlo, ⟨⟨fun t x hx => ?_, ?_, h3, ?_, ?_⟩, h4⟩⟩
  · obtain ⟨g1, y, g2, g3⟩ := hfr (t, x) (look_mem hx)
    exact h5 _ _ g1 (g3 γ _ (hr.fr t y g2))
  · rw [hr.sz, hsz]
  · have key : ∀ (ks : List Nat) (ds : List Deferred), (∀ l ∈ ks, l < s'.nx) → DF γ ks ds → DF γ' ks ds := by
      intro ks
      induction ks with
      | nil => intro ds _ h; exact h
      | cons k ks ih =>
        intro ds hk h
        simp only [DF] at h ⊢
        obtain ⟨D, r, e1, e2, e3, e4⟩ := h
        exact ⟨D, r, e1, by rw [h4]; exact hk k (by simp), h2.mu k D (hk k (by simp)) e3, ih r (fun l hl => hk l (List.mem_cons_of_mem _ hl)) e4⟩
    have := hr.df
    rw [hdf] at this
    exact key _ _ hdl this
  · rw [h2.base, h1]; exact hr.bs
theorem WkF_self {x : AV} : WkF x x = True := eq_true (WkF.refl x)
theorem WkFL.nil : WkFL [] [] := WkFL.refl _
theorem WkFL.app : ∀ (xs : List AV) {ys zs : List AV}, WkFL ys zs → WkFL (xs ++ ys) (xs ++ zs)
  | [], _, _, h => h
  | x :: xs, _, _, h => WkFL.cons (WkF.refl x) (WkFL.app xs h)
theorem WkF.of_eq {x y : AV} (h : x = y) : WkF x y := h ▸ WkF.refl x
theorem SubK.trans {lo : Nat} {x x1 x2 : AV} {hp hp1 hp2 : List (Nat × Ob)} {nx nx1 nx2 : Nat} (h : SubK lo x hp nx x1 hp1 nx1) (k : SubK lo x1 hp1 nx1 x2 hp2 nx2) : SubK lo x hp nx x2 hp2 nx2 := by
  intro γ v hr hn hlo bs hx
  obtain ⟨γ1, h1, h2, h3, h4, h5⟩ := h γ v hr hn hlo bs hx
  obtain ⟨γ2, k1, k2, k3, k4, k5⟩ := k γ1 v h3 h4 (by rw [← h4]; exact h2.nxl) (by rw [h2.base]; exact Nat.le_trans bs h2.below.size) h5
  exact ⟨γ2, k1.trans h1, h2.trans k2, k3, k4, k5⟩
/-- what is handed out is written no more -/
theorem SubK.frz {lo : Nat} {x : AV} {hp : List (Nat × Ob)} {nx : Nat} (hbx : ∀ l ∈ borR x, isBox (look hp l) = true) : SubK lo x hp nx (frzR hp x) (dels hp (borR x)) nx := by
  intro γ v hr hn hlo bs hx
  obtain ⟨im, him, hok⟩ := Im_exists hr (borR x)
  obtain ⟨γ', hw, hle, hh, hnx, him', _⟩ := call_ghost (B := borR x) (w' := γ.w) (im' := im) hr bs him (Below.refl _ _) hok.1 (fun _ _ => rfl)
    (fun l hl b hm => by
      have h2 := hbx l hl
      cases hlk : look hp l with
      | none => rw [hlk] at h2; cases h2
      | some o =>
        cases o with
        | tok => rw [hlk] at h2; cases h2
        | raw o => rw [hlk] at h2; cases h2
        | box row => obtain ⟨cur, e, h3, _⟩ := box_block hr hlk hm; exact h3) (fun l hl h => by have h2 := hbx l hl; rw [h] at h2; cases h2)
  have hR := R_frzR (γ' := Gh.start γ.w γ.w.heap.size im) hr rfl him hx fun l hl => hl
  exact ⟨γ', hw, hle.mono (by rw [hn]; exact hlo), hh, by rw [hnx, hn], R_np _ _ (R_im (γ := Gh.start γ.w γ.w.heap.size im) (by rw [hw]; rfl) (fun b => by rw [him']; exact Nat.le_refl _) _ _ hR)⟩

/-- A call of g, that was lent the boxes bx, hands out x, and leaves them as bx'. -/
def CallM (P : Program) (g : FuncId) (as : List AV) (bx bx' : List (Nat × Ob)) (x : AV) : Prop :=
  ∀ (γ : Gh) (hp : List (Nat × Ob)) (cargs : List Value), HRel γ hp → γ.base ≤ γ.w.heap.size → (∀ l ob, look bx l = some ob → look hp l = some ob) → RL γ false as cargs →
    CallV P g cargs γ.w fun v w' => ∃ γ', γ'.w = w' ∧ γ.le γ.nx γ' ∧ HRel γ' (bx' ++ hp) ∧ γ'.nx = γ.nx ∧ R γ' false x v
theorem hrel_lab {γ : Gh} {hp : List (Nat × Ob)} (hr : HRel γ hp) {l : Nat} {ob : Ob} (h : look hp l = some ob) : l < γ.nx ∧ labO γ.nx ob := by
  refine ⟨look_lt hr (by rw [h]; rfl), ?_⟩
  cases ob with
  | box row =>
    obtain ⟨b, cur, e, g1, g2, g3, g4, g5, g6⟩ := hr.box l row h
    exact RL_lab _ _ g6
  | tok => trivial
  | raw o => trivial
theorem look_over {bx hp : List (Nat × Ob)} (h : ∀ l ob, look bx l = some ob → look hp l = some ob) (l : Nat) : look hp l = look (bx ++ hp) l := by
  rw [look_app]
  cases e : look bx l with
  | none => rfl
  | some ob => exact h l ob e
theorem CallM.enter {P : Program} {g : FuncId} {fn : Func} {c : Code} {as : List AV} {bx bx' : List (Nat × Ob)} {x : AV} (hf : P.funcs[g]? = some fn) (hb : fn.body = some c)
    (hcall : ∀ (args : Array Value) (w : World), (callFunc g args).run P w = .ok (.enter g args) w) (hn : as.length ≤ fn.ntmps)
    (h : ∀ (γ1 : Gh) (hp : List (Nat × Ob)) (nx : Nat), (∀ l ob, look bx l = some ob → look hp l = some ob) → (∀ l ob, look hp l = some ob → l < nx ∧ labO nx ob) →
      AW P ⟨none, γ1, nx⟩ c (Qof P ⟨none, γ1, nx⟩ (fin P fn fun x' hp' nx' => SubK nx x' hp' nx' x (bx' ++ hp) nx) []) ⟨frameOf 0 as, fn.ntmps, bx ++ hp, nx, []⟩) : CallM P g as bx bx' x := by
  intro γ hp cargs hr bs hbx hargs
  have hr1 : HRel γ (bx ++ hp) := hr.look (look_over hbx)
  have hc := CallK.enter (K := fun x' hp' nx' => SubK γ.nx x' hp' nx' x (bx' ++ hp) γ.nx) hf hb hcall hn (fun γ1 => h γ1 hp γ.nx hbx fun l ob hl => hrel_lab hr hl) γ cargs hr1 rfl bs hargs
  refine hc.mono ?_
  rintro v w' ⟨γ', x', hp', nx', rfl, hle, hh, hnx, hR, hs⟩
  obtain ⟨γ2, h1, h2, h3, h4, h5⟩ := hs γ' v hh hnx (by rw [← hnx]; exact hle.nxl) (by rw [hle.base]; exact Nat.le_trans bs hle.below.size) hR
  exact ⟨γ2, h1, hle.trans h2, h3, h4, h5⟩
def ovr (hp : List (Nat × Ob)) : List (Nat × Ob) → List (Nat × Ob)
  | [] => hp
  | (l, ob) :: r => rep (ovr hp r) l ob
theorem look_ovr {hp : List (Nat × Ob)} : ∀ (bx : List (Nat × Ob)), (∀ p ∈ bx, (look hp p.1).isSome = true) → ∀ l, look (ovr hp bx) l = look (bx ++ hp) l
  | [], _, l => rfl
  | (k, ob) :: r, h, l => by
    have ih := look_ovr r fun p hp => h p (by simp [hp])
    have hk : (look (ovr hp r) k).isSome = true := by
      rw [ih, look_app]
      cases look r k with
      | some _ => rfl
      | none => exact h (k, ob) (by simp)
    rw [ovr, look_rep _ _ _ _ hk, List.cons_append, look_cons, ih]
theorem CallK.m {P : Program} {g : FuncId} {as : List AV} {bx bx' : List (Nat × Ob)} {x : AV} {hp : List (Nat × Ob)} {nx : Nat} {K : AV → List (Nat × Ob) → Nat → Prop} (h : CallM P g as bx bx' x)
    (hb : ∀ l ob, look bx l = some ob → look hp l = some ob) (hs : ∀ p ∈ bx', (look hp p.1).isSome = true) (hk : K x (ovr hp bx') nx) : CallK P g as hp nx K := by
  intro γ cargs hr hn bs hargs
  refine (h γ hp cargs hr bs hb hargs).mono ?_
  rintro v w' ⟨γ', h1, h2, h3, h4, h5⟩
  exact ⟨γ', x, _, nx, h1, h2, h3.look fun l => (look_ovr bx' hs l).symm, by rw [h4, hn], h5, hk⟩
section
variable {P : Program} {C : Cx} {all : List Oper} {dst : Option Nat} {r : List Oper} {s : S} {K : S → Prop} {g : FuncId} {as : List AV} {bx bx' : List (Nat × Ob)} {x : AV}
theorem CallE.m (h : CallM P g as bx bx' x) (hb : ∀ l ob, look bx l = some ob → look s.hp l = some ob) (hs : ∀ p ∈ bx', (look s.hp p.1).isSome = true) (hd : dstOk s dst = true) (hk : ex P C all r (s.set dst x (ovr s.hp bx') s.nx) K) : CallE P C all dst r s K g as :=
  ⟨hd, CallK.m h hb hs hk⟩
end
attribute [go_sem] ovr
end Go.Eng

namespace Go.Eng
set_option linter.unusedSimpArgs false
set_option linter.unusedVariables false
open Go Go.RowKit

structure TT where
  W : List Nat
  H : List Nat
  Q : List Nat
def TT.t (p : TT) : Tch := ⟨(· ∈ p.W), (· ∈ p.H), (· ∈ p.Q)⟩
def wl2 (s : S) : Op → List Nat
  | .call { callee := .builtin .copy, args, argTypes := _ } => match args.toList with
    | x :: _ => topL (s.ev x)
    | [] => []
  | op => wlOf s op
def plain2 : Op → Bool
  | .convert a b _ => !(a == b)
  | .call { callee := .value _, args := _, argTypes := _ } => false
  | _ => true
mutual
def topD : AV → List Nat
  | .loc id _ => [id]
  | .bsl _ id _ _ => [id]
  | .csl _ id _ _ _ => [id]
  | .fn _ fs cs => topDL fs ++ topDL cs
  | .tup vs => topDL vs
  | _ => []
def topDL : List AV → List Nat
  | [] => []
  | x :: xs => topD x ++ topDL xs
end
def obD : Ob → List Nat
  | .box r => topDL r
  | _ => []
/-- the boxes are come to from what is known -/
def chain : List Nat → List (Nat × Ob) → Bool
  | _, [] => true
  | ks, (l, ob) :: r => ks.contains l && chain (ks ++ obD ob) r
def nodupL : List (Nat × Ob) → Bool
  | [] => true
  | (k, _) :: r => (r.all fun p => !Nat.beq p.1 k) && nodupL r
theorem nodup_look : ∀ {bx : List (Nat × Ob)}, nodupL bx = true → ∀ p ∈ bx, look bx p.1 = some p.2
  | [], _, p, h => by simp at h
  | (k, ob) :: r, hn, p, h => by
    simp only [nodupL, Bool.and_eq_true, List.all_eq_true] at hn
    rcases List.mem_cons.1 h with rfl | h
    · rw [look_cons, if_pos rfl]
    · have h1 := hn.1 p h
      rw [look_cons, if_neg (fun e => by subst e; simp at h1)]
      exact nodup_look hn.2 p h
def tOk (ts : List TT) : Bool := ts.all fun p => p.W.all fun l => p.H.contains l
def ordT (ops : Array Oper) (ts : List TT) : Bool :=
  tOk ts && (List.range ops.size).all fun j => match ops[j]?, ts[j]? with
    | some y, some q => (y.after.toList.all fun e => !Region.binds .any e || Nat.blt e.on j) && (List.range j).all fun i => match ops[i]?, ts[i]? with
      | some x, some p => !(!x.apart ops y || hits p.W q.H || hits p.H q.W) || bindsOn y i
      | _, _ => false
    | _, _ => false
def OrdT (ops : Array Oper) (ts : List TT) : Prop := ordT ops ts = true
theorem OrdT.of {ops : Array Oper} {ts : List TT} (h : ordT ops ts = true) : OrdT ops ts := h
theorem ordT_at {ops : Array Oper} {ts : List TT} (h : ordT ops ts = true) {j : Nat} {y : Oper} {q : TT} (hy : ops[j]? = some y) (hq : ts[j]? = some q) :
    (∀ e ∈ y.after, Region.binds .any e = true → e.on < j) ∧ ∀ i x p, i < j → ops[i]? = some x → ts[i]? = some p → (!x.apart ops y || hits p.W q.H || hits p.H q.W) = true → Edg ops i j := by
  unfold ordT at h
  rw [Bool.and_eq_true, List.all_eq_true] at h
  have hj : j < ops.size := (Array.getElem?_eq_some_iff.1 hy).1
  have := h.2 j (List.mem_range.2 hj)
  simp only [hy, hq, Bool.and_eq_true] at this
  refine ⟨fun e he hb => ?_, fun i x p hij hx hp hm => ?_⟩
  · have h1 := List.all_eq_true.1 this.1 e (by simpa using he)
    simp only [hb, Bool.not_true, Bool.false_or, Nat.blt_eq] at h1
    exact h1
  · have h1 := List.all_eq_true.1 this.2 i (List.mem_range.2 hij)
    simp only [hx, hp, hm, Bool.not_true, Bool.false_or, bindsOn, List.any_eq_true, Bool.and_eq_true] at h1
    obtain ⟨e, he, hb, ho⟩ := h1
    exact ⟨y, hy, e, by simpa using he, hb, Nat.eq_of_beq_eq_true ho⟩
def CallD (P : Program) (g : FuncId) (as : List AV) (hp : List (Nat × Ob)) (K : AV → TT → List (Nat × Ob) → Prop) : Prop :=
  (∃ x, AFun P g (as.map (frz hp)) x ∧ (flat x = true ∨ as.flatMap bor = []) ∧ K x ⟨[], as.flatMap topL, []⟩ hp) ∨
  ∃ x bx bx', CallM P g as bx bx' x ∧ (∀ l ob, look bx l = some ob → look hp l = some ob) ∧ (bx'.all fun p => (look bx p.1).isSome) = true ∧ chain (topDL as) bx = true ∧ nodupL bx = true ∧ K x ⟨bx'.map (·.1), bx.map (·.1), []⟩ (ovr hp bx')
def dm (P : Program) (all : List Oper) : List Oper → S → List TT → (S → List TT → Prop) → Prop
  | [], s, ts, K => K s ts
  | o :: r, s, ts, K =>
    let core (s : S) : Prop := match o.op with
      | .call { callee := .value f, args, argTypes := _ } => match callee s f (args.toList.map s.ev) with
        | some (g, as) => dstOk s o.dst = true ∧ CallD P g as s.hp fun x t hp' => dm P all r (s.set o.dst x hp' s.nx) (ts ++ [t]) K
        | none => False
      | op => plain2 op = true ∧ (ev1 P s op).ok ∧ dstOk s o.dst = true ∧ (ev1 P s op).nx = s.nx ∧ dm P all r ((ev1 P s op).to s o.dst) (ts ++ [⟨wl2 s op, hlOf s op, wl2 s op⟩]) K
    match o.guard with
    | none => core s
    | some (j, w) => match gbool s all j with
      | some (d, b) => GS b w (core (s.fix d w)) (dstOk s o.dst = true ∧ dm P all r ((s.fix d (!w)).set o.dst unit s.hp s.nx) (ts ++ [⟨[], [], []⟩]) K)
      | none => gund s all j = true ∧ dstOk s o.dst = true ∧ dm P all r (s.set o.dst unit s.hp s.nx) (ts ++ [⟨[], [], []⟩]) K
section
variable {P : Program} {C : Cx} {ops : Array Oper}
theorem wl2_look {s : S} {op : Op} {l : Nat} (hp : plain2 op = true) (hl : l ∉ wl2 s op) : wrOp op = false ∨ ∀ hp, look (ev1 P (s.wi hp) op).hp l = look hp l ∨ (s.nx ≤ l ∧ l < (ev1 P (s.wi hp) op).nx) := by
  have he : ∀ hp x, (s.wi hp).ev x = s.ev x := fun hp x => by cases x <;> rfl
  unfold wl2 at hl
  split at hl
  · rename_i args ts
    right
    intro hp
    simp only [ev1, he]
    split
    · rename_i x y t tx h1 h2
      rw [h1] at hl
      simp only at hl
      unfold copyO
      split
      · split
        · rename_i e
          rw [← topL_un, e] at hl
          simp only [topL, List.mem_singleton] at hl
          left
          exact look_rep_ne _ _ _ _ (Ne.symm hl)
        · exact .inl rfl
      · exact .inl rfl
    · exact .inl rfl
  · rename_i op hno
    refine wl_look ?_ hl
    unfold plainOp
    split
    · simpa [plain2] using hp
    · exact absurd rfl (hno _ _)
    · simp [plain2] at hp
    · simp [plain2] at hp
    · rfl
theorem wl2_pin {s : S} {op : Op} {l : Nat} (hk : (ev1 P s op).ok) (hl : l ∈ wl2 s op) : look s.hp l ≠ none ∧ ∃ t, .tmp t ∈ op.operands ∧ l ∈ topL (s.ev (.tmp t)) := by
  unfold wl2 at hl
  split at hl
  · rename_i args ts
    split at hl
    · rename_i x r h1
      obtain ⟨u, rfl⟩ := topL_tmp hl
      refine ⟨?_, u, ?_, hl⟩
      · simp only [ev1] at hk
        split at hk
        · rename_i x' y t tx h1' h2
          rw [h1] at h1'
          cases h1'
          unfold copyO at hk
          split at hk
          · split at hk
            · rename_i e
              rw [← topL_un, e] at hl
              simp only [topL, List.mem_singleton] at hl
              subst hl
              have := rowOf_some (hp := s.hp) (id := l) hk.2.2.2.1
              rw [this]; simp
            · exact hk.elim
          · exact hk.elim
        · exact hk.elim
      · have : Operand.tmp u ∈ args.toList := by rw [h1]; simp
        simpa [Op.operands, Call.operands] using this
    · cases hl
  · exact wl_pin hk hl
mutual
theorem topD_mu {γ : Gh} {p : Bool} : ∀ (x : AV) (y : Value), R γ p x y → ∀ l ∈ topD x, ∃ b, γ.mu l = some b
  | .bad, _, _, l, h => by simp [topD] at h
  | .v _, _, _, l, h => by simp [topD] at h
  | .sl _ _ _ _, _, _, l, h => by simp [topD] at h
  | .ptr _, _, _, l, h => by simp [topD] at h
  | .loc id off, y, r, l, h => by
    simp only [topD, List.mem_singleton] at h
    subst h
    simp only [R] at r
    obtain ⟨_, _, b, hb, _⟩ := r
    exact ⟨b, hb⟩
  | .bsl z id off n, y, r, l, h => by
    simp only [topD, List.mem_singleton] at h
    subst h
    simp only [R] at r
    obtain ⟨_, _, b, _, _, hb, _⟩ := r
    exact ⟨b, hb⟩
  | .csl z id off n c, y, r, l, h => by
    simp only [topD, List.mem_singleton] at h
    subst h
    simp only [R] at r
    obtain ⟨_, _, b, hb, _⟩ := r
    exact ⟨b, hb⟩
  | .agg _, _, _, l, h => by simp [topD] at h
  | .tup vs, y, r, l, h => by
    simp only [topD] at h
    simp only [R] at r
    obtain ⟨us, _, hr⟩ := r
    exact topDL_mu vs us hr l h
  | .fn f fs cs, y, r, l, h => by
    simp only [topD, List.mem_append] at h
    simp only [R] at r
    obtain ⟨us, vs, _, h1, h2⟩ := r
    rcases h with h | h
    · exact topDL_mu fs us h1 l h
    · exact topDL_mu cs vs h2 l h
  | .ifc _ _, _, _, l, h => by simp [topD] at h
theorem topDL_mu {γ : Gh} {p : Bool} : ∀ (xs : List AV) (ys : List Value), RL γ p xs ys → ∀ l ∈ topDL xs, ∃ b, γ.mu l = some b
  | [], _, _, l, h => by simp [topDL] at h
  | x :: xs, ys, r, l, h => by
    simp only [topDL, List.mem_append] at h
    simp only [RL] at r
    obtain ⟨u, us, _, h1, h2⟩ := r
    rcases h with h | h
    · exact topD_mu x u h1 l h
    · exact topDL_mu xs us h2 l h
end
theorem StepAt.callM {i : Nat} {o : Oper} {s : S} (ho : ops[i]? = some o) (hd : dstOk s o.dst = true) (hb : Says ops s o true) {f : Operand} {args : Array Operand} {ts : Array TypeId} (hop : o.op = .call { callee := .value f, args, argTypes := ts })
    {g : FuncId} {as : List AV} (hc : callee s f (args.toList.map s.ev) = some (g, as)) {x : AV} {bx bx' : List (Nat × Ob)} (hx : CallM P g as bx bx' x) (hbx : ∀ l ob, look bx l = some ob → look s.hp l = some ob)
    (hsub : (bx'.all fun p => (look bx p.1).isSome) = true) (hch : chain (topDL as) bx = true) (hnd0 : nodupL bx = true) :
    StepAt P C false (TT.t ⟨bx'.map (·.1), bx.map (·.1), []⟩) ops i o s (s.set o.dst x (ovr s.hp bx') s.nx) := by
  have hsub' : ∀ p ∈ bx', (look bx p.1).isSome = true := List.all_eq_true.1 hsub
  have over : ∀ hp : List (Nat × Ob), (∀ l ob, look bx l = some ob → look hp l = some ob) → ∀ l, look (ovr hp bx') l = look (bx' ++ hp) l := fun hp hh => look_ovr bx' fun p hp' => by
    obtain ⟨ob, h⟩ := Option.isSome_iff_exists.1 (hsub' p hp')
    rw [hh _ _ h]; rfl
  have notin : ∀ (hp : List (Nat × Ob)) l, ¬ l ∈ bx'.map (·.1) → look (bx' ++ hp) l = look hp l := fun hp l hl => by
    rw [look_app]
    cases e : look bx' l with
    | none => rfl
    | some ob => exact absurd (List.mem_map.2 ⟨(l, ob), look_mem e, rfl⟩) hl
  refine ⟨rfl, rfl, hd, fun t ht => set_fr t ht, Nat.le_refl _, fun _ => rfl, fun l h _ => ?_, fun l h => ?_, fun l h => by simp [TT.t] at h, ?_⟩
  · show look (ovr s.hp bx') l = _
    rw [over _ hbx, notin _ l h]
  · left
    have h' : look (ovr s.hp bx') l ≠ none := h
    rw [over _ hbx, look_app] at h'
    cases e : look bx' l with
    | none => rw [e] at h'; exact h'
    | some ob =>
      obtain ⟨ob2, h2⟩ := Option.isSome_iff_exists.1 (hsub' _ (look_mem e))
      rw [hbx _ _ h2]; simp
  intro γ hp a hh hbs hnx hsz hdf hfree hf hag next Q hn
  obtain ⟨s1, hs1⟩ : ∃ s1 : S, s1 = ⟨looksF s (o.looksAt ops), s.sz, hp, γ.nx, s.df⟩ := ⟨_, rfl⟩
  have hev : ∀ x ∈ o.op.operands, s1.ev x = s.ev x := by
    intro x hx
    subst hs1
    cases x with
    | tmp t =>
      have : t ∈ o.looksAt ops := List.mem_append_left _ (List.mem_filterMap.2 ⟨.tmp t, by simpa using hx, rfl⟩)
      simp only [S.ev, look_looksF, if_pos this]
    | _ => rfl
  have hrel : Rel γ s1 a := by
    subst hs1
    refine ⟨⟨fun t x h => ?_, hsz, hh, hdf, hbs⟩, rfl⟩
    dsimp only at h
    rw [look_looksF] at h
    split at h
    · rename_i ht; exact hf t ht x h
    · cases h
  have hopx : ∀ x, x = f ∨ x ∈ args.toList → x ∈ o.op.operands := by
    intro x hx; rw [hop]; simp only [Op.operands, Call.operands]
    rcases hx with rfl | hx
    · simp
    · simp at hx; simp [hx]
  have hmap : args.toList.map s1.ev = args.toList.map s.ev := List.map_congr_left fun x hx => hev x (hopx x (.inr hx))
  have hc1 : callee s1 f (args.toList.map s1.ev) = some (g, as) := by
    rw [hmap, ← hc]
    cases f with
    | func g' => rfl
    | tmp t => simp only [callee, hev (.tmp t) (hopx _ (.inl rfl))]
    | const v => simp only [callee, hev (.const v) (hopx _ (.inl rfl))]
    | global v => simp only [callee, hev (.global v) (hopx _ (.inl rfl))]
  obtain ⟨cargs, hca, hrun⟩ := run_call (P := P) (o := o) hop hc1 hrel
  have hbh : ∀ l ob, look bx l = some ob → look hp l = some ob := by
    have hnd : ∀ l ob, look bx l = some ob → (∃ b, γ.mu l = some b) → look hp l = some ob := fun l ob h1 ⟨b, h2⟩ =>
      hag l ob (List.mem_map.2 ⟨(l, ob), look_mem h1, rfl⟩) (hbx l ob h1) (fun hF => by rw [hF.2.1] at h2; cases h2)
    have mus : ∀ (bx1 : List (Nat × Ob)) (ks : List Nat), chain ks bx1 = true → (∀ l ∈ ks, ∃ b, γ.mu l = some b) → (∀ p ∈ bx1, look bx p.1 = some p.2) → ∀ p ∈ bx1, ∃ b, γ.mu p.1 = some b := by
      intro bx1
      induction bx1 with
      | nil => intro ks _ _ _ p hp'; simp at hp'
      | cons q r ih =>
        intro ks hc hk hq p hp'
        obtain ⟨k, ob⟩ := q
        simp only [chain, Bool.and_eq_true, List.contains_eq_mem, decide_eq_true_eq] at hc
        have hm := hk k hc.1
        rcases List.mem_cons.1 hp' with rfl | hp'
        · exact hm
        · refine ih (ks ++ obD ob) hc.2 (fun l hl => ?_) (fun p h => hq p (by simp [h])) p hp'
          rcases List.mem_append.1 hl with hl | hl
          · exact hk l hl
          · have hlk := hnd k ob (hq (k, ob) (by simp)) hm
            cases ob with
            | box row =>
              obtain ⟨b, cur, e, _, _, _, _, _, hR⟩ := hh.box k row hlk
              exact topDL_mu row _ hR l hl
            | tok => simp [obD] at hl
            | raw o => simp [obD] at hl
    intro l ob h
    exact hnd l ob h (mus bx (topDL as) hch (fun l hl => topDL_mu as cargs hca l hl) (nodup_look hnd0) (l, ob) (look_mem h))
  unfold wpOpIn
  simp only [ho, says_wanted hb hsz hf, if_true]
  refine upon_call (C := C) (fun c e => by rw [hop] at e; cases e) hrun (hx γ hp cargs hh hbs hbh hca) ?_
  rintro v w' ⟨γ', rfl, hle, hh', hnx', hR⟩
  refine hn v γ' (ovr hp bx') hle (hh'.look fun l => (over hp hbh l).symm) hnx' (fun d y h1 h2 => by rw [set_dst h1 h2]; exact hR) (fun l h => ?_) (fun l h _ => ?_) (fun h => by cases h)
  · show look (ovr hp bx') l = look (ovr s.hp bx') l
    rw [over hp hbh, over _ hbx, look_app, look_app, h]
  · rw [over hp hbh, notin hp l h]
theorem dm_trace {K : S → List TT → Prop} : ∀ (r : List Oper) (k : Nat) (s : S) (ts : List TT), ops.toList.drop k = r → k ≤ ops.size → ts.length = k → dm P ops.toList r s ts K →
    ∃ (ss : Nat → S) (full : List TT), ss k = s ∧ full.length = ops.size ∧ (∀ i, i < k → full[i]? = ts[i]?) ∧ (∀ i o, k ≤ i → ops[i]? = some o → ∃ t, full[i]? = some t ∧ StepAt P C false t.t ops i o (ss i) (ss (i + 1))) ∧ K (ss ops.size) full
  | [], k, s, ts, hk, hkn, hl, h => by
    have hsz : k = ops.size := by
      have := congrArg List.length hk
      simp at this
      omega
    subst hsz
    refine ⟨fun _ => s, ts, rfl, hl, fun _ _ => rfl, fun i o hi ho => ?_, h⟩
    have := (Array.getElem?_eq_some_iff.1 ho).1
    omega
  | o :: r, k, s, ts, hk, hkn, hl, h => by
    have hko : ops[k]? = some o := by
      rw [← Array.getElem?_toList]
      have : (ops.toList.drop k)[0]? = some o := by rw [hk]; rfl
      simpa using this
    have hlt : k < ops.size := (Array.getElem?_eq_some_iff.1 hko).1
    have hr : ops.toList.drop (k + 1) = r := by
      have : (ops.toList.drop k).drop 1 = r := by rw [hk]; rfl
      rw [List.drop_drop] at this
      exact this
    have join : ∀ (s' : S) (t : TT), StepAt P C false t.t ops k o s s' → dm P ops.toList r s' (ts ++ [t]) K →
        ∃ (ss : Nat → S) (full : List TT), ss k = s ∧ full.length = ops.size ∧ (∀ i, i < k → full[i]? = ts[i]?) ∧ (∀ i o, k ≤ i → ops[i]? = some o → ∃ t, full[i]? = some t ∧ StepAt P C false t.t ops i o (ss i) (ss (i + 1))) ∧ K (ss ops.size) full := by
      intro s' t hst hd
      obtain ⟨ss, full, h1, h2, h3, h4, h5⟩ := dm_trace r (k + 1) s' (ts ++ [t]) hr hlt (by simp [hl]) hd
      refine ⟨fun i => if i ≤ k then s else ss i, full, by simp, h2, fun i hi => ?_, fun i o' hi ho' => ?_, ?_⟩
      · rw [h3 i (by omega), List.getElem?_append_left (by omega)]
      · by_cases e : i = k
        · subst e
          rw [hko] at ho'; cases ho'
          refine ⟨t, by rw [h3 i (by omega), List.getElem?_append_right (by omega), hl]; simp, ?_⟩
          simp only [Nat.le_refl, if_true, if_neg (show ¬ i + 1 ≤ i by omega), h1]
          exact hst
        · simp only [if_neg (show ¬ i ≤ k by omega), if_neg (show ¬ i + 1 ≤ k by omega)]
          exact h4 i o' (by omega) ho'
      · dsimp only
        rw [if_neg (by omega)]
        exact h5
    have core : ∀ s0 : S, (∀ T s', StepAt P C false T ops k o s0 s' → StepAt P C false T ops k o s s') → Says ops s0 o true → (match o.op with
      | .call { callee := .value f, args, argTypes := _ } => match callee s0 f (args.toList.map s0.ev) with
        | some (g, as) => dstOk s0 o.dst = true ∧ CallD P g as s0.hp fun x t hp' => dm P ops.toList r (s0.set o.dst x hp' s0.nx) (ts ++ [t]) K
        | none => False
      | op => plain2 op = true ∧ (ev1 P s0 op).ok ∧ dstOk s0 o.dst = true ∧ (ev1 P s0 op).nx = s0.nx ∧ dm P ops.toList r ((ev1 P s0 op).to s0 o.dst) (ts ++ [⟨wl2 s0 op, hlOf s0 op, wl2 s0 op⟩]) K) →
        ∃ (ss : Nat → S) (full : List TT), ss k = s ∧ full.length = ops.size ∧ (∀ i, i < k → full[i]? = ts[i]?) ∧ (∀ i o, k ≤ i → ops[i]? = some o → ∃ t, full[i]? = some t ∧ StepAt P C false t.t ops i o (ss i) (ss (i + 1))) ∧ K (ss ops.size) full := by
      intro s0 hun hsays h
      split at h
      · rename_i f args ts' hop
        split at h
        · rename_i g as hc
          obtain ⟨hd, h⟩ := h
          rcases h with ⟨x, hx, hfl, hk⟩ | ⟨x, bx, bx', hx, hbx, hsub, hch, hnd, hk⟩
          · exact join _ ⟨[], as.flatMap topL, []⟩ (hun _ _ (StepAt.call (T := TT.t ⟨[], as.flatMap topL, []⟩) hko hd hsays hop hc hx hfl (fun A hA l hl => List.mem_flatMap.2 ⟨A, hA, hl⟩) fun l h => by simp [TT.t] at h)) hk
          · exact join _ _ (hun _ _ (StepAt.callM hko hd hsays hop hc hx hbx hsub hch hnd)) hk
        · exact h.elim
      · obtain ⟨hpl, hok, hd, hna, hk⟩ := h
        exact join _ ⟨wl2 s0 o.op, hlOf s0 o.op, wl2 s0 o.op⟩ (hun _ _ (StepAt.op (T := TT.t ⟨wl2 s0 o.op, hlOf s0 o.op, wl2 s0 o.op⟩) hko hd hsays hok (fun hq x hx l hl => by
            show l ∈ hlOf s0 o.op
            simp only [hlOf, hq, cond_true, List.mem_flatMap]
            exact ⟨x, by simpa using hx, hl⟩) (fun l hl => wl2_look hpl hl) (fun l hl => wl2_pin hok hl) (fun _ => hna))) hk
    unfold dm at h
    simp only at h
    split at h
    · rename_i hg
      exact core s (fun _ _ h => h) (by simp [Says, hg]) h
    · rename_i j w hg
      split at h
      · rename_i d b hb
        obtain ⟨o', ho1, ho2, hlk⟩ := gbool_some hb
        have hlk' : look (s.fix d b).fr d = some (.v (.bool b)) := by rw [look_fix hlk]; exact hlk
        have hb' : gbool (s.fix d b) ops.toList j = some (d, b) := by simp only [gbool, ho1, ho2, hlk', gbA]
        by_cases hbw : b = w
        · subst hbw
          exact core (s.fix d b) (fun _ _ h => h.unfix hlk) (by simp only [Says, hg]; exact .inl ⟨d, b, hb', by simp⟩) (h.1 rfl)
        · have hbw' : b = !w := by cases b <;> cases w <;> simp_all
          subst hbw'
          obtain ⟨hd, hk⟩ := h.2 rfl
          refine join _ ⟨[], [], []⟩ ?_ hk
          exact StepAt.unfix hlk (StepAt.skip hko hd (by simp only [Says, hg]; exact .inl ⟨d, _, hb', by cases w <;> rfl⟩) fun l h => by simp [TT.t] at h)
      · obtain ⟨hu, hd, hk⟩ := h
        exact join _ ⟨[], [], []⟩ (StepAt.skip hko hd (by simp only [Says, hg]; exact .inr ⟨hu, trivial⟩) fun l h => by simp [TT.t] at h) hk
theorem AW.drawM {id : Nat} {s : S} {Q : Exit → S → Prop} (hm : P.follows .mixedOrders = true) (h : dm P ops.toList ops.toList s [] fun s' ts => OrdT ops ts ∧ Q .normal s') : AW P C (.region id ops true) Q s := by
  obtain ⟨ss, full, h1, h2, _, h4, hord, hq⟩ := dm_trace (C := C) ops.toList 0 s [] rfl (Nat.zero_le _) rfl h
  have hT : ∀ i, (hi : i < ops.size) → ∃ t, full[i]? = some t ∧ StepAt P C false t.t ops i ops[i] (ss i) (ss (i + 1)) := fun i hi => h4 i _ (Nat.zero_le _) (Array.getElem?_eq_getElem hi)
  let T : Nat → Tch := fun i => match full[i]? with
    | some t => t.t
    | none => ⟨fun _ => False, fun _ => False, fun _ => False⟩
  have hTi : ∀ i t, full[i]? = some t → T i = t.t := fun i t h => by simp only [T, h]
  have none_of : ∀ i, ops.size ≤ i → T i = ⟨fun _ => False, fun _ => False, fun _ => False⟩ := fun i hi => by
    have : full[i]? = none := List.getElem?_eq_none (by omega)
    simp only [T, this]
  have get : ∀ i, (hi : i < ops.size) → ops[i]? = some ops[i] := fun i hi => Array.getElem?_eq_getElem hi
  have sub : ∀ i l, (T i).W l → (T i).H l := by
    intro i l hw
    rcases Nat.lt_or_ge i ops.size with hi | hi
    · obtain ⟨t, ht, _⟩ := hT i hi
      rw [hTi i t ht] at hw ⊢
      have hord' : ordT ops full = true := hord
      unfold ordT at hord'
      rw [Bool.and_eq_true] at hord'
      have h5 := List.all_eq_true.1 hord'.1 t (List.mem_of_getElem? ht)
      have h6 := List.all_eq_true.1 h5 l hw
      exact List.contains_iff_mem.1 h6
    · rw [none_of i hi] at hw; exact hw.elim
  refine AW.drawn (al := false) hm ⟨ss, T, h1, ⟨fun j y hy e he hb => ?_, fun i j x y hx hy hij ha => ?_, fun i j l hij hj hw hh => ?_, fun i j l hij hj hh hw => ?_, sub, fun i j l hi _ h5 h6 _ _ => ?_⟩, fun i o ho => ?_, hq⟩
  · obtain ⟨t, ht, _⟩ := hT j (Array.getElem?_eq_some_iff.1 hy).1
    exact (ordT_at hord hy ht).1 e he hb
  · have hj := (Array.getElem?_eq_some_iff.1 hy).1
    obtain ⟨q, hq', _⟩ := hT j hj
    obtain ⟨p, hp', _⟩ := hT i (by omega)
    exact (ordT_at hord hy hq').2 i x p hij hx hp' (by simp [ha])
  · obtain ⟨q, hq', _⟩ := hT j hj
    obtain ⟨p, hp', _⟩ := hT i (by omega)
    rw [hTi i p hp'] at hw
    rw [hTi j q hq'] at hh
    exact (ordT_at hord (get j hj) hq').2 i _ p hij (get i (by omega)) hp' (by simp [hits_of (a := p.W) (b := q.H) hw hh])
  · obtain ⟨q, hq', _⟩ := hT j hj
    obtain ⟨p, hp', _⟩ := hT i (by omega)
    rw [hTi i p hp'] at hh
    rw [hTi j q hq'] at hw
    exact (ordT_at hord (get j hj) hq').2 i _ p hij (get i (by omega)) hp' (by simp [hits_of (a := p.H) (b := q.W) hh hw])
  · obtain ⟨t, _, hst⟩ := hT i hi
    have := hst.na rfl
    omega
  · obtain ⟨t, ht, hst⟩ := h4 i o (Nat.zero_le _) ho
    rw [hTi i t ht]
    exact hst
end

section
variable (P : Program) (all : List Oper) (dst : Option Nat) (op : Op) (r : List Oper) (s : S) (ts : List TT) (K : S → List TT → Prop)
variable {ty : TypeId} {pos : String} {aft : Array Edge}
def CallDE (g : FuncId) (as : List AV) : Prop := dstOk s dst = true ∧ CallD P g as s.hp fun x t hp' => dm P all r (s.set dst x hp' s.nx) (ts ++ [t]) K
def dmF : Option (FuncId × List AV) → Prop
  | some (g, as) => CallDE P all dst r s ts K g as
  | none => False
def dmC : Prop := match op with
  | .call { callee := .value f, args, argTypes := _ } => dmF P all dst r s ts K (callee s f (args.toList.map s.ev))
  | op => plain2 op = true ∧ (ev1 P s op).ok ∧ dstOk s dst = true ∧ (ev1 P s op).nx = s.nx ∧ dm P all r ((ev1 P s op).to s dst) (ts ++ [⟨wl2 s op, hlOf s op, wl2 s op⟩]) K
def dmG (d : Nat) (b w : Bool) : Prop := GS b w (dmC P all dst op r (s.fix d w) ts K) (dstOk s dst = true ∧ dm P all r ((s.fix d (!w)).set dst unit s.hp s.nx) (ts ++ [⟨[], [], []⟩]) K)
def dmJ (w : Bool) : Option (Nat × Bool) → Bool → Prop
  | some (d, b), _ => dmG P all dst op r s ts K d b w
  | none, u => u = true ∧ dstOk s dst = true ∧ dm P all r (s.set dst unit s.hp s.nx) (ts ++ [⟨[], [], []⟩]) K
theorem dm_core : (match op with
      | .call { callee := .value f, args, argTypes := _ } => match callee s f (args.toList.map s.ev) with
        | some (g, as) => dstOk s dst = true ∧ CallD P g as s.hp fun x t hp' => dm P all r (s.set dst x hp' s.nx) (ts ++ [t]) K
        | none => False
      | op => plain2 op = true ∧ (ev1 P s op).ok ∧ dstOk s dst = true ∧ (ev1 P s op).nx = s.nx ∧ dm P all r ((ev1 P s op).to s dst) (ts ++ [⟨wl2 s op, hlOf s op, wl2 s op⟩]) K) = dmC P all dst op r s ts K := by
  unfold dmC
  split
  · rename_i f args ts'
    cases hc : callee s f (args.toList.map s.ev) <;> rfl
  · rfl
theorem dm_nil : dm P all [] s ts K = K s ts := rfl
theorem dm_plain : dm P all (⟨dst, op, ty, pos, aft, none⟩ :: r) s ts K = dmC P all dst op r s ts K := by
  rw [← dm_core]; rfl
theorem dm_guard (j : Nat) (w : Bool) : dm P all (⟨dst, op, ty, pos, aft, some (j, w)⟩ :: r) s ts K = dmJ P all dst op r s ts K w (gbool s all j) (gund s all j) := by
  show (match gbool s all j with
      | some (d, b) => GS b w _ _
      | none => _) = _
  cases hb : gbool s all j with
  | none => rfl
  | some x =>
    obtain ⟨d, b⟩ := x
    show GS b w _ _ = dmG P all dst op r s ts K d b w
    unfold dmG
    rw [← dm_core] <;> rfl
theorem dmF_some (g : FuncId) (as : List AV) : dmF P all dst r s ts K (some (g, as)) = CallDE P all dst r s ts K g as := rfl
theorem dmJ_none (w u : Bool) : dmJ P all dst op r s ts K w none u = (u = true ∧ dstOk s dst = true ∧ dm P all r (s.set dst unit s.hp s.nx) (ts ++ [⟨[], [], []⟩]) K) := rfl
theorem dmJ_some (w u : Bool) (d : Nat) (b : Bool) : dmJ P all dst op r s ts K w (some (d, b)) u = dmG P all dst op r s ts K d b w := rfl
theorem dmG_tt (d : Nat) : dmG P all dst op r s ts K d true true = dmC P all dst op r (s.fix d true) ts K := by unfold dmG; exact GS_tt _ _
theorem dmG_ff (d : Nat) : dmG P all dst op r s ts K d false false = dmC P all dst op r (s.fix d false) ts K := by unfold dmG; exact GS_ff _ _
theorem dmG_tf (d : Nat) : dmG P all dst op r s ts K d true false = (dstOk s dst = true ∧ dm P all r ((s.fix d true).set dst unit s.hp s.nx) (ts ++ [⟨[], [], []⟩]) K) := by unfold dmG; exact GS_tf _ _
theorem dmG_ft (d : Nat) : dmG P all dst op r s ts K d false true = (dstOk s dst = true ∧ dm P all r ((s.fix d false).set dst unit s.hp s.nx) (ts ++ [⟨[], [], []⟩]) K) := by unfold dmG; exact GS_ft _ _
end
section
variable {P : Program} {all : List Oper} {dst : Option Nat} {op : Op} {r : List Oper} {s : S} {ts : List TT} {K : S → List TT → Prop} {g : FuncId} {as as' : List AV} {x : AV} {d : Nat} {p : Prop} {inst : Decidable p} {bx bx' : List (Nat × Ob)}
theorem CallDE.flat (h : AFun P g as' x) (ha : as.map (frz s.hp) = as') (hf : Eng.flat x = true) (hd : dstOk s dst = true) (hk : dm P all r (s.set dst x s.hp s.nx) (ts ++ [⟨[], as.flatMap topL, []⟩]) K) : CallDE P all dst r s ts K g as := ⟨hd, .inl ⟨x, ha ▸ h, .inl hf, hk⟩⟩
theorem CallDE.mem (h : AFun P g as' x) (ha : as.map (frz s.hp) = as') (hb : as.flatMap bor = []) (hd : dstOk s dst = true) (hk : dm P all r (s.set dst x s.hp s.nx) (ts ++ [⟨[], as.flatMap topL, []⟩]) K) : CallDE P all dst r s ts K g as := ⟨hd, .inl ⟨x, ha ▸ h, .inr hb, hk⟩⟩
theorem CallDE.m (h : CallM P g as bx bx' x) (hb : ∀ l ob, look bx l = some ob → look s.hp l = some ob) (hs : (bx'.all fun p => (look bx p.1).isSome) = true) (hc : chain (topDL as) bx = true) (hn : nodupL bx = true) (hd : dstOk s dst = true)
    (hk : dm P all r (s.set dst x (ovr s.hp bx') s.nx) (ts ++ [⟨bx'.map (·.1), bx.map (·.1), []⟩]) K) : CallDE P all dst r s ts K g as := ⟨hd, .inr ⟨x, bx, bx', h, hb, hs, hc, hn, hk⟩⟩
end
attribute [go_sem] dm_nil dm_plain dm_guard dmC dmF_some dmJ_some dmJ_none dmG_tt dmG_ff dmG_tf dmG_ft
end Go.Eng

namespace Go.Eng
set_option linter.unusedSimpArgs false
set_option linter.unusedVariables false
open Go Go.RowKit

/-- all rows that are there stay as they are -/
def imW (w : World) (b : Nat) : Nat := match w.heap[b]? with
  | some (.cells c _ _) => c.size
  | _ => 0
def γW (w : World) : Gh := Gh.start w w.heap.size (imW w)
theorem okIm_imW (w : World) (hg : GOK (γW w)) : okIm w (imW w) := by
  refine ⟨fun b h => ?_, hg⟩
  simp only [imW, Array.getElem?_eq_none h]
theorem imW_cell {w : World} {b o : Nat} {u : Value} (h : w.cell? ⟨b, o, none⟩ = some u) : o < imW w b := by
  unfold World.cell? at h
  unfold imW
  split at h
  · rename_i c t f hb
    simp only [hb]
    exact (Array.getElem?_eq_some_iff.1 (by simpa using h)).1
  · cases h
/-- Memory that is read at type t reads as something of which Φ holds. -/
def Reads (P : Program) (t : TypeId) (Φ : List AV → Prop) : Prop :=
  ∀ (H : Type) (enc : TypeId × Value → H) (w : World) (spare : Nat → Bool) (held : Bool) (fuel : Nat) (cs : List Value) (x : DataW H × List MemPlace), DataW.trod enc P w 0 spare held fuel t cs = some x →
    (∃ as, Φ as ∧ RL (γW w) true as cs) ∧ ∀ u ∈ cs, u.oneCell' = true
section
variable {P : Program} {t e : TypeId} {Φ Ψ : List AV → Prop}
theorem Reads.mono (h : Reads P t Φ) (hi : ∀ as, Φ as → Ψ as) : Reads P t Ψ := fun H enc w spare held fuel cs x hx => by
  obtain ⟨⟨as, h1, h2⟩, h3⟩ := h H enc w spare held fuel cs x hx
  exact ⟨⟨as, hi as h1, h2⟩, h3⟩
theorem Reads.int {k : IntKind} (ht : P.underlying t = some (.int k)) : Reads P t fun as => ∃ n, (Lit.int k n).wf = true ∧ as = [.v (.int k n)] := by
  intro H enc w spare held fuel cs x hx
  obtain ⟨n, rfl, _, hw⟩ := DataW.trod_int ht hx
  exact ⟨⟨_, ⟨n, hw, rfl⟩, RL_one (by simp [R])⟩, by simp [Value.oneCell']⟩
theorem Reads.bool (ht : P.underlying t = some .bool) : Reads P t fun as => ∃ b, as = [boo b] := by
  intro H enc w spare held fuel cs x hx
  obtain ⟨b, rfl, _⟩ := DataW.trod_bool ht hx
  exact ⟨⟨_, ⟨b, rfl⟩, RL_one (by simp [R])⟩, by simp [Value.oneCell']⟩
theorem Reads.string (ht : P.underlying t = some .string) : Reads P t fun as => ∃ s : ByteArray, s.size ≤ maxLen ∧ as = [.v (.string s)] := by
  intro H enc w spare held fuel cs x hx
  obtain ⟨s, rfl, _, hs⟩ := DataW.trod_string ht hx
  exact ⟨⟨_, ⟨s, hs, rfl⟩, RL_one (by simp [R])⟩, by simp [Value.oneCell']⟩
theorem RC_append {γ : Gh} {b : Nat} {xs ys : List AV} {o : Nat} (h : RC γ b o xs) (h' : RC γ b (o + xs.length) ys) : RC γ b o (xs ++ ys) := by
  refine RC_of_get fun i x hx => ?_
  rw [List.getElem?_append] at hx
  split at hx
  · exact RC_get h i x hx
  · rename_i hi
    obtain ⟨u, h1, h2⟩ := RC_get h' _ x hx
    exact ⟨u, by rw [← h1]; congr 2; omega, h2⟩
theorem chunks {γ : Gh} {z : Nat} : ∀ (n : Nat) (cs : List Value), cs.length = n * z → (∀ i, i < n → ∃ as, Φ as ∧ RL γ true as ((cs.drop (i * z)).take z)) →
    ∃ css : List (List AV), css.length = n ∧ (∀ c ∈ css, Φ c) ∧ RL γ true css.flatten cs
  | 0, cs, hl, _ => ⟨[], rfl, by simp, by have h0 : cs = [] := List.eq_nil_of_length_eq_zero (by simpa using hl); subst h0; simp [RL]⟩
  | n + 1, cs, hl, h => by
    have hz : z ≤ cs.length := by rw [hl, Nat.add_mul]; omega
    obtain ⟨a, ha, hr⟩ := h 0 (by omega)
    rw [Nat.zero_mul, List.drop_zero] at hr
    obtain ⟨css, h1, h2, h3⟩ := chunks (γ := γ) (z := z) n (cs.drop z) (by rw [List.length_drop, hl, Nat.add_mul]; omega) fun i hi => by
      obtain ⟨as, g1, g2⟩ := h (i + 1) (by omega)
      refine ⟨as, g1, ?_⟩
      rw [List.drop_drop]
      rwa [Nat.add_mul, Nat.one_mul, Nat.add_comm] at g2
    refine ⟨a :: css, by simp [h1], by simpa [ha] using h2, ?_⟩
    rw [List.flatten_cons, ← List.take_append_drop z cs]
    exact RL_append hr h3
theorem Reads.array {n : Nat} (ht : P.underlying t = some (.array n e)) (he : Reads P e Φ) (hz : P.cellsOf t = n * P.cellsOf e) : Reads P t fun as => ∃ css : List (List AV), css.length = n ∧ (∀ c ∈ css, Φ c) ∧ as = css.flatten := by
  intro H enc w spare held fuel cs x hx
  obtain ⟨xs, m, _, _, hl, hxl, hi⟩ := DataW.trod_array ht hx
  rw [hz] at hl
  have hi' : ∀ i, i < n → ∃ y, DataW.trod enc P w 0 spare held m e ((cs.drop (i * P.cellsOf e)).take (P.cellsOf e)) = some y := by
    intro i h
    rw [hi i h]
    exact ⟨_, List.getElem?_eq_getElem (by omega)⟩
  constructor
  · obtain ⟨css, h1, h2, h3⟩ := chunks (γ := γW w) n cs hl fun i h => by
      obtain ⟨y, hy⟩ := hi' i h
      exact (he H enc w spare held m _ y hy).1
    exact ⟨_, ⟨css, h1, h2, rfl⟩, h3⟩
  · intro u hu
    obtain ⟨j, hj⟩ := List.getElem?_of_mem hu
    have hjl := (List.getElem?_eq_some_iff.1 hj).1
    have hz0 : 0 < P.cellsOf e := Nat.pos_of_ne_zero (by intro h0; rw [h0, Nat.mul_zero] at hl; omega)
    have hq : j / P.cellsOf e < n := Nat.div_lt_of_lt_mul (by rw [Nat.mul_comm, ← hl]; exact hjl)
    obtain ⟨y, hy⟩ := hi' _ hq
    refine (he H enc w spare held m _ y hy).2 u ?_
    refine List.mem_of_getElem? (i := j % P.cellsOf e) ?_
    rw [List.getElem?_take, if_pos (Nat.mod_lt _ hz0), List.getElem?_drop, ← hj]
    congr 1
    have := Nat.div_add_mod j (P.cellsOf e)
    rw [Nat.mul_comm] at this
    exact this
theorem Reads.slice (ht : P.underlying t = some (.slice e)) (he : Reads P e Φ) (hz : 0 < P.cellsOf e) : Reads P t fun as => ∃ css : List (List AV), css.length ≤ maxLen ∧ (∀ c ∈ css, Φ c) ∧ as = [.sl (P.cellsOf e) css.flatten css.length none] := by
  intro H enc w spare held fuel cs x hx
  rcases DataW.trod_slice ht hx with ⟨rfl, _⟩ | ⟨a, len, cap, elems, rest, n, _, rfl, _, _, hl, hm, hlen, hel, _, _⟩
  · refine ⟨⟨_, ⟨[], by simp, by simp, rfl⟩, RL_one ?_⟩, by simp [Value.oneCell']⟩
    simp only [R, List.flatten_nil, List.length_nil]
    exact ⟨none, 0, rfl, Nat.le_refl _, by simp, by simp, by simp, .inl trivial, fun k e => by cases e⟩
  · refine ⟨?_, by simp [Value.oneCell']⟩
    obtain ⟨b, o, spot⟩ := a
    have each : ∀ i, i < len → ∃ vs y, w.cells? 0 (Addr.add ⟨b, o, spot⟩ (i * P.cellsOf e)) (P.cellsOf e) = some vs ∧ DataW.trod enc P w 0 spare held n e vs = some y := by
      intro i hi
      have h1 := hel i hi
      rw [List.getElem?_eq_getElem (by omega), Option.bind_eq_some_iff] at h1
      obtain ⟨vs, h2, h3⟩ := h1
      exact ⟨vs, _, h2, h3⟩
    have key : ∀ m, m ≤ len → ∃ css : List (List AV), css.length = m ∧ (∀ c ∈ css, Φ c) ∧ css.flatten.length = m * P.cellsOf e ∧ (m = 0 ∨ spot = none) ∧ RC (γW w) b o css.flatten := by
      intro m
      induction m with
      | zero => intro _; exact ⟨[], rfl, by simp, by simp, .inl rfl, by simp [RC]⟩
      | succ m ih =>
        intro hm
        obtain ⟨css, h1, h2, h3, h4, h5⟩ := ih (by omega)
        obtain ⟨vs, y, g1, g2⟩ := each m (by omega)
        obtain ⟨_, g3, g4⟩ := World.cells?_some g1
        obtain ⟨⟨as, p1, p2⟩, p3⟩ := he H enc w spare held n vs y g2
        have hal := RL_length p2
        have hc0 : ∃ u, w.cell? (Addr.add ⟨b, o, spot⟩ (m * P.cellsOf e)) = some u := by
          have := g4 0 hz
          rw [show ∀ a : Addr, a.add 0 = a from fun a => rfl] at this
          rw [this]
          exact ⟨_, List.getElem?_eq_getElem (by omega)⟩
        have hspot : spot = none := by
          rcases h4 with rfl | h4
          · obtain ⟨u, hu⟩ := hc0
            rw [Nat.zero_mul] at hu
            exact World.cell?_spot hu
          · exact h4
        subst hspot
        refine ⟨css ++ [as], by simp [h1], ?_, ?_, .inr rfl, ?_⟩
        · intro c hc
          rcases List.mem_append.1 hc with hc | hc
          · exact h2 c hc
          · rw [List.mem_singleton.1 hc]; exact p1
        · rw [List.flatten_append, List.length_append, h3, List.flatten_cons, List.flatten_nil, List.append_nil, hal, g3, Nat.add_mul, Nat.one_mul]
        · rw [List.flatten_append, List.flatten_cons, List.flatten_nil, List.append_nil]
          refine RC_append h5 ?_
          rw [h3]
          refine RC_intro p2 p3 fun j u hj => ?_
          have hjl := (List.getElem?_eq_some_iff.1 hj).1
          have := g4 j (by omega)
          rw [Addr.add_lit, Addr.add_lit] at this
          show w.cell? _ = _
          rw [this, hj]
    obtain ⟨css, h1, h2, h3, h4, h5⟩ := key len (Nat.le_refl _)
    refine ⟨_, ⟨css, by rw [h1]; omega, h2, rfl⟩, RL_one ?_⟩
    simp only [R]
    refine ⟨some ⟨b, o, spot⟩, cap, by rw [h1], by rw [h1]; exact hl, hm, by rw [h1]; exact h3, by simp, ?_, fun k e => by cases e⟩
    rcases h4 with rfl | rfl
    · exact .inl (by rw [h1])
    · by_cases hl0 : len = 0
      · exact .inl (by rw [h1, hl0])
      refine .inr ⟨b, o, rfl, ?_, h5⟩
      have hpos : 0 < len * P.cellsOf e := Nat.mul_pos (Nat.pos_of_ne_zero hl0) hz
      obtain ⟨u, hu, _⟩ := RC_get h5 (len * P.cellsOf e - 1) (css.flatten[len * P.cellsOf e - 1]'(by omega)) (List.getElem?_eq_getElem (by omega))
      have := imW_cell (w := w) hu
      rw [h1]
      show _ ≤ imW w b
      omega
theorem map_of {α β : Type} {f : α → β} : ∀ {l : List β}, (∀ c ∈ l, ∃ x, c = f x) → ∃ xs : List α, l = xs.map f
  | [], _ => ⟨[], rfl⟩
  | c :: l, h => by
    obtain ⟨x, rfl⟩ := h c (by simp)
    obtain ⟨xs, rfl⟩ := map_of (f := f) (l := l) fun c hc => h c (List.mem_cons_of_mem _ hc)
    exact ⟨x :: xs, rfl⟩
theorem flat_one {α : Type} {f : α → AV} : ∀ (xs : List α), (xs.map fun x => [f x]).flatten = xs.map f
  | [] => rfl
  | x :: xs => by simp [flat_one xs]
theorem Reads.u8 (ht : P.underlying t = some (.int .u8)) : Reads P t fun as => ∃ x : UInt8, as = [Eng.u8 x] := (Reads.int ht).mono fun as ⟨n, hw, e⟩ => by
  simp only [Lit.wf, IntKind.min, IntKind.max, Bool.and_eq_true, decide_eq_true_eq] at hw
  have h0 : 0 ≤ n := by have := hw.1; simpa [IntKind.signed] using this
  have h1 : n ≤ 255 := by have := hw.2; simpa [IntKind.signed, IntKind.bits] using this
  refine ⟨UInt8.ofNat n.toNat, ?_⟩
  rw [e]
  have : ((UInt8.ofNat n.toNat).toNat : Int) = n := by rw [UInt8.toNat_ofNat']; omega
  simp only [Eng.u8, this]
theorem Reads.u64 (ht : P.underlying t = some (.int .u64)) : Reads P t fun as => ∃ x : UInt64, as = [Eng.u64 x] := (Reads.int ht).mono fun as ⟨n, hw, e⟩ => by
  simp only [Lit.wf, IntKind.min, IntKind.max, Bool.and_eq_true, decide_eq_true_eq] at hw
  have h0 : 0 ≤ n := by have := hw.1; simpa [IntKind.signed] using this
  have h1 : n ≤ 18446744073709551615 := by have := hw.2; simpa [IntKind.signed, IntKind.bits] using this
  refine ⟨UInt64.ofNat n.toNat, ?_⟩
  rw [e]
  have : ((UInt64.ofNat n.toNat).toNat : Int) = n := by rw [UInt64.toNat_ofNat']; omega
  simp only [Eng.u64, this]
theorem Reads.i64 (ht : P.underlying t = some (.int .i64)) : Reads P t fun as => ∃ n : Int, inI n ∧ as = [Eng.int n] := (Reads.int ht).mono fun as ⟨n, hw, e⟩ => by
  simp only [Lit.wf, IntKind.min, IntKind.max, Bool.and_eq_true, decide_eq_true_eq] at hw
  refine ⟨n, ?_, e⟩
  have h0 := hw.1
  have h1 := hw.2
  simp [IntKind.signed, IntKind.bits] at h0 h1
  unfold inI
  omega
theorem Reads.bytes (ht : P.underlying t = some (.slice e)) (he : P.underlying e = some (.int .u8)) (hz : P.cellsOf e = 1) : Reads P t fun as => ∃ b : List UInt8, as = [.sl 1 (bys b) b.length none] :=
  (Reads.slice ht (Reads.u8 he) (by omega)).mono fun as ⟨css, hm, hc, e⟩ => by
    obtain ⟨b, rfl⟩ := map_of (f := fun x => [Eng.u8 x]) hc
    exact ⟨b, by rw [e, hz, flat_one, List.length_map]; rfl⟩
section
variable {H : Type} {enc : TypeId × Value → H} {W : World} {spare : Nat → Bool} {held : Bool} {v : Value} {d : DataW H} {p : List MemPlace} {r : Reach} {base : Nat}
theorem Reads.one (h : Reads P t Φ) (hc : v.cells = #[v]) (hd : DataW.Trod enc P W 0 spare held t v d p) (hf : ∀ as, Φ as → ∃ x, as = [x] ∧ Ψ [x]) : ∃ x, Ψ [x] ∧ R (γW W) true x v := by
  obtain ⟨fuel, hd⟩ := hd
  rw [hc] at hd
  obtain ⟨⟨as, h1, h2⟩, _⟩ := h H enc W spare held fuel _ _ hd
  obtain ⟨x, rfl, hx⟩ := hf as h1
  simp only [RL] at h2
  obtain ⟨u, us, e, h3, _⟩ := h2
  cases e
  exact ⟨x, hx, h3⟩
open Go.WideShapes in
theorem arg_u8 (ht : P.underlying t = some (.int .u8)) (hv : Value.okWide P W r base t v) (hd : DataW.Trod enc P W 0 spare held t v d p) : ∃ b : UInt8, R (γW W) true (Eng.u8 b) v := by
  obtain ⟨n, rfl⟩ := okWide_int ht hv
  obtain ⟨x, ⟨b, hx⟩, hR⟩ := Reads.one (Ψ := fun as => ∃ b : UInt8, as = [Eng.u8 b]) (Reads.u8 ht) rfl hd fun as ⟨b, h⟩ => ⟨_, h, b, rfl⟩
  cases hx
  exact ⟨b, hR⟩
end
/-- A contract that answers true, at what came in. -/
theorem AFun.calls {f : FuncId} {as : List AV} {vs : List Value} {W : World} (hg : GOK (γW W)) (h : AFun P f as (boo true)) (hr : RL (γW W) true as vs) (hcall : ∀ (args : Array Value) (w : World), (callFunc f args).run P w = .ok (.enter f args) w) :
    Calls P f vs.toArray W fun e W' => e = .returned (.bool true) ∧ Below W.heap.size W W' := by
  rcases h W (imW W) vs (okIm_imW W hg) hr with ⟨_, h2⟩ | ⟨v, w', h1, _⟩
  · refine h2.mono ?_
    rintro e W' ⟨v, rfl, im', hb, _, _, hR⟩
    simp only [R] at hR
    exact ⟨by rw [hR], hb⟩
  · rw [hcall] at h1; cases h1
end
end Go.Eng

namespace Go.Eng
set_option linter.unusedSimpArgs false
set_option linter.unusedVariables false
open Go Go.RowKit

section
variable {P : Program} {t e : TypeId} {Φ Ψ : List AV → Prop}
theorem Reads.u16 (ht : P.underlying t = some (.int .u16)) : Reads P t fun as => ∃ x : UInt16, as = [Eng.u16 x] := (Reads.int ht).mono fun as ⟨n, hw, e⟩ => by
  simp only [Lit.wf, IntKind.min, IntKind.max, Bool.and_eq_true, decide_eq_true_eq] at hw
  have h0 : 0 ≤ n := by have := hw.1; simpa [IntKind.signed] using this
  have h1 : n ≤ 65535 := by have := hw.2; simpa [IntKind.signed, IntKind.bits] using this
  refine ⟨UInt16.ofNat n.toNat, ?_⟩
  rw [e]
  have : ((UInt16.ofNat n.toNat).toNat : Int) = n := by rw [UInt16.toNat_ofNat']; omega
  simp only [Eng.u16, this]
theorem Reads.u32 (ht : P.underlying t = some (.int .u32)) : Reads P t fun as => ∃ x : UInt32, as = [Eng.u32 x] := (Reads.int ht).mono fun as ⟨n, hw, e⟩ => by
  simp only [Lit.wf, IntKind.min, IntKind.max, Bool.and_eq_true, decide_eq_true_eq] at hw
  have h0 : 0 ≤ n := by have := hw.1; simpa [IntKind.signed] using this
  have h1 : n ≤ 4294967295 := by have := hw.2; simpa [IntKind.signed, IntKind.bits] using this
  refine ⟨UInt32.ofNat n.toNat, ?_⟩
  rw [e]
  have : ((UInt32.ofNat n.toNat).toNat : Int) = n := by rw [UInt32.toNat_ofNat']; omega
  simp only [Eng.u32, this]
theorem Reads.arrayOf {α : Type} {f : α → AV} {n : Nat} (ht : P.underlying t = some (.array n e)) (he : Reads P e fun as => ∃ x, as = [f x]) (hz : P.cellsOf e = 1) (hn : P.cellsOf t = n) : Reads P t fun as => ∃ a : List α, a.length = n ∧ as = a.map f :=
  (Reads.array ht he (by rw [hz, Nat.mul_one, hn])).mono fun as ⟨css, hl, hc, e⟩ => by
    obtain ⟨b, rfl⟩ := map_of (f := fun x => [f x]) hc
    exact ⟨b, by simpa using hl, by rw [e, flat_one]⟩
/-- a struct's fields, from a place on -/
def ReadsF (P : Program) (fl : List Field) (o n : Nat) (Φ : List AV → Prop) : Prop :=
  ∀ (H : Type) (enc : TypeId × Value → H) (w : World) (spare : Nat → Bool) (held : Bool) (m : Nat) (cs : List Value), o + cs.length = n →
    (∀ f ∈ fl, ∃ y, DataW.trod enc P w 0 spare held m f.type ((cs.drop (f.offset - o)).take (P.cellsOf f.type)) = some y) → (∃ as, Φ as ∧ RL (γW w) true as cs) ∧ ∀ u ∈ cs, u.oneCell' = true
theorem ReadsF.nil {o n : Nat} (ho : o = n) : ReadsF P [] o n fun as => as = [] := by
  subst ho
  intro H enc w spare held m cs hl _
  have : cs = [] := List.eq_nil_of_length_eq_zero (by omega)
  subst this
  exact ⟨⟨[], rfl, RL_nil⟩, by simp⟩
theorem ReadsF.cons {f : Field} {r : List Field} {o n : Nat} (ho : f.offset = o) (hf : Reads P f.type Φ) (hr : ReadsF P r (o + P.cellsOf f.type) n Ψ) (hle : ∀ g ∈ r, o + P.cellsOf f.type ≤ g.offset) (hn : o + P.cellsOf f.type ≤ n) : ReadsF P (f :: r) o n fun as => ∃ a b, Φ a ∧ Ψ b ∧ as = a ++ b := by
  intro H enc w spare held m cs hl h
  obtain ⟨y, hy⟩ := h f (by simp)
  rw [ho, Nat.sub_self, List.drop_zero] at hy
  obtain ⟨⟨a, ha, hra⟩, h1⟩ := hf H enc w spare held m _ y hy
  obtain ⟨⟨b, hb, hrb⟩, h2⟩ := hr H enc w spare held m (cs.drop (P.cellsOf f.type)) (by rw [List.length_drop]; omega) fun g hg => by
    obtain ⟨y, hy⟩ := h g (by simp [hg])
    refine ⟨y, ?_⟩
    rw [List.drop_drop]
    have := hle g hg
    rwa [show P.cellsOf f.type + (g.offset - (o + P.cellsOf f.type)) = g.offset - o by omega]
  refine ⟨⟨_, ⟨a, b, ha, hb, rfl⟩, ?_⟩, ?_⟩
  · rw [← List.take_append_drop (P.cellsOf f.type) cs]
    exact RL_append hra hrb
  · intro u hu
    rw [← List.take_append_drop (P.cellsOf f.type) cs] at hu
    rcases List.mem_append.1 hu with hu | hu
    · exact h1 u hu
    · exact h2 u hu
theorem Reads.struct {fs : Array Field} (ht : P.underlying t = some (.struct fs)) (h : ReadsF P fs.toList 0 (P.cellsOf t) Φ) : Reads P t Φ := by
  intro H enc w spare held fuel cs x hx
  obtain ⟨xs, m, _, _, hl, hxl, hi⟩ := DataW.trod_struct ht hx
  refine h H enc w spare held m cs (by omega) fun f hf => ?_
  obtain ⟨i, hi'⟩ := List.getElem?_of_mem hf
  have hi2 : fs[i]? = some f := by rw [← Array.getElem?_toList]; exact hi'
  have hlt : i < fs.size := (Array.getElem?_eq_some_iff.1 hi2).1
  rw [Nat.sub_zero, hi i f hi2]
  exact ⟨_, List.getElem?_eq_getElem (by omega)⟩
section
variable {H : Type} {enc : TypeId × Value → H} {W : World} {spare : Nat → Bool} {held : Bool} {v : Value} {d : DataW H} {p : List MemPlace} {r : Reach} {base : Nat}
theorem arg_agg {cs : Array Value} (h : Reads P t Φ) (he : v = .agg cs) (hd : DataW.Trod enc P W 0 spare held t v d p) : ∃ as, Φ as ∧ R (γW W) true (.agg as) v := by
  subst he
  obtain ⟨fuel, hd⟩ := hd
  obtain ⟨⟨as, h1, h2⟩, h3⟩ := h H enc W spare held fuel _ _ hd
  refine ⟨as, h1, ?_⟩
  simp only [R]
  exact ⟨cs.toList, rfl, h3, h2⟩
theorem arg_array {n : Nat} (ht : P.underlying t = some (.array n e)) (h : Reads P t Φ) (hv : Value.okWide P W r base t v) (hd : DataW.Trod enc P W 0 spare held t v d p) : ∃ as, Φ as ∧ R (γW W) true (.agg as) v := by
  simp only [Value.okWide, ht] at hv
  obtain ⟨cs, rfl, _⟩ := hv
  exact arg_agg h rfl hd
theorem arg_slice (ht : P.underlying t = some (.slice e)) (h : Reads P t Φ) (hv : Value.okWide P W r base t v) (hd : DataW.Trod enc P W 0 spare held t v d p) : ∃ as, Φ as ∧ RL (γW W) true as [v] := by
  obtain ⟨a, l, c, rfl⟩ := WideShapes.okWide_slice ht hv
  obtain ⟨fuel, hd⟩ := hd
  exact (h H enc W spare held fuel _ _ hd).1
end
theorem laid_ints {H : Type} {enc : TypeId × Value → H} {w : World} {spare : Nat → Bool} {held : Bool} {fuel : Nat} {cs : List Value} {n : Nat} {k : IntKind} {l : List Int} {p : List MemPlace}
    (ht : P.underlying t = some (.array n e)) (he : P.underlying e = some (.int k)) (hz : P.cellsOf e = 1) (hn : P.cellsOf t = n)
    (hd : DataW.trod enc P w 0 spare held fuel t cs = some (.agg (l.map fun x => .lit (.int k x)), p)) : cs = l.map (.int k) := by
  obtain ⟨xs, m, _, hx, hl, hxl, hi⟩ := DataW.trod_array ht hd
  rw [hn] at hl
  have hx' : l.map (fun x => DataW.lit (H := H) (.int k x)) = xs.map (·.1) := by
    have := congrArg Prod.fst hx
    simpa using this
  have hll : l.length = n := by have := congrArg List.length hx'; simpa [hxl] using this
  apply List.ext_getElem (by rw [hl, List.length_map, hll])
  intro i h1 h2
  have h3 := hi i (by omega)
  rw [List.getElem?_eq_getElem (by omega)] at h3
  obtain ⟨q, hc, hlit, _⟩ := DataW.trod_int he h3
  have e1 : (xs.map (·.1))[i]? = some (.lit (.int k q)) := by
    rw [List.getElem?_map, List.getElem?_eq_getElem (by omega)]
    simp [hlit]
  rw [← hx', List.getElem?_map, List.getElem?_eq_getElem (by omega)] at e1
  simp only [Option.map_some, Option.some.injEq, DataW.lit.injEq, Lit.int.injEq, true_and] at e1
  rw [hz, Nat.mul_one] at hc
  have e2 : cs[i]? = some (.int k q) := by
    have := congrArg (·[0]?) hc
    simpa using this
  rw [List.getElem?_eq_getElem h1] at e2
  rw [List.getElem_map, e1]
  exact Option.some.inj e2
theorem gok_one {w : World} {g : Nat} {k : IntKind} {l : List Int} {cs : Array Value} (hv : ∀ i, w.cell? ⟨g, i, none⟩ = cs[i]?) (hc : cs.toList = l.map (.int k)) (h0 : 0 < l.length) :
    (l.map fun x => AV.v (.int k x)).length ≤ (γW w).im g ∧ RC (γW w) g 0 (l.map fun x => AV.v (.int k x)) := by
  have hcell : ∀ i x, l[i]? = some x → w.cell? ⟨g, i, none⟩ = some (.int k x) := by
    intro i x hx
    rw [hv, ← Array.getElem?_toList, hc, List.getElem?_map, hx]; rfl
  constructor
  · rw [List.length_map]
    have := imW_cell (hcell (l.length - 1) _ (List.getElem?_eq_getElem (by omega)))
    show l.length ≤ imW w g
    omega
  · refine RC_of_get fun i x hx => ?_
    rw [List.getElem?_map] at hx
    cases hq : l[i]? with
    | none => rw [hq] at hx; cases hx
    | some q =>
      rw [hq] at hx
      cases hx
      exact ⟨_, by rw [Nat.zero_add]; exact hcell i q hq, rfl, by simp [R]⟩
end
end Go.Eng

