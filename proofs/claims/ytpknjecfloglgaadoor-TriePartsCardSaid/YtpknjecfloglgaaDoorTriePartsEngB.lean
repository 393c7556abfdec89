/- A reading of memory as data, and a symbolic evaluator over it, proved sound; no condition. -/
import Derived.Test.YtpknjecfloglgaaDoorTriePartsEngA
import Derived.RangeFuncNested
import Derived.OrdersIn
set_option linter.unusedVariables false
set_option linter.unusedSimpArgs false
namespace Go.Eng
set_option linter.unusedSimpArgs false
set_option linter.unusedVariables false
open Go Go.RowKit

/-- A call of function g comes back with a value and a world of which Rr holds. -/
def CallV (P : Program) (g : FuncId) (cargs : List Value) (w : World) (Rr : Value → World → Prop) : Prop :=
  ((callFunc g cargs.toArray).run P w = .ok (.enter g cargs.toArray) w ∧ Calls P g cargs.toArray w fun e w' => ∃ v, e = .returned v ∧ Rr v w') ∨
  ∃ v w', (callFunc g cargs.toArray).run P w = .ok (.value v) w' ∧ Rr v w'
theorem CallV.mono {P : Program} {g : FuncId} {cargs : List Value} {w : World} {Rr Rr' : Value → World → Prop} (h : CallV P g cargs w Rr) (hr : ∀ v w', Rr v w' → Rr' v w') : CallV P g cargs w Rr' := by
  rcases h with ⟨h1, h2⟩ | ⟨v, w', h1, h2⟩
  · exact .inl ⟨h1, h2.mono fun e w' ⟨v, he, h⟩ => ⟨v, he, hr v w' h⟩⟩
  · exact .inr ⟨v, w', h1, hr v w' h2⟩

/-- where code runs: within a round or not; the ghost at the beginning; the labels that are not its own. -/
structure Cx where
  r : Option Nat
  γ1 : Gh
  lo : Nat
def FF (r : Option Nat) : Fence := ⟨fun _ => True, none, false, r⟩
theorem fenced_FF (P : Program) (r : Option Nat) (m : Machine) : m.fenced P (FF r) := by
  intro g _
  refine ⟨fun h => ?_, Or.inl trivial, fun _ _ => trivial, fun _ h => ?_⟩
  · simp [FF] at h
  · simp [FF] at h
theorem callsIn_FF {P : Program} {r : Option Nat} {n : Nat} {f : FuncId} {args : Array Value} {w : World} {R : Ending → World → Prop} : CallsIn (FF r) n P f args w R ↔ Calls P f args w R :=
  (Iff.rfl : CallsIn (FF r) n P f args w R ↔ CallsIn Fence.wide n P f args w R).trans callsIn_wide

def CallK (P : Program) (g : FuncId) (as : List AV) (hp : List (Nat × Ob)) (nx : Nat) (K : AV → List (Nat × Ob) → Nat → Prop) : Prop :=
  ∀ (γ : Gh) (cargs : List Value), HRel γ hp → γ.nx = nx → γ.base ≤ γ.w.heap.size → RL γ false as cargs →
    CallV P g cargs γ.w fun v w' => ∃ γ' x hp' nx', γ'.w = w' ∧ γ.le γ.nx γ' ∧ HRel γ' hp' ∧ γ'.nx = nx' ∧ R γ' false x v ∧ K x hp' nx'
@[congr] theorem CallK_congr {P : Program} {g : FuncId} {as as' : List AV} {hp hp' : List (Nat × Ob)} {nx nx' : Nat} {K : AV → List (Nat × Ob) → Nat → Prop} (h1 : as = as') (h2 : hp = hp') (h3 : nx = nx') : CallK P g as hp nx K = CallK P g as' hp' nx' K := by
  subst h1; subst h2; subst h3; rfl
theorem CallK.mono {P : Program} {g : FuncId} {as : List AV} {hp : List (Nat × Ob)} {nx : Nat} {K K' : AV → List (Nat × Ob) → Nat → Prop} (h : CallK P g as hp nx K) (hk : ∀ x hp nx, K x hp nx → K' x hp nx) : CallK P g as hp nx K' :=
  fun γ cargs h1 h2 h3 h4 => (h γ cargs h1 h2 h3 h4).mono fun v w' ⟨γ', x, hp', nx', a, b, c, d, e, f⟩ => ⟨γ', x, hp', nx', a, b, c, d, e, hk _ _ _ f⟩

def callee (s : S) (f : Operand) (as : List AV) : Option (FuncId × List AV) := match f with
  | .func g => some (g, as)
  | f => match s.ev f with
    | .fn (.func g) fs cs => some (g, fs ++ as ++ cs)
    | .v (.func (.func g) fs cs) => if fs.size = 0 ∧ cs.size = 0 then some (g, as) else none
    | _ => none

def gbA : AV → Option Bool
  | .v (.bool b) => some b
  | _ => none
theorem gbA_bool (b : Bool) : gbA (.v (.bool b)) = some b := rfl
theorem gbA_unit : gbA unit = none := rfl
/-- the truth value that a guard asks -/
def gbool (s : S) (all : List Oper) (j : Nat) : Option (Nat × Bool) := match all[j]? with
  | some o => match o.dst with
    | some d => match look s.fr d with
      | some x => match gbA x with
        | some b => some (d, b)
        | none => none
      | none => none
    | none => none
  | none => none
def gundA : AV → Bool
  | .v (.tuple _) => true
  | _ => false
theorem gundA_unit : gundA unit = true := rfl
/-- the asked operation was not done: it yields nothing -/
def gund (s : S) (all : List Oper) (j : Nat) : Bool := match all[j]? with
  | some o => match o.dst with
    | some d => match look s.fr d with
      | some x => gundA x
      | none => false
    | none => false
  | none => false
def S.fix (s : S) (d : Nat) (b : Bool) : S := ⟨(d, boo b) :: s.fr, s.sz, s.hp, s.nx, s.df⟩
def GS (b w : Bool) (X Y : Prop) : Prop := (b = w → X) ∧ (b = !w → Y)
@[congr] theorem GS_congr {b b' w : Bool} {X Y : Prop} (h : b = b') : GS b w X Y = GS b' w X Y := by rw [h]
theorem GS_tt (X Y : Prop) : GS true true X Y = X := by simp [GS]
theorem GS_ff (X Y : Prop) : GS false false X Y = X := by simp [GS]
theorem GS_tf (X Y : Prop) : GS true false X Y = Y := by simp [GS]
theorem GS_ft (X Y : Prop) : GS false true X Y = Y := by simp [GS]
def dstOk (s : S) : Option Nat → Bool
  | some d => Nat.blt d s.sz
  | none => true
def Out.to (u : Out) (s : S) (d : Option Nat) : S := s.set d u.x u.hp u.nx

/-- A call of yield: a round of the loop l. -/
def CallY (P : Program) (C : Cx) (l : Nat) (as : List AV) (hp : List (Nat × Ob)) (nx : Nat) (K : AV → List (Nat × Ob) → Nat → Prop) : Prop :=
  ∀ (γ : Gh) (cargs : List Value), C.γ1.le C.lo γ → HRel γ hp → γ.nx = nx → γ.base ≤ γ.w.heap.size → RL γ false as cargs →
    ∃ fn tmps assign body, (Instr.yield l cargs.toArray).run P γ.w = .ok (.round l fn tmps assign body) γ.w ∧ RoundIn (FF C.r) 0 P l fn tmps assign body γ.w fun e w' =>
      ∃ v, e = .returned v ∧ ∃ γ' x hp' nx', γ'.w = w' ∧ γ.le γ.nx γ' ∧ HRel γ' hp' ∧ γ'.nx = nx' ∧ R γ' false x v ∧ K x hp' nx'
@[congr] theorem CallY_congr {P : Program} {C : Cx} {l : Nat} {as as' : List AV} {hp hp' : List (Nat × Ob)} {nx nx' : Nat} {K : AV → List (Nat × Ob) → Nat → Prop} (h1 : as = as') (h2 : hp = hp') (h3 : nx = nx') : CallY P C l as hp nx K = CallY P C l as' hp' nx' K := by
  subst h1; subst h2; subst h3; rfl
def yieldee (s : S) (f : Operand) : Option Nat := match s.ev f with
  | .v (.func (.yield l) fs cs) => if fs.size = 0 ∧ cs.size = 0 then some l else none
  | _ => none

def ex (P : Program) (C : Cx) (all : List Oper) : List Oper → S → (S → Prop) → Prop
  | [], s, K => K s
  | o :: r, s, K =>
    let core (s : S) : Prop := match o.op with
      | .call { callee := .value f, args, argTypes := _ } => match callee s f (args.toList.map s.ev) with
        | some (g, as) => dstOk s o.dst = true ∧ CallK P g as s.hp s.nx fun x hp nx => ex P C all r (s.set o.dst x hp nx) K
        | none => match yieldee s f with
          | some l => dstOk s o.dst = true ∧ CallY P C l (args.toList.map s.ev) s.hp s.nx fun x hp nx => ex P C all r (s.set o.dst x hp nx) K
          | none => False
      | op => (ev1 P s op).ok ∧ dstOk s o.dst = true ∧ ex P C all r ((ev1 P s op).to s o.dst) K
    match o.guard with
    | none => core s
    | some (j, w) => match gbool s all j with
      | some (d, b) => GS b w (core (s.fix d w)) (dstOk s o.dst = true ∧ ex P C all r ((s.fix d (!w)).set o.dst unit s.hp s.nx) K)
      | none => gund s all j = true ∧ dstOk s o.dst = true ∧ ex P C all r (s.set o.dst unit s.hp s.nx) K

theorem ev1_nx (P : Program) (s : S) (op : Op) : s.nx ≤ (ev1 P s op).nx := by
  unfold ev1
  split
  all_goals first
    | exact Nat.le_refl _
    | exact Nat.le_succ _
    | (unfold buildSliceO; split <;> first | exact Nat.le_refl _ | exact Nat.le_succ _)
    | (unfold loadO; split <;> exact Nat.le_refl _)
    | (unfold storeO; split <;> exact Nat.le_refl _)
    | (unfold nilCheckO; split <;> exact Nat.le_refl _)
    | (unfold convO convM; (repeat' split) <;> exact Nat.le_refl _)
    | (unfold makeO; (repeat' split) <;> first | exact Nat.le_refl _ | exact Nat.le_succ _)
    | (unfold sliceO; (repeat' split) <;> exact Nat.le_refl _)
    | (unfold fieldAddrO; (repeat' split) <;> exact Nat.le_refl _)
    | (unfold fieldO; (repeat' split) <;> exact Nat.le_refl _)
    | (unfold indexAddrO; (repeat' split) <;> exact Nat.le_refl _)
    | (unfold indexO; (repeat' split) <;> exact Nat.le_refl _)
    | (unfold extractO; (repeat' split) <;> exact Nat.le_refl _)
    | (unfold lenO; (repeat' split) <;> exact Nat.le_refl _)
    | (split <;> first | exact Nat.le_refl _ | (unfold lenO; (repeat' split) <;> exact Nat.le_refl _) | (unfold copyO; (repeat' split) <;> exact Nat.le_refl _) | (unfold appendO; (repeat' split) <;> first | exact Nat.le_refl _ | exact Nat.le_add_right _ _))

/-- labels laid by for what comes -/
theorem ghost_bump {γ : Gh} {hp : List (Nat × Ob)} (hr : HRel γ hp) (n : Nat) (hn : γ.nx ≤ n) :
    γ.le γ.nx { γ with nx := n } ∧ HRel { γ with nx := n } hp ∧ ∀ l, γ.nx ≤ l → l < n → Free { γ with nx := n } hp l := by
  have hle : γ.le γ.nx { γ with nx := n } := ⟨rfl, Below.refl _ _, fun _ => Nat.le_refl _, fun _ _ => rfl, fun _ _ _ => rfl, hn, fun _ _ _ h => h, fun _ _ h => h, fun _ _ _ h => h, fun _ _ _ _ _ _ => ⟨rfl, fun c _ h => ⟨c, h, rfl⟩⟩⟩
  refine ⟨hle, ⟨fun l row h => hrel_keep hr hle l row h fun _ _ => ⟨rfl, rfl⟩, hr.tok, hr.inj, fun l h => hr.fresh l (Nat.le_trans hn h), hr.tkal, hr.imz, hr.live, (fun l o h => hrel_raw hr hle l o h fun _ _ => ⟨rfl, rfl⟩), hr.gok.le hle⟩, fun l h1 h2 => ?_⟩
  have := hr.fresh l h1
  exact ⟨h2, this.1, this.2.1, this.2.2⟩
theorem ev1_run {P : Program} {o : Oper} {s : S} (hk : (ev1 P s o.op).ok) {γ : Gh} {a : Act} (hr : Rel γ s a) :
    ∃ v γ', ((execOp a.eval o).run P γ.w = .ok (.value v) γ'.w ∨ ((execOp a.eval o).run P γ.w = .ok .skip γ'.w ∧ v = undef)) ∧ γ.le γ.nx γ' ∧ HRel γ' (ev1 P s o.op).hp ∧ γ'.nx = (ev1 P s o.op).nx ∧ R γ' false (ev1 P s o.op).x v := by
  have hn := ev1_nx P s o.op
  obtain ⟨hle, hh, hf⟩ := ghost_bump hr.hr (ev1 P s o.op).nx (by rw [hr.nx]; exact hn)
  obtain ⟨v, γ', h1, h2, h3⟩ := ev1_sound P o s hk { γ with nx := (ev1 P s o.op).nx } a ⟨fun t x h => R_le hle (hr.fr t x h), hr.sz, hh, DF_le hle hr.df, hr.bs⟩ (by rw [← hr.nx]; exact hf)
  exact ⟨v, γ', h1, hle.trans (h2.le.mono (by dsimp only; rw [hr.nx]; exact hn)), h2.hr, h2.nx, h3⟩

theorem Rel.set {γ γ' : Gh} {s : S} {a : Act} (h : Rel γ s a) (hle : γ.le γ.nx γ') {hp : List (Nat × Ob)} {nx : Nat} (hh : HRel γ' hp) (hn : γ'.nx = nx) (d : Option Nat) (hd : dstOk s d = true) (x : AV) (v : Value) (hx : R γ' false x v) :
    Rel γ' (s.set d x hp nx) (a.put d v) := by
  refine ⟨⟨?_, ?_, hh, ?_, ?_⟩, hn⟩
  · intro t y hy
    cases d with
    | none => exact R_le hle (h.fr t y hy)
    | some d =>
      simp only [S.set] at hy
      rw [look_cons] at hy
      simp only [Act.put]
      have hlt : d < a.tmps.size := by
        rw [h.sz]
        simp only [dstOk, Nat.blt_eq] at hd
        exact hd
      by_cases hdt : d = t
      · subst hdt
        rw [if_pos rfl] at hy
        cases hy
        have : (a.tmps.setIfInBounds d v).getD d undef = v := by
          simp [Array.getD, hlt]
        rw [this]
        exact hx
      · rw [if_neg hdt] at hy
        have : (a.tmps.setIfInBounds d v).getD t undef = a.tmps.getD t undef := by
          simp only [Array.getD_eq_getD_getElem?]
          rw [Array.getElem?_setIfInBounds_ne hdt]
        rw [this]
        exact R_le hle (h.fr t y hy)
  · cases d with
    | none => exact h.sz
    | some d => simp only [Act.put, Array.size_setIfInBounds]; exact h.sz
  · cases d <;> exact DF_le hle h.df
  · rw [hle.base]; exact Nat.le_trans h.bs hle.below.size

theorem Rel.fix {γ : Gh} {s : S} {a : Act} (h : Rel γ s a) {d : Nat} {b : Bool} (hl : look s.fr d = some (.v (.bool b))) : Rel γ (s.fix d b) a := by
  refine ⟨⟨fun t y hy => ?_, h.sz, h.hr, h.df, h.bs⟩, h.nx⟩
  simp only [S.fix] at hy
  rw [look_cons] at hy
  by_cases e : d = t
  · subst e
    rw [if_pos rfl] at hy
    cases hy
    exact h.fr d _ hl
  · rw [if_neg e] at hy
    exact h.fr t y hy

theorem gbool_some {s : S} {all : List Oper} {j d : Nat} {b : Bool} (h : gbool s all j = some (d, b)) : ∃ o, all[j]? = some o ∧ o.dst = some d ∧ look s.fr d = some (.v (.bool b)) := by
  unfold gbool at h
  split at h
  · rename_i o ho
    split at h
    · rename_i d' hd
      split at h
      · rename_i x hx
        split at h
        · rename_i b' hb
          cases h
          refine ⟨o, ho, hd, ?_⟩
          rw [hx]
          unfold gbA at hb
          split at hb
          · cases hb; rfl
          · cases hb
        · cases h
      · cases h
    · cases h
  · cases h
theorem wanted_of {γ : Gh} {s : S} {a : Act} (h : Rel γ s a) {all : Array Oper} {o : Oper} {j d : Nat} {b w : Bool} (hg : o.guard = some (j, w)) (hb : gbool s all.toList j = some (d, b)) : Region.wanted o (yielded all a.tmps) = (b == w) := by
  obtain ⟨o', h1, h2, h3⟩ := gbool_some hb
  have hR := h.fr d _ h3
  simp only [R] at hR
  have hlt : d < a.tmps.size := by
    rcases Nat.lt_or_ge d a.tmps.size with h' | h'
    · exact h'
    · simp [Array.getD, Nat.not_lt.2 h', undef] at hR
  have hget : a.tmps[d]? = some (.bool b) := by
    rw [Array.getElem?_eq_getElem hlt]
    simp [Array.getD, hlt] at hR
    rw [hR]
  have h1' : all[j]? = some o' := by rw [← Array.getElem?_toList]; exact h1
  simp only [Region.wanted, hg, yielded, h1', Option.bind_some, h2, hget]
  cases b <;> cases w <;> rfl

theorem wanted_und {γ : Gh} {s : S} {tmps : Array Value} {all : Array Oper} {o : Oper} {j : Nat} {w : Bool} (hg : o.guard = some (j, w)) (hb : gund s all.toList j = true) (hf : ∀ o' d x, all[j]? = some o' → o'.dst = some d → look s.fr d = some x → R γ false x (tmps.getD d undef)) : Region.wanted o (yielded all tmps) = false := by
  unfold gund at hb
  split at hb
  · rename_i o' h1
    split at hb
    · rename_i d h2
      split at hb
      · rename_i x h3
        unfold gundA at hb
        split at hb
        case h_2 => cases hb
        rename_i u
        have h1' : all[j]? = some o' := by rw [← Array.getElem?_toList]; exact h1
        have hR := hf o' d _ h1' h2 h3
        simp only [R] at hR
        simp only [Region.wanted, hg, yielded, h1', Option.bind_some, h2]
        cases ht : tmps[d]? with
        | none => cases w <;> rfl
        | some y =>
          have : tmps.getD d undef = y := by simp [Array.getD_eq_getD_getElem?, ht]
          rw [this] at hR
          subst hR
          cases w <;> rfl
      · cases hb
    · cases hb
  · cases hb

/-- a call's operation, run -/
theorem run_call {P : Program} {s : S} {o : Oper} {f : Operand} {args : Array Operand} {ts : Array TypeId} (ho : o.op = .call { callee := .value f, args, argTypes := ts }) {g : FuncId} {as : List AV}
    (hc : callee s f (args.toList.map s.ev) = some (g, as)) {γ : Gh} {a : Act} (hr : Rel γ s a) :
    ∃ cargs : List Value, RL γ false as cargs ∧ (execOp a.eval o).run P γ.w = (callFunc g cargs.toArray).run P γ.w := by
  have hargs := RL_map hr.toRel0 args.toList
  have key : ∀ (us vs : Array Value), a.eval f = .func (.func g) us vs → as = as → ∀ cargs : List Value, cargs.toArray = us ++ args.map a.eval ++ vs → (execOp a.eval o).run P γ.w = (callFunc g cargs.toArray).run P γ.w := by
    intro us vs hf _ cargs hcl
    unfold execOp
    simp only [ho, resolve, hf, Deferred.ofValue, Sem.run_bind, Sem.run_pure, Result.andThen_ok, invoke, hcl]
  cases f with
  | func g' =>
    simp only [callee] at hc
    cases hc
    refine ⟨args.toList.map a.eval, hargs, key #[] #[] (by simp [Act.eval]) rfl _ (by apply Array.ext'; simp)⟩
  | tmp t =>
    simp only [callee] at hc
    have hR := hr.ev (.tmp t)
    split at hc
    · rename_i g' fs cs hA
      cases hc
      rw [hA] at hR
      simp only [R] at hR
      obtain ⟨us, vs, hf, h1, h2⟩ := hR
      refine ⟨us ++ args.toList.map a.eval ++ vs, RL_append (RL_append h1 hargs) h2, key _ _ hf rfl _ (by apply Array.ext'; simp)⟩
    · rename_i g' fs cs hA
      split at hc
      · rename_i hz
        cases hc
        rw [hA] at hR
        simp only [R] at hR
        have e1 : fs = #[] := Array.eq_empty_of_size_eq_zero hz.1
        have e2 : cs = #[] := Array.eq_empty_of_size_eq_zero hz.2
        subst e1; subst e2
        exact ⟨args.toList.map a.eval, hargs, key #[] #[] hR rfl _ (by apply Array.ext'; simp)⟩
      · cases hc
    · cases hc
  | const v =>
    simp only [callee] at hc
    have hR := hr.ev (.const v)
    split at hc
    · rename_i g' fs cs hA
      simp [S.ev] at hA
    · rename_i g' fs cs hA
      split at hc
      · rename_i hz
        cases hc
        rw [hA] at hR
        simp only [R] at hR
        have e1 : fs = #[] := Array.eq_empty_of_size_eq_zero hz.1
        have e2 : cs = #[] := Array.eq_empty_of_size_eq_zero hz.2
        subst e1; subst e2
        exact ⟨args.toList.map a.eval, hargs, key #[] #[] hR rfl _ (by apply Array.ext'; simp)⟩
      · cases hc
    · cases hc
  | global g' =>
    simp [callee, S.ev] at hc

theorem run_callY {P : Program} {s : S} {o : Oper} {f : Operand} {args : Array Operand} {ts : Array TypeId} (ho : o.op = .call { callee := .value f, args, argTypes := ts }) {l : Nat}
    (hc : yieldee s f = some l) {γ : Gh} {a : Act} (hr : Rel γ s a) :
    (execOp a.eval o).run P γ.w = (Instr.yield l (args.toList.map a.eval).toArray).run P γ.w := by
  unfold yieldee at hc
  have hR := hr.ev f
  split at hc
  · rename_i l' fs cs hA
    split at hc
    · rename_i hz
      cases hc
      rw [hA] at hR
      simp only [R] at hR
      have e1 : fs = #[] := Array.eq_empty_of_size_eq_zero hz.1
      have e2 : cs = #[] := Array.eq_empty_of_size_eq_zero hz.2
      subst e1; subst e2
      have e3 : (#[] ++ args.map a.eval : Array Value) = (args.toList.map a.eval).toArray := by apply Array.ext'; simp
      unfold execOp
      simp only [ho, resolve, hR, Deferred.ofValue, Sem.run_bind, Sem.run_pure, Result.andThen_ok, invoke, Array.append_empty, e3]
    · cases hc
  · cases hc

theorem upon_call {P : Program} {C : Cx} {o : Oper} (hnd : ∀ c, o.op ≠ .defer c) {a : Act} {γ : Gh} {g : FuncId} {cargs : List Value} (hrun : (execOp a.eval o).run P γ.w = (callFunc g cargs.toArray).run P γ.w) {Rr : Value → World → Prop}
    (hc : CallV P g cargs γ.w Rr) {next : Act → World → Prop} {Q : Exit → Act → World → Prop} (hn : ∀ v w', Rr v w' → next (a.put o.dst v) w') : o.wpIn (FF C.r) 0 P a γ.w next Q := by
  refine ⟨fun _ _ => trivial, ?_⟩
  rw [Oper.semAt_eq _ _ _ hnd, hrun]
  rcases hc with ⟨h1, h2⟩ | ⟨v, w', h1, h2⟩
  · rw [h1]
    refine ⟨fun h => (by cases h), callsIn_FF.2 (h2.mono ?_)⟩
    rintro e w' ⟨v, rfl, h⟩
    exact hn v w' h
  · rw [h1]
    exact hn v w' h2

theorem ex_sound {P : Program} {C : Cx} {all : Array Oper} {Q : Exit → Act → World → Prop} : ∀ (r : List Oper) (s : S) (K : S → Prop) (γ : Gh) (a : Act), ex P C all.toList r s K → Rel γ s a → C.γ1.le C.lo γ →
    (∀ γ' s' a', γ.le C.lo γ' → Rel γ' s' a' → K s' → Q .normal a' γ'.w) → wpListIn (FF C.r) 0 P all Q r a γ.w
  | [], s, K, γ, a, h, hr, hlo, hQ => hQ γ s a (Gh.le.refl hlo.nxl) hr h
  | o :: r, s, K, γ, a, h, hr, hlo, hQ => by
    have hlo' := hlo.nxl
    -- the operation itself
    have core : ∀ s : S, Rel γ s a → (match o.op with
      | .call { callee := .value f, args, argTypes := _ } => match callee s f (args.toList.map s.ev) with
        | some (g, as) => dstOk s o.dst = true ∧ CallK P g as s.hp s.nx fun x hp nx => ex P C all.toList r (s.set o.dst x hp nx) K
        | none => match yieldee s f with
          | some l => dstOk s o.dst = true ∧ CallY P C l (args.toList.map s.ev) s.hp s.nx fun x hp nx => ex P C all.toList r (s.set o.dst x hp nx) K
          | none => False
      | op => (ev1 P s op).ok ∧ dstOk s o.dst = true ∧ ex P C all.toList r ((ev1 P s op).to s o.dst) K) → o.wpIn (FF C.r) 0 P a γ.w (wpListIn (FF C.r) 0 P all Q r) Q := by
      intro s hr h
      split at h
      · rename_i f args ts ho
        split at h
        · rename_i g as hc
          obtain ⟨hd, hck⟩ := h
          obtain ⟨cargs, hca, hrun⟩ := run_call (P := P) ho hc hr
          refine upon_call (C := C) (fun c e => by rw [ho] at e; cases e) hrun (hck γ cargs hr.hr hr.nx hr.bs hca) ?_
          rintro v w' ⟨γ', x, hp', nx', rfl, hle, hh, hn, hx, hk⟩
          exact ex_sound r _ K γ' _ hk (hr.set hle hh hn o.dst hd x v hx) (hlo.trans (hle.mono hlo')) fun γ2 s2 a2 h2 => hQ γ2 s2 a2 ((hle.mono hlo').trans h2)
        · split at h
          · rename_i l hc
            obtain ⟨hd, hck⟩ := h
            have hrun := run_callY (P := P) ho hc hr
            obtain ⟨fn, tmps, assign, body, h1, h2⟩ := hck γ _ hlo hr.hr hr.nx hr.bs (RL_map hr.toRel0 args.toList)
            refine ⟨fun _ _ => trivial, ?_⟩
            rw [Oper.semAt_eq _ _ _ (fun c e => by rw [ho] at e; cases e), hrun, h1]
            refine ⟨fun h => (by cases h), h2.mono ?_⟩
            rintro e w' ⟨v, rfl, γ', x, hp', nx', rfl, hle, hh, hn, hx, hk⟩
            exact ex_sound r _ K γ' _ hk (hr.set hle hh hn o.dst hd x v hx) (hlo.trans (hle.mono hlo')) fun γ2 s2 a2 h2 => hQ γ2 s2 a2 ((hle.mono hlo').trans h2)
          · exact h.elim
      · obtain ⟨hok, hd, hk⟩ := h
        obtain ⟨v, γ', hrun, hle, hh, hn, hx⟩ := ev1_run hok hr
        have hrel := hr.set hle hh hn o.dst hd _ v hx
        have := ex_sound r _ K γ' _ hk hrel (hlo.trans (hle.mono hlo')) fun γ2 s2 a2 h2 => hQ γ2 s2 a2 ((hle.mono hlo').trans h2)
        refine ⟨fun _ _ => trivial, ?_⟩
        rw [Oper.semAt_eq _ _ _ (fun c e => by rw [e] at hok; exact hok)]
        rcases hrun with hrun | ⟨hrun, rfl⟩
        · rw [hrun]; exact this
        · rw [hrun]; exact this
    unfold ex at h
    simp only at h
    unfold wpListIn
    split at h
    · rename_i hg
      rw [if_pos (by simp [Region.wanted, hg])]
      exact core s hr h
    · rename_i j w hg
      split at h
      · rename_i d b hb
        rw [wanted_of hr hg hb]
        obtain ⟨o', _, _, hlk⟩ := gbool_some hb
        by_cases hbw : b = w
        · subst hbw
          rw [if_pos (by simp)]
          exact core (s.fix d b) (hr.fix hlk) (h.1 rfl)
        · have hbw' : b = !w := by cases b <;> cases w <;> simp_all
          subst hbw'
          rw [if_neg (by simp)]
          obtain ⟨hd, hk⟩ := h.2 rfl
          refine ⟨fun _ _ => trivial, ex_sound r _ K γ _ hk ?_ hlo hQ⟩
          have := (hr.fix hlk).set (Gh.le.refl (Nat.le_refl _)) hr.hr hr.nx o.dst hd unit undef (by simp [R, unit])
          exact this
      · obtain ⟨hu, hd, hk⟩ := h
        rw [wanted_und (γ := γ) hg hu (fun _ d x _ _ hx => hr.fr d x hx), if_neg (by simp)]
        refine ⟨fun _ _ => trivial, ex_sound r _ K γ _ hk ?_ hlo hQ⟩
        exact hr.set (Gh.le.refl (Nat.le_refl _)) hr.hr hr.nx o.dst hd unit undef (by simp [R, unit])

end Go.Eng

namespace Go.Eng
set_option linter.unusedSimpArgs false
set_option linter.unusedVariables false
open Go Go.RowKit

/-- Code, from a state on. -/
def AW (P : Program) (C : Cx) (c : Code) (Q : Exit → S → Prop) (s : S) : Prop :=
  ∀ (γ : Gh) (a : Act), C.γ1.le C.lo γ → Rel γ s a → c.wpIn (FF C.r) 0 P (fun e a' w' => ∃ γ' s', γ'.w = w' ∧ γ.le C.lo γ' ∧ Rel γ' s' a' ∧ Q e s') a γ.w
@[congr] theorem AW_congr {P : Program} {C : Cx} {c : Code} {Q : Exit → S → Prop} {s s' : S} (h : s = s') : AW P C c Q s = AW P C c Q s' := by rw [h]

theorem AW.mono {P : Program} {C : Cx} {c : Code} {Q Q' : Exit → S → Prop} {s : S} (h : AW P C c Q s) (hq : ∀ e s, Q e s → Q' e s) : AW P C c Q' s :=
  fun γ a hl hr => wpIn_mono (h γ a hl hr) (fun e a' w' ⟨γ', s', h1, h2, h3, h4⟩ => ⟨γ', s', h1, h2, h3, hq e s' h4⟩)

/-- s can be seen as s' -/
def Sub (C : Cx) (s s' : S) : Prop := ∀ (γ : Gh) (a : Act), C.γ1.le C.lo γ → Rel γ s a → ∃ γ', γ'.w = γ.w ∧ γ.le C.lo γ' ∧ Rel γ' s' a

/-- what stands behind a piece of code -/
inductive It where
  | code (c : Code)
  | blk (id : Nat)
  | scp
  | lp (I : S → Prop) (m : S → Nat) (n : Nat)

def Qof (P : Program) (C : Cx) (fin : Exit → S → Prop) : List It → Exit → S → Prop
  | [], e, s => fin e s
  | .code c :: k, e, s => match e with
    | .normal => AW P C c (Qof P C fin k) s
    | e => Qof P C fin k e s
  | .blk id :: k, e, s => match e with
    | .exit id' => if id' = id then Qof P C fin k .normal s else Qof P C fin k (.exit id') s
    | e => Qof P C fin k e s
  | .scp :: k, e, s => match e with
    | .goto _ => False
    | e => Qof P C fin k e s
  | .lp I m n :: k, e, s => match e with
    | .normal => ∃ s', Sub C s s' ∧ I s' ∧ m s' < n
    | e => Qof P C fin k e s

section
variable {P : Program} {C : Cx} {fin : Exit → S → Prop} {k : List It} {s : S}

theorem Qof_code (c : Code) : Qof P C fin (.code c :: k) .normal s = AW P C c (Qof P C fin k) s := rfl
theorem Qof_code_ret (c : Code) : Qof P C fin (.code c :: k) .ret s = Qof P C fin k .ret s := rfl
theorem Qof_code_exit (c : Code) (id : Nat) : Qof P C fin (.code c :: k) (.exit id) s = Qof P C fin k (.exit id) s := rfl
theorem Qof_blk (id : Nat) : Qof P C fin (.blk id :: k) .normal s = Qof P C fin k .normal s := rfl
theorem Qof_blk_ret (id : Nat) : Qof P C fin (.blk id :: k) .ret s = Qof P C fin k .ret s := rfl
theorem Qof_blk_exit (id id' : Nat) : Qof P C fin (.blk id :: k) (.exit id') s = if id' = id then Qof P C fin k .normal s else Qof P C fin k (.exit id') s := rfl
theorem Qof_lp (I : S → Prop) (m : S → Nat) (n : Nat) : Qof P C fin (.lp I m n :: k) .normal s = ∃ s', Sub C s s' ∧ I s' ∧ m s' < n := rfl
theorem Qof_lp_ret (I : S → Prop) (m : S → Nat) (n : Nat) : Qof P C fin (.lp I m n :: k) .ret s = Qof P C fin k .ret s := rfl
theorem Qof_lp_exit (I : S → Prop) (m : S → Nat) (n id : Nat) : Qof P C fin (.lp I m n :: k) (.exit id) s = Qof P C fin k (.exit id) s := rfl
theorem Qof_scp : Qof P C fin (.scp :: k) .normal s = Qof P C fin k .normal s := rfl
theorem Qof_scp_ret : Qof P C fin (.scp :: k) .ret s = Qof P C fin k .ret s := rfl
theorem Qof_scp_exit (id : Nat) : Qof P C fin (.scp :: k) (.exit id) s = Qof P C fin k (.exit id) s := rfl
theorem Qof_nil (e : Exit) : Qof P C fin [] e s = fin e s := rfl

theorem AW.seq {x y : Code} (h : AW P C x (Qof P C fin (.code y :: k)) s) : AW P C (.seq x y) (Qof P C fin k) s := by
  intro γ a hl hr
  refine wpIn_seq ?_
  refine wpIn_mono (h γ a hl hr) ?_
  rintro e a' w' ⟨γ', s', rfl, hle, hr', hq⟩
  cases e with
  | normal =>
    simp only [Exit.then]
    refine wpIn_mono (hq γ' a' (hl.trans hle) hr') ?_
    rintro e a'' w'' ⟨γ2, s2, hw, hle2, hr2, hq2⟩
    exact ⟨γ2, s2, hw, hle.trans hle2, hr2, hq2⟩
  | _ => exact ⟨γ', s', rfl, hle, hr', hq⟩
theorem AW.block {id : Nat} {c : Code} (h : AW P C c (Qof P C fin (.blk id :: k)) s) : AW P C (.block id c) (Qof P C fin k) s := by
  intro γ a hl hr
  refine wpIn_block ?_
  refine wpIn_mono (h γ a hl hr) ?_
  rintro e a' w' ⟨γ', s', rfl, hle, hr', hq⟩
  cases e with
  | exit id' =>
    simp only [Exit.inBlock]
    simp only [Qof] at hq
    split
    · rename_i e; rw [if_pos e] at hq; exact ⟨γ', s', rfl, hle, hr', hq⟩
    · rename_i e; rw [if_neg e] at hq; exact ⟨γ', s', rfl, hle, hr', hq⟩
  | _ => exact ⟨γ', s', rfl, hle, hr', hq⟩
theorem AW.skip {Q : Exit → S → Prop} (h : Q .normal s) : AW P C .skip Q s := fun γ a hl hr => wpIn_skip ⟨γ, s, rfl, Gh.le.refl hl.nxl, hr, h⟩
theorem AW.ret {Q : Exit → S → Prop} (h : Q .ret s) : AW P C .ret Q s := fun γ a hl hr => wpIn_ret ⟨γ, s, rfl, Gh.le.refl hl.nxl, hr, h⟩
theorem AW.exit {Q : Exit → S → Prop} {id : Nat} (h : Q (.exit id) s) : AW P C (.exit id) Q s := fun γ a hl hr => wpIn_exit ⟨γ, s, rfl, Gh.le.refl hl.nxl, hr, h⟩
theorem AW.goto {Q : Exit → S → Prop} {id : Nat} (h : Q (.goto id) s) : AW P C (.goto id) Q s := fun γ a hl hr => wpIn_goto ⟨γ, s, rfl, Gh.le.refl hl.nxl, hr, h⟩
theorem AW.label {Q : Exit → S → Prop} {l : Nat} (h : Q .normal s) : AW P C (.label l) Q s := fun γ a hl hr => wpIn_label ⟨γ, s, rfl, Gh.le.refl hl.nxl, hr, h⟩
theorem AW.region {id : Nat} {ops : Array Oper} {Q : Exit → S → Prop} (h : ex P C ops.toList ops.toList s (Q .normal)) : AW P C (.region id ops false) Q s := by
  intro γ a hl hr
  refine wpIn_region_list ?_
  exact ex_sound ops.toList s _ γ a h hr hl fun γ' s' a' hle hr' hk => ⟨γ', s', rfl, hle, hr', hk⟩
theorem AW.cond {c : Operand} {x y : Code} {Q : Exit → S → Prop} {b : Bool} (hc : s.ev c = .v (.bool b)) (ht : b = true → AW P C x Q s) (hf : b = false → AW P C y Q s) : AW P C (.cond c x y) Q s := by
  intro γ a hl hr
  have hR := hr.ev c
  rw [hc] at hR
  simp only [R] at hR
  refine wpIn_cond hR ?_
  cases b
  · exact hf rfl γ a hl hr
  · exact ht rfl γ a hl hr
theorem AW.sub {c : Code} {Q : Exit → S → Prop} {s' : S} (hs : Sub C s s') (h : AW P C c Q s') : AW P C c Q s := by
  intro γ a hl hr
  obtain ⟨γ', hw, hle, hr'⟩ := hs γ a hl hr
  rw [← hw]
  refine wpIn_mono (h γ' a (hl.trans hle) hr') ?_
  rintro e a'' w'' ⟨γ2, s2, hw2, hle2, hr2, hq2⟩
  exact ⟨γ2, s2, hw2, hle.trans hle2, hr2, hq2⟩
theorem AW.loop {c : Code} (I : S → Prop) (m : S → Nat) {s0 : S} (hs : Sub C s s0) (h0 : I s0) (round : ∀ s, I s → AW P C c (Qof P C fin (.lp I m (m s) :: k)) s) : AW P C (.loop c) (Qof P C fin k) s := by
  refine AW.sub hs ?_
  intro γ a hl hr
  -- the relation: some ghost from the first on, some state of I; the measure: the least
  let J : Nat → Act → World → Prop := fun n a' w' => ∃ γ' s', γ'.w = w' ∧ γ.le C.lo γ' ∧ Rel γ' s' a' ∧ I s' ∧ m s' = n
  intro b kk cs hro hb hrm
  have key : ∀ n, ∀ (a' : Act) (w' : World), J n a' w' →
      ∃ e a2 w2, (∃ γ' s', γ'.w = w2 ∧ γ.le C.lo γ' ∧ Rel γ' s' a2 ∧ Qof P C fin k e s') ∧ ArrivesIn (Machine.fenced P (FF C.r)) P (lone (b.atR a' (.code c :: .inLoop c :: kk)) cs w') b kk cs e a2 w2 := by
    intro n
    induction n using Nat.strongRecOn with
    | _ n ih =>
      rintro a' w' ⟨γ', s', rfl, hle, hr', hI, hm⟩
      obtain ⟨e, a2, w2, ⟨γ2, s2, hw2, hle2, hr2, hq⟩, harr⟩ := round s' hI γ' a' (hl.trans hle) hr' b (.inLoop c :: kk) cs hro hb hrm
      have hle2' := hle.trans hle2
      cases e with
      | normal =>
        obtain ⟨s3, hsub, hI3, hm3⟩ := hq
        obtain ⟨γ3, hw3, hle3, hr3⟩ := hsub γ2 a2 (hl.trans hle2') hr2
        obtain ⟨e4, a4, w4, hq4, harr4⟩ := ih (m s3) (by omega) a2 w2 ⟨γ3, s3, by rw [hw3, hw2], hle2'.trans hle3, hr3, hI3, rfl⟩
        exact ⟨e4, a4, w4, hq4, .of_steps (StepsIn.trans harr (.one (fenced_FF _ _ _) stepR_inLoop)) harr4⟩
      | exit id => exact ⟨_, a2, w2, ⟨γ2, s2, hw2, hle2', hr2, hq⟩, .pass (x := .inLoop c) rfl (fun _ _ => .inl (by simp)) harr⟩
      | goto l => exact ⟨_, a2, w2, ⟨γ2, s2, hw2, hle2', hr2, hq⟩, .pass (x := .inLoop c) rfl (fun _ _ => .inl (by simp)) harr⟩
      | ret => exact ⟨_, a2, w2, ⟨γ2, s2, hw2, hle2', hr2, hq⟩, .pass (x := .inLoop c) rfl (fun _ _ => .inl (by simp)) harr⟩
      | panic ch => exact ⟨_, a2, w2, ⟨γ2, s2, hw2, hle2', hr2, hq⟩, .pass (x := .inLoop c) rfl (fun _ _ => .inl (by simp)) harr⟩
      | outgrown => exact ⟨_, a2, w2, ⟨γ2, s2, hw2, hle2', hr2, hq⟩, .pass (x := .inLoop c) rfl (fun _ _ => .inl (by simp)) harr⟩
  obtain ⟨e, a', w', hq, harr⟩ := key _ a γ.w ⟨γ, s0, rfl, Gh.le.refl hl.nxl, hr, h0, rfl⟩
  exact ⟨e, a', w', hq, .of_steps (.one (fenced_FF _ _ _) stepR_loop) harr⟩
end

end Go.Eng

namespace Go.Eng
set_option linter.unusedSimpArgs false
set_option linter.unusedVariables false
open Go Go.RowKit

/-- A block of another kind, newly laid. -/
theorem ghost_raw {γ : Gh} {hp : List (Nat × Ob)} (hr : HRel γ hp) (bs : γ.base ≤ γ.w.heap.size) {L : Nat} (hL : Free γ hp L) (o : Obj) :
    ∃ γ', γ'.w = γ.w.alloc o ∧ Stp γ hp γ' ((L, .raw o) :: hp) L (L + 1) ∧ γ'.mu L = some γ.w.heap.size ∧ γ'.base = γ.base := by
  obtain ⟨hLn, hLm, hLh, hLt⟩ := hL
  have hle : γ.le γ.nx ⟨γ.w.alloc o, γ.base, γ.im, upd γ.mu L (some γ.w.heap.size), γ.nx, γ.al, γ.tk⟩ :=
    le_alloc hr bs _ _ _ _ _ (fun _ _ => rfl) (fun l b hm => by rw [upd_ne _ _ _ _ (by intro h; subst h; rw [hLm] at hm; cases hm)]; exact hm) (fun _ h => h) (fun _ _ => rfl)
  refine ⟨_, rfl, ⟨hle, ⟨?_, ?_, ?_, ?_, ?_, ?_, ?_, ?_, hr.gok.le hle⟩, rfl, ?_⟩, upd_same _ _ _, rfl⟩
  · intro l row hl
    rw [look_cons] at hl
    by_cases h : L = l
    · rw [if_pos h] at hl; cases hl
    · rw [if_neg h] at hl
      exact hrel_keep hr hle l row hl fun b hb => ⟨Below.heap_alloc _ _ _ ((hr.live l b hb).2), rfl⟩
  · intro k
    rw [look_cons]
    by_cases h : L = k
    · rw [if_pos h]
      subst h
      have h2 := hr.tok L
      rw [hLh] at h2
      constructor
      · intro ha; exact absurd (h2.1 ha) (by simp)
      · intro ha; cases ha
    · rw [if_neg h]; exact hr.tok k
  · intro l l' b hl hl' hm hm'
    have key : ∀ l, (look ((L, Ob.raw o) :: hp) l).isSome = true → upd γ.mu L (some γ.w.heap.size) l = some b → (l = L ∧ b = γ.w.heap.size) ∨ (l ≠ L ∧ (look hp l).isSome = true ∧ γ.mu l = some b ∧ b < γ.w.heap.size) := by
      intro l hl hm
      by_cases h : l = L
      · subst h; rw [upd_same] at hm; cases hm; exact .inl ⟨rfl, rfl⟩
      · rw [upd_ne _ _ _ _ h] at hm
        rw [look_cons, if_neg (Ne.symm h)] at hl
        exact .inr ⟨h, hl, hm, (hr.live l b hm).2⟩
    rcases key l hl hm with ⟨rfl, e1⟩ | ⟨n1, a1, a2, a3⟩ <;> rcases key l' hl' hm' with ⟨rfl, e2⟩ | ⟨n2, b1, b2, b3⟩
    · rfl
    · omega
    · omega
    · exact hr.inj l l' b a1 b1 a2 b2
  · intro l hl
    dsimp only at hl ⊢
    rw [upd_ne _ _ _ _ (by omega), look_cons, if_neg (by omega)]
    exact hr.fresh l hl
  · exact hr.tkal
  · intro b hb
    dsimp only at hb ⊢
    rw [World.size_alloc] at hb
    exact hr.imz b (by omega)
  · intro l b hm
    dsimp only at hm ⊢
    rw [World.size_alloc]
    by_cases h : l = L
    · subst h; rw [upd_same] at hm; cases hm; omega
    · rw [upd_ne _ _ _ _ h] at hm; have := hr.live l b hm; omega
  · intro l o' hl
    rw [look_cons] at hl
    by_cases h : L = l
    · rw [if_pos h] at hl
      cases hl
      exact ⟨γ.w.heap.size, by rw [← h]; exact upd_same _ _ _, bs, World.alloc_heap_new _ _, hr.imz _ (Nat.le_refl _)⟩
    · rw [if_neg h] at hl
      exact hrel_raw hr hle l o' hl fun b hb => ⟨Below.heap_alloc _ _ _ ((hr.live l b hb).2), rfl⟩
  · rintro l ⟨g1, g2, g3, g4⟩ hn
    have hne : l ≠ L := by omega
    exact ⟨g1, by dsimp only; rw [upd_ne _ _ _ _ hne]; exact g2, by rw [look_cons, if_neg (Ne.symm hne)]; exact g3, g4⟩

/-- Such a block turns. -/
theorem ghost_put {γ : Gh} {hp : List (Nat × Ob)} (hr : HRel γ hp) {k b : Nat} {o : Obj} (hk : look hp k = some (.raw o)) (hb : γ.mu k = some b) (o' : Obj) :
    ∃ γ', γ'.w = γ.w.putObj b o' ∧ Stp γ hp γ' (rep hp k (.raw o')) 0 0 ∧ γ'.mu = γ.mu := by
  obtain ⟨b', k1, k2, k3, k4⟩ := hr.raw k o hk
  rw [hb] at k1; cases k1
  have hblt : b < γ.w.heap.size := (hr.live k b hb).2
  have hother : ∀ l b', (look hp l).isSome = true → l ≠ k → γ.mu l = some b' → b' ≠ b := by
    intro l b' hl hne hm' heq
    subst heq
    exact hne (hr.inj l k b' hl (by rw [hk]; rfl) hm' hb)
  have hle : γ.le γ.nx { γ with w := γ.w.putObj b o' } := by
    refine ⟨rfl, ⟨rfl, rfl, rfl, by simp, fun j hj => World.putObj_heap_other (by omega)⟩, fun _ => Nat.le_refl _, fun _ _ => rfl, fun b' i hi => ?_, Nat.le_refl _, fun _ _ _ h => h, fun _ _ h => h, fun _ _ _ h => h, fun j b' _ _ ha hm => ⟨rfl, fun c e hce => ?_⟩⟩
    · refine cell_eq_of_heap (World.putObj_heap_other ?_)
      rintro rfl; rw [k4] at hi; omega
    · have ht := (hr.tok j).1 ha
      exact ⟨c, (World.putObj_heap_other (hother j b' (by rw [ht]; rfl) (by rintro rfl; rw [hk] at ht; cases ht) hm)).trans hce, rfl⟩
  have hs : (look hp k).isSome = true := by rw [hk]; rfl
  refine ⟨{ γ with w := γ.w.putObj b o' }, rfl, ⟨hle, ⟨?_, ?_, ?_, ?_, hr.tkal, ?_, ?_, ?_, hr.gok.le hle⟩, rfl, ?_⟩, rfl⟩
  · intro l row h
    rw [look_rep _ _ _ _ hs] at h
    by_cases e : k = l
    · rw [if_pos e] at h; cases h
    · rw [if_neg e] at h
      exact hrel_keep hr hle l row h fun b' hb' => ⟨World.putObj_heap_other (hother l b' (by rw [h]; rfl) (Ne.symm e) hb'), rfl⟩
  · intro j
    rw [look_rep _ _ _ _ hs]
    by_cases e : k = j
    · subst e; rw [if_pos rfl]; show γ.al k = true ↔ _; rw [hr.tok k, hk]; simp
    · rw [if_neg e]; exact hr.tok j
  · intro l l' b' h1 h2 h3 h4
    have key : ∀ l, (look (rep hp k (.raw o')) l).isSome = true → (look hp l).isSome = true := by
      intro l h
      rw [look_rep _ _ _ _ hs] at h
      by_cases e : k = l
      · subst e; exact hs
      · rwa [if_neg e] at h
    exact hr.inj l l' b' (key l h1) (key l' h2) h3 h4
  · intro l h
    refine ⟨(hr.fresh l h).1, ?_, (hr.fresh l h).2.2⟩
    rw [look_rep _ _ _ _ hs, if_neg (by rintro rfl; rw [(hr.fresh k h).2.1] at hk; cases hk)]
    exact (hr.fresh l h).2.1
  · intro b' h
    dsimp only at h
    rw [World.putObj_size] at h
    exact hr.imz b' h
  · intro l b' h
    dsimp only
    rw [World.putObj_size]
    exact hr.live l b' h
  · intro l o2 h
    rw [look_rep _ _ _ _ hs] at h
    by_cases e : k = l
    · rw [if_pos e] at h; cases h; subst e
      exact ⟨b, hb, k2, World.putObj_heap_same hblt, k4⟩
    · rw [if_neg e] at h
      exact hrel_raw hr hle l o2 h fun b' hb' => ⟨World.putObj_heap_other (hother l b' (by rw [h]; rfl) (Ne.symm e) hb'), rfl⟩
  · rintro l ⟨g1, g2, g3, g4⟩ _
    refine ⟨g1, g2, ?_, g4⟩
    rw [look_rep _ _ _ _ hs, if_neg (by rintro rfl; rw [hk] at g3; cases g3)]
    exact g3

/-- Something is known no more. -/
theorem hrel_del {γ : Gh} {hp : List (Nat × Ob)} (hr : HRel γ hp) (k : Nat) : ∃ γ', γ'.w = γ.w ∧ γ.le γ.nx γ' ∧ HRel γ' (del hp k) ∧ γ'.nx = γ.nx ∧ γ'.mu = γ.mu := by
  obtain ⟨γ', h1, h2, h3, h4, h5⟩ := ghost_del hr k
  exact ⟨γ', h1, h2.le, h2.hr, h2.nx, h4⟩
theorem HRel.look {γ : Gh} {hp hp' : List (Nat × Ob)} (h : HRel γ hp) (e : ∀ l, Eng.look hp l = Eng.look hp' l) : HRel γ hp' := by
  refine ⟨fun l row hl => h.box l row (by rw [e]; exact hl), fun k => by rw [← e]; exact h.tok k, fun l l' b h1 h2 => h.inj l l' b (by rw [e]; exact h1) (by rw [e]; exact h2), fun l hl => ?_, h.tkal, h.imz, h.live, (fun l o hl => h.raw l o (by rw [e]; exact hl)), h.gok⟩
  have := h.fresh l hl
  exact ⟨this.1, by rw [← e]; exact this.2.1, this.2.2⟩
end Go.Eng

namespace Go.Eng
set_option linter.unusedSimpArgs false
set_option linter.unusedVariables false
open Go Go.RowKit

/-- The ghost in which a function of its own begins: nothing is its own. -/
def Gh.start (w : World) (base : Nat) (im : Nat → Nat) : Gh := ⟨w, base, im, fun _ => none, 0, fun _ => false, fun _ => false⟩
def okIm (w : World) (im : Nat → Nat) : Prop := (∀ b, w.heap.size ≤ b → im b = 0) ∧ GOK (Gh.start w w.heap.size im)

/-- A function: of these arguments, in whatever world, it returns what reads as r; nothing that was there turns. -/
def AFun (P : Program) (f : FuncId) (as : List AV) (r : AV) : Prop :=
  ∀ (w : World) (im : Nat → Nat) (cargs : List Value), okIm w im → RL (Gh.start w w.heap.size im) true as cargs →
    CallV P f cargs w fun v w' => ∃ im', Below w.heap.size w w' ∧ okIm w' im' ∧ (∀ b, b < w.heap.size → im' b = im b) ∧ R (Gh.start w' w'.heap.size im') true r v

mutual
theorem R_im {γ γ' : Gh} (hw : γ'.w = γ.w) (him : ∀ b, γ.im b ≤ γ'.im b) : ∀ (x : AV) (y : Value), R γ true x y → R γ' true x y
  | .bad, _, _ => by simp [R]
  | .v _, _, r => by simpa [R] using r
  | .sl z cs n k, y, r => by
    simp only [R] at r ⊢
    obtain ⟨a, cap, h1, h2, h3, h4, h4', h5, h6⟩ := r
    refine ⟨a, cap, h1, h2, h3, h4, h4', ?_, fun k' e => by have := (h6 k' e).1; cases this⟩
    rcases h5 with h5 | ⟨b, o, e, hi, hc⟩
    · exact .inl h5
    · exact .inr ⟨b, o, e, Nat.le_trans hi (him b), RC_im hw him b cs o hc⟩
  | .ptr cs, y, r => by
    simp only [R] at r ⊢
    obtain ⟨b, o, h1, h2, h3⟩ := r
    exact ⟨b, o, h1, Nat.le_trans h2 (him b), RC_im hw him b cs o h3⟩
  | .loc id off, y, r => by simp [R] at r
  | .bsl z id off n, y, r => by simp [R] at r
  | .agg cs, y, r => by simp only [R] at r ⊢; obtain ⟨vs, h1, h2, h3⟩ := r; exact ⟨vs, h1, h2, RL_im hw him cs vs h3⟩
  | .tup cs, y, r => by simp only [R] at r ⊢; obtain ⟨vs, h1, h3⟩ := r; exact ⟨vs, h1, RL_im hw him cs vs h3⟩
  | .fn f fs cs, y, r => by simp only [R] at r ⊢; obtain ⟨us, vs, h1, h3, h4⟩ := r; exact ⟨us, vs, h1, RL_im hw him fs us h3, RL_im hw him cs vs h4⟩
  | .ifc t x, y, r => by simp only [R] at r ⊢; obtain ⟨u, h1, h3⟩ := r; exact ⟨u, h1, R_im hw him x u h3⟩
theorem RL_im {γ γ' : Gh} (hw : γ'.w = γ.w) (him : ∀ b, γ.im b ≤ γ'.im b) : ∀ (xs : List AV) (ys : List Value), RL γ true xs ys → RL γ' true xs ys
  | [], _, r => by simpa [RL] using r
  | x :: xs, ys, r => by simp only [RL] at r ⊢; obtain ⟨u, us, h1, h2, h3⟩ := r; exact ⟨u, us, h1, R_im hw him x u h2, RL_im hw him xs us h3⟩
theorem RC_im {γ γ' : Gh} (hw : γ'.w = γ.w) (him : ∀ b, γ.im b ≤ γ'.im b) (b : Nat) : ∀ (xs : List AV) (o : Nat), RC γ b o xs → RC γ' b o xs
  | [], _, _ => by simp [RC]
  | x :: xs, o, r => by simp only [RC] at r ⊢; obtain ⟨⟨u, h1, h2, h3⟩, h4⟩ := r; exact ⟨⟨u, by rw [hw]; exact h1, h2, R_im hw him x u h3⟩, RC_im hw him b xs (o + 1) h4⟩
end
/-- the labels of boxes that an argument leads to -/
def bor : AV → List Nat
  | .loc id _ => [id]
  | .bsl _ id _ _ => [id]
  | .csl _ id _ _ _ => [id]
  | _ => []
def dt : AV → AV
  | .sl z cs n _ => .sl z cs n none
  | .v x => .v x
  | .ptr cs => .ptr cs
  | _ => .bad
/-- an argument as the callee reads it -/
def frz (hp : List (Nat × Ob)) : AV → AV
  | .sl z cs n _ => .sl z cs n none
  | .bsl z id off n => if 0 < n * z ∧ off + n * z ≤ (rowOf hp id).length then .sl z ((((rowOf hp id).drop off).take (n * z)).map dt) n none else .bad
  | .csl z id off n _ => if 0 < n * z ∧ off + n * z ≤ (rowOf hp id).length then .sl z ((((rowOf hp id).drop off).take (n * z)).map dt) n none else .bad
  | .loc id off => if off < (rowOf hp id).length then .ptr (((rowOf hp id).drop off).map dt) else .bad
  | .agg cs => .agg (cs.map dt)
  | .v x => .v x
  | .ptr cs => .ptr cs
  | _ => .bad

/-- what the callee may lean on: the boxes that B names stay as they are -/
def Im (γ : Gh) (hp : List (Nat × Ob)) (B : List Nat) (im : Nat → Nat) : Prop :=
  (∀ b, γ.im b ≤ im b) ∧ (∀ l ∈ B, ∀ row b, look hp l = some (.box row) → γ.mu l = some b → row.length ≤ im b) ∧ (∀ b, (∀ l ∈ B, γ.mu l = some b → ∀ row, look hp l ≠ some (.box row)) → im b = γ.im b)
theorem GOK.im {γ γ' : Gh} (hw : γ'.w = γ.w) (him : ∀ b, γ.im b ≤ γ'.im b) (h : GOK γ) : GOK γ' := fun g cs hg =>
  ⟨Nat.le_trans (h g cs hg).1 (him g), RC_im hw him g cs 0 (h g cs hg).2⟩
theorem Im_exists0 {γ : Gh} {hp : List (Nat × Ob)} (hr : HRel γ hp) (B : List Nat) : ∃ im, Im γ hp B im ∧ ∀ b, γ.w.heap.size ≤ b → im b = 0 := by
  classical
  let q (b : Nat) : Prop := ∃ l ∈ B, γ.mu l = some b ∧ ∃ row, look hp l = some (.box row)
  refine ⟨fun b => if h : q b then (match γ.w.heap[b]? with | some (.cells c _ _) => c.size | _ => 0) else γ.im b, ⟨?_, ?_, ?_⟩, ?_⟩
  · intro b
    dsimp only
    split
    · rename_i h
      obtain ⟨l, _, hm, row, hl⟩ := h
      obtain ⟨cur, e, _, _, him, _⟩ := box_block hr hl hm
      rw [him]; exact Nat.zero_le _
    · exact Nat.le_refl _
  · intro l hB row b hl hm
    dsimp only
    rw [dif_pos ⟨l, hB, hm, row, hl⟩]
    obtain ⟨cur, e, _, hc, _, _, hv⟩ := box_block hr hl hm
    rw [hc]
    have := RL_length hv
    simp only [Array.length_toList] at this
    exact Nat.le_of_eq this
  · intro b h
    dsimp only
    rw [dif_neg]
    rintro ⟨l, hB, hm, row, hl⟩
    exact h l hB hm row hl
  · intro b hb
    dsimp only
    rw [dif_neg]
    · exact hr.imz b hb
    · rintro ⟨l, _, hm, _⟩
      have := (hr.live l b hm).2
      omega

theorem Im_exists {γ : Gh} {hp : List (Nat × Ob)} (hr : HRel γ hp) (B : List Nat) : ∃ im, Im γ hp B im ∧ okIm γ.w im := by
  obtain ⟨im, h, h0⟩ := Im_exists0 hr B
  exact ⟨im, h, h0, GOK.im (γ := γ) (γ' := Gh.start γ.w γ.w.heap.size im) rfl h.1 hr.gok⟩
theorem R_dt {γ : Gh} {x : AV} {y : Value} (h : R γ false x y) : R γ true (dt x) y := by
  cases x with
  | v u => simpa only [R, dt] using h
  | sl z cs n k =>
    simp only [R, dt] at h ⊢
    obtain ⟨a, cap, h1, h2, h3, h4, h5, h6, h7⟩ := h
    exact ⟨a, cap, h1, h2, h3, h4, h5, h6, fun k' e => by cases e⟩
  | ptr cs => simpa only [R, dt] using h
  | _ => simp [dt, R]
theorem RL_dt {γ : Gh} : ∀ {xs : List AV} {ys : List Value}, RL γ false xs ys → RL γ true (xs.map dt) ys
  | [], _, h => by simpa [RL] using h
  | x :: xs, ys, h => by
    simp only [RL, List.map_cons] at h ⊢
    obtain ⟨u, us, h1, h2, h3⟩ := h
    exact ⟨u, us, h1, R_dt h2, RL_dt h3⟩
theorem R_frz {γ γ' : Gh} {hp : List (Nat × Ob)} (hr : HRel γ hp) (hw : γ'.w = γ.w) {B : List Nat} (him : Im γ hp B γ'.im) {x : AV} {y : Value} (h : R γ false x y) (hB : ∀ l ∈ bor x, l ∈ B) : R γ' true (frz hp x) y := by
  cases x with
  | v u => simpa only [R, frz] using h
  | sl z cs n k => exact R_im hw him.1 _ _ (by have := R_dt h; simpa only [dt, frz] using this)
  | ptr cs => exact R_im hw him.1 _ _ (by have := R_dt h; simpa only [dt, frz] using this)
  | agg cs =>
    simp only [frz]
    refine R_im hw him.1 _ _ ?_
    simp only [R] at h ⊢
    obtain ⟨vs, h1, h2, h3⟩ := h
    exact ⟨vs, h1, h2, RL_dt h3⟩
  | loc id off =>
    simp only [frz]
    split
    · rename_i hlt
      simp only [R] at h
      obtain ⟨_, _, b, hm, rfl⟩ := h
      have hrow := rowOf_some (hp := hp) (id := id) (by omega)
      obtain ⟨cur, e, _, hc, _, h1, hv⟩ := box_block hr hrow hm
      have hi := him.2.1 id (hB id (by simp [bor])) _ b hrow hm
      refine R_im (γ := { γ with im := γ'.im }) hw (fun _ => Nat.le_refl _) _ _ ?_
      simp only [R]
      refine ⟨b, off, rfl, by simp; omega, ?_⟩
      have hd : RL { γ with im := γ'.im } true (((rowOf hp id).drop off).map dt) (cur.toList.drop off) := RL_im (γ := γ) (γ' := { γ with im := γ'.im }) rfl him.1 _ _ (RL_dt (RL_drop hv off))
      refine RC_intro hd (fun u hu => h1 u (List.mem_of_mem_drop hu)) fun j u hj => ?_
      rw [List.getElem?_drop] at hj
      rw [cell_of_row _ b _ cur e (0, 0) hc, ← Array.getElem?_toList, hj]
    · simp [R]
  | bsl z id off n =>
    simp only [frz]
    split
    · rename_i hlt
      simp only [R] at h
      obtain ⟨_, _, b, ad, cap, hm, rfl, hnc, hcm, h5⟩ := h
      have hrow := rowOf_some (hp := hp) (id := id) (by omega)
      obtain ⟨cur, e, _, hc, _, h1, hv⟩ := box_block hr hrow hm
      have hi := him.2.1 id (hB id (by simp [bor])) _ b hrow hm
      have hn : n ≠ 0 := by intro e; subst e; simp at hlt
      obtain rfl := h5.resolve_left hn
      refine R_im (γ := { γ with im := γ'.im }) hw (fun _ => Nat.le_refl _) _ _ ?_
      simp only [R]
      refine ⟨_, cap, rfl, hnc, hcm, by simp; omega, by simp, .inr ⟨b, off, rfl, by omega, ?_⟩, fun k' e => by cases e⟩
      have hd : RL { γ with im := γ'.im } true ((((rowOf hp id).drop off).take (n * z)).map dt) ((cur.toList.drop off).take (n * z)) := RL_im (γ := γ) (γ' := { γ with im := γ'.im }) rfl him.1 _ _ (RL_dt (RL_take (RL_drop hv off) _))
      refine RC_intro hd (fun u hu => h1 u (List.mem_of_mem_drop (List.mem_of_mem_take hu))) fun j u hj => ?_
      rw [List.getElem?_take] at hj
      split at hj
      · rw [List.getElem?_drop] at hj
        rw [cell_of_row _ b _ cur e (0, 0) hc, ← Array.getElem?_toList, hj]
      · cases hj
    · simp [R]
  | csl z id off n c =>
    simp only [frz]
    split
    · rename_i hlt
      simp only [R] at h
      obtain ⟨_, _, b, hm, rfl, hnc, hcm⟩ := h
      have hrow := rowOf_some (hp := hp) (id := id) (by omega)
      obtain ⟨cur, e, _, hc, _, h1, hv⟩ := box_block hr hrow hm
      have hi := him.2.1 id (hB id (by simp [bor])) _ b hrow hm
      refine R_im (γ := { γ with im := γ'.im }) hw (fun _ => Nat.le_refl _) _ _ ?_
      simp only [R]
      refine ⟨_, c, rfl, hnc, hcm, by simp; omega, by simp, .inr ⟨b, off, rfl, by omega, ?_⟩, fun k' e => by cases e⟩
      have hd : RL { γ with im := γ'.im } true ((((rowOf hp id).drop off).take (n * z)).map dt) ((cur.toList.drop off).take (n * z)) := RL_im (γ := γ) (γ' := { γ with im := γ'.im }) rfl him.1 _ _ (RL_dt (RL_take (RL_drop hv off) _))
      refine RC_intro hd (fun u hu => h1 u (List.mem_of_mem_drop (List.mem_of_mem_take hu))) fun j u hj => ?_
      rw [List.getElem?_take] at hj
      split at hj
      · rw [List.getElem?_drop] at hj
        rw [cell_of_row _ b _ cur e (0, 0) hc, ← Array.getElem?_toList, hj]
      · cases hj
    · simp [R]
  | _ => simp [frz, R]
theorem RL_frz {γ γ' : Gh} {hp : List (Nat × Ob)} (hr : HRel γ hp) (hw : γ'.w = γ.w) {B : List Nat} (him : Im γ hp B γ'.im) : ∀ {xs : List AV} {ys : List Value}, RL γ false xs ys → (∀ x ∈ xs, ∀ l ∈ bor x, l ∈ B) → RL γ' true (xs.map (frz hp)) ys
  | [], _, h, _ => by simpa [RL] using h
  | x :: xs, ys, h, hB => by
    simp only [RL, List.map_cons] at h ⊢
    obtain ⟨u, us, h1, h2, h3⟩ := h
    exact ⟨u, us, h1, R_frz hr hw him h2 (hB x (by simp)), RL_frz hr hw him h3 fun y hy => hB y (by simp [hy])⟩

mutual
/-- holds no memory -/
def flat : AV → Bool
  | .v _ => true
  | .agg cs => flatL cs
  | .tup cs => flatL cs
  | .bad => true
  | _ => false
def flatL : List AV → Bool
  | [] => true
  | x :: xs => flat x && flatL xs
end
mutual
theorem flat_R {γ γ' : Gh} {p p' : Bool} : ∀ (x : AV) (y : Value), flat x = true → R γ p x y → R γ' p' x y
  | .bad, _, _, _ => by simp [R]
  | .v _, _, _, r => by simpa [R] using r
  | .agg cs, y, hf, r => by simp only [R] at r ⊢; obtain ⟨vs, h1, h2, h3⟩ := r; exact ⟨vs, h1, h2, flatL_R cs vs (by simpa [flat] using hf) h3⟩
  | .tup cs, y, hf, r => by simp only [R] at r ⊢; obtain ⟨vs, h1, h3⟩ := r; exact ⟨vs, h1, flatL_R cs vs (by simpa [flat] using hf) h3⟩
  | .sl .., _, hf, _ => by simp [flat] at hf
  | .ptr _, _, hf, _ => by simp [flat] at hf
  | .loc .., _, hf, _ => by simp [flat] at hf
  | .bsl .., _, hf, _ => by simp [flat] at hf
  | .fn .., _, hf, _ => by simp [flat] at hf
  | .ifc .., _, hf, _ => by simp [flat] at hf
theorem flatL_R {γ γ' : Gh} {p p' : Bool} : ∀ (xs : List AV) (ys : List Value), flatL xs = true → RL γ p xs ys → RL γ' p' xs ys
  | [], _, _, r => by simpa [RL] using r
  | x :: xs, ys, hf, r => by
    simp only [flatL, Bool.and_eq_true] at hf
    simp only [RL] at r ⊢
    obtain ⟨u, us, h1, h2, h3⟩ := r
    exact ⟨u, us, h1, flat_R x u hf.1 h2, flatL_R xs us hf.2 h3⟩
end
def dels (hp : List (Nat × Ob)) : List Nat → List (Nat × Ob)
  | [] => hp
  | l :: r => dels (del hp l) r
theorem look_dels (B : List Nat) : ∀ (hp : List (Nat × Ob)) (l : Nat), look (dels hp B) l = if l ∈ B then none else look hp l := by
  induction B with
  | nil => intro hp l; simp [dels]
  | cons k B ih =>
    intro hp l
    simp only [dels, ih, look_del, List.mem_cons]
    by_cases h : l ∈ B
    · simp [h]
    · by_cases e : k = l
      · subst e; simp [h]
      · simp [h, e, Ne.symm e]

/-- The ghost behind a call of a function of its own. -/
theorem call_ghost {γ : Gh} {hp : List (Nat × Ob)} (hr : HRel γ hp) (bs : γ.base ≤ γ.w.heap.size) {B : List Nat} {im : Nat → Nat} (him : Im γ hp B im) {w' : World} {im' : Nat → Nat} (hb : Below γ.w.heap.size γ.w w') (hok : ∀ b, w'.heap.size ≤ b → im' b = 0) (hsame : ∀ b, b < γ.w.heap.size → im' b = im b)
    (hB : ∀ l ∈ B, ∀ b, γ.mu l = some b → γ.base ≤ b) (hBb : ∀ l ∈ B, look hp l ≠ some .tok) :
    ∃ γ', γ'.w = w' ∧ γ.le γ.nx γ' ∧ HRel γ' (dels hp B) ∧ γ'.nx = γ.nx ∧ γ'.im = im' ∧ γ'.mu = γ.mu ∧ γ'.tk = γ.tk := by
  have hblt : ∀ {b o : Nat}, o < γ.im b → b < γ.w.heap.size := by
    intro b o h
    rcases Nat.lt_or_ge b γ.w.heap.size with h' | h'
    · exact h'
    · rw [hr.imz b h'] at h; omega
  have him' : ∀ b, γ.im b ≤ im' b := by
    intro b
    by_cases h : b < γ.w.heap.size
    · rw [hsame b h]; exact him.1 b
    · rw [hr.imz b (by omega)]; exact Nat.zero_le _
  have keep : ∀ l b, l ∉ B → (look hp l).isSome = true → γ.mu l = some b → im' b = γ.im b := by
    intro l b hl hs hm
    rw [hsame b ((hr.live l b hm).2)]
    refine him.2.2 b fun l' hl' hm' row hrow => ?_
    exact hl (hr.inj l l' b hs (by rw [hrow]; rfl) hm hm' ▸ hl')
  have hle : γ.le γ.nx { γ with w := w', im := im' } := by
    refine ⟨rfl, hb.mono bs, him', fun b h => ?_, fun b o h => cell_eq_of_heap (hb.block b (hblt h)), Nat.le_refl _, fun _ _ _ h => h, fun _ _ h => h, fun _ _ _ h => h, fun k b _ _ ha hm => ?_⟩
    · dsimp only
      rw [hsame b (by omega)]
      exact him.2.2 b fun l hl hm row hrow => by have := hB l hl b hm; omega
    · have ht := (hr.tok k).1 ha
      refine ⟨keep k b (fun h => hBb k h ht) (by rw [ht]; rfl) hm, fun c e hc => ⟨c, (hb.block b ((hr.live k b hm).2)).trans hc, rfl⟩⟩
  refine ⟨{ γ with w := w', im := im' }, rfl, hle, ⟨?_, ?_, ?_, ?_, hr.tkal, ?_, ?_, ?_, hr.gok.le hle⟩, rfl, rfl, rfl, rfl⟩
  · intro l row h
    rw [look_dels] at h
    split at h
    · cases h
    · rename_i hl
      exact hrel_keep hr hle l row h fun b hm => ⟨hb.block b ((hr.live l b hm).2), keep l b hl (by rw [h]; rfl) hm⟩
  · intro k
    rw [look_dels]
    split
    · rename_i hk
      constructor
      · intro ha; exact absurd ((hr.tok k).1 ha) (hBb k hk)
      · intro h; cases h
    · exact hr.tok k
  · intro l l' b h1 h2 h3 h4
    rw [look_dels] at h1 h2
    split at h1
    · cases h1
    split at h2
    · cases h2
    exact hr.inj l l' b h1 h2 h3 h4
  · intro l h
    have := hr.fresh l h
    refine ⟨this.1, ?_, this.2.2⟩
    rw [look_dels, this.2.1]; split <;> rfl
  · intro b h; exact hok b h
  · intro l b h; exact ⟨(hr.live l b h).1, Nat.lt_of_lt_of_le (hr.live l b h).2 hb.size⟩
  · intro l o h
    rw [look_dels] at h
    split at h
    · cases h
    · rename_i hl
      exact hrel_raw hr hle l o h fun b hm => ⟨hb.block b ((hr.live l b hm).2), keep l b hl (by rw [h]; rfl) hm⟩

/-- A call of a function whose result holds no memory. -/
theorem CallK.flat {P : Program} {g : FuncId} {as as' : List AV} {r : AV} {hp : List (Nat × Ob)} {nx : Nat} {K : AV → List (Nat × Ob) → Nat → Prop} (h : AFun P g as' r) (ha : as.map (frz hp) = as') (hf : flat r = true) (hk : K r hp nx) : CallK P g as hp nx K := by
  intro γ cargs hr hn bs hargs
  subst ha
  -- all boxes stay for the while of the call
  obtain ⟨im, him, hok⟩ := Im_exists hr (as.flatMap bor)
  have hx := h γ.w im cargs hok (RL_frz (γ' := Gh.start γ.w γ.w.heap.size im) hr rfl him hargs fun x hx l hl => List.mem_flatMap.2 ⟨x, hx, hl⟩)
  refine hx.mono ?_
  rintro v w' ⟨im', hb, hok', hsame, hR⟩
  have him0 : Im γ hp [] γ.im := ⟨fun _ => Nat.le_refl _, (fun l hl => by cases hl), fun _ _ => rfl⟩
  obtain ⟨γ', hw, hle, hh, hnx, _⟩ := call_ghost (B := []) (im' := fun b => if b < γ.w.heap.size then γ.im b else im' b) hr bs him0 hb
    (fun b h => by rw [if_neg (by have := hb.size; omega)]; exact hok'.1 b h) (fun b h => if_pos h) (fun l hl => by cases hl) (fun l hl => by cases hl)
  exact ⟨γ', r, hp, nx, hw, hle, hh, by rw [hnx, hn], flat_R _ _ hf hR, hk⟩

def isBox : Option Ob → Bool
  | some (.box _) => true
  | _ => false
/-- A call of a function whose result may hold memory: the boxes that it was lent are boxes no more. -/
theorem CallK.mem {P : Program} {g : FuncId} {as as' : List AV} {r : AV} {hp : List (Nat × Ob)} {nx : Nat} {K : AV → List (Nat × Ob) → Nat → Prop} (h : AFun P g as' r) (ha : as.map (frz hp) = as')
    (hbx : ∀ l ∈ as.flatMap bor, isBox (look hp l) = true) (hk : K r (dels hp (as.flatMap bor)) nx) : CallK P g as hp nx K := by
  intro γ cargs hr hn bs hargs
  subst ha
  obtain ⟨im, him, hok⟩ := Im_exists hr (as.flatMap bor)
  have hx := h γ.w im cargs hok (RL_frz (γ' := Gh.start γ.w γ.w.heap.size im) hr rfl him hargs fun x hx l hl => List.mem_flatMap.2 ⟨x, hx, hl⟩)
  refine hx.mono ?_
  rintro v w' ⟨im', hb, hok', hsame, hR⟩
  obtain ⟨γ', hw, hle, hh, hnx, him', _⟩ := call_ghost (B := as.flatMap bor) hr bs him hb hok'.1 hsame
    (fun l hl b hm => by
      have h2 := hbx l hl
      cases hlk : look hp l with
      | none => rw [hlk] at h2; cases h2
      | some o =>
        cases o with
        | tok => rw [hlk] at h2; cases h2
        | raw o => rw [hlk] at h2; cases h2
        | box row => obtain ⟨cur, e, h3, _⟩ := box_block hr hlk hm; exact h3) (fun l hl h => by have h2 := hbx l hl; rw [h] at h2; cases h2)
  refine ⟨γ', r, _, nx, hw, hle, hh, by rw [hnx, hn], R_np _ _ (R_im (γ := Gh.start w' w'.heap.size im') (by rw [hw]; rfl) (fun b => by rw [him']; exact Nat.le_refl _) _ _ hR), hk⟩

def frameOf : Nat → List AV → List (Nat × AV)
  | _, [] => []
  | k, x :: r => (k, x) :: frameOf (k + 1) r
theorem look_frameOf : ∀ (as : List AV) (k t : Nat) (x : AV), look (frameOf k as) t = some x → k ≤ t ∧ as[t - k]? = some x
  | [], k, t, x, h => by simp [frameOf, look] at h
  | a :: as, k, t, x, h => by
    simp only [frameOf] at h
    rw [look_cons] at h
    split at h
    · rename_i e; subst e; cases h; simp
    · rename_i e
      obtain ⟨h1, h2⟩ := look_frameOf as (k + 1) t x h
      refine ⟨by omega, ?_⟩
      rw [show t - k = (t - (k + 1)) + 1 from by omega]
      simpa using h2

/-- what a function's result variables read as -/
def resA (P : Program) (s : S) : List ResultVar → List AV
  | [] => []
  | .tmp t :: r => s.ev (.tmp t) :: resA P s r
  | .cell a t :: r => (match P.underlying t with | some d => loadA d (P.cellsOf t) (placeA s.hp (s.ev (.tmp a))) | none => .bad) :: resA P s r
def resOk (P : Program) (s : S) : List ResultVar → Prop
  | [] => True
  | .tmp _ :: r => resOk P s r
  | .cell a t :: r => (P.underlying t).isSome = true ∧ 0 < P.cellsOf t ∧ P.cellsOf t ≤ (placeA s.hp (s.ev (.tmp a))).length ∧ resOk P s r
def oneOr : List AV → AV
  | [x] => x
  | xs => .tup xs
def resSem (tmps : Array Value) : ResultVar → Sem Value
  | .tmp t => pure (tmps.getD t undef)
  | .cell a t => do loadVar t (← asAddr (tmps.getD a undef))
theorem results_eq (fn : Func) (tmps : Array Value) : results fn tmps = (do let vs ← fn.results.mapM (resSem tmps); pure (if h : vs.size = 1 then vs[0] else .tuple vs)) := by
  unfold results
  congr 1
theorem res_run {P : Program} {γ : Gh} {s : S} {a : Act} (hr : Rel γ s a) : ∀ (rs : List ResultVar), resOk P s rs → ∃ vs : List Value, RL γ false (resA P s rs) vs ∧
    (rs.mapM (resSem a.tmps)).run P γ.w = .ok vs γ.w
  | [], _ => ⟨[], by simp [resA, RL], by simp⟩
  | .tmp t :: rs, h => by
    obtain ⟨vs, h1, h2⟩ := res_run hr rs (by simpa [resOk] using h)
    refine ⟨a.tmps.getD t undef :: vs, by simp only [resA]; exact RL_cons (by have := hr.ev (.tmp t); simpa [Act.eval] using this) h1, ?_⟩
    simp only [List.mapM_cons, resSem, Sem.run_bind, Sem.run_pure, Result.andThen_ok, h2]
  | .cell x t :: rs, h => by
    simp only [resOk] at h
    obtain ⟨hd, hz, hl, hrest⟩ := h
    obtain ⟨vs, h1, h2⟩ := res_run hr rs hrest
    obtain ⟨d, hd⟩ := Option.isSome_iff_exists.mp hd
    obtain ⟨b, o, us, hy, hv, hu1, hc⟩ := place_read hr.hr (hr.ev (.tmp x)) (by omega)
    have hy' : a.tmps.getD x undef = .pointer (some ⟨b, o, none⟩) := by simpa [Act.eval] using hy
    refine ⟨_ :: vs, by simp only [resA, hd]; exact RL_cons (R_loadA hv hu1 d _ hz hl) h1, ?_⟩
    have hx : (resSem a.tmps (.cell x t)).run P γ.w = .ok (if aggD d then .agg (us.take (P.cellsOf t)).toArray else us.getD 0 undef) γ.w := by
      simp only [resSem, Sem.run_bind, hy', asAddr, Sem.run_pure, Result.andThen_ok, run_loadVar hd hz γ.w b o us (by rw [← RL_length hv]; exact hl) hc]
    simp only [List.mapM_cons, Sem.run_bind, Sem.run_pure, Result.andThen_ok, hx, h2]
theorem oneOr_R {γ : Gh} {xs : List AV} {vs : List Value} (h : RL γ false xs vs) : R γ false (oneOr xs) (if h : vs.toArray.size = 1 then vs.toArray[0] else .tuple vs.toArray) := by
  have hl := RL_length h
  match xs, vs, h, hl with
  | [], vs, h, hl =>
    have : vs = [] := List.eq_nil_of_length_eq_zero hl.symm
    subst this
    simp only [oneOr, R]
    exact ⟨[], by simp, h⟩
  | [x], [v], h, hl => simp only [RL] at h; obtain ⟨u, us, e, h1, h2⟩ := h; cases e; simpa [oneOr] using h1
  | [x], v :: v' :: r, h, hl => simp at hl
  | x :: y :: xs, [v], h, hl => simp at hl
  | x :: y :: xs, [], h, hl => simp at hl
  | x :: y :: xs, v :: v' :: r, h, hl =>
    simp only [oneOr, R]
    exact ⟨v :: v' :: r, by simp, h⟩
theorem results_run {P : Program} {fn : Func} {γ : Gh} {s : S} {a : Act} (hr : Rel γ s a) (h : resOk P s fn.results.toList) : ∃ v, (results fn a.tmps).run P γ.w = .ok v γ.w ∧ R γ false (oneOr (resA P s fn.results.toList)) v := by
  obtain ⟨vs, h1, h2⟩ := res_run (P := P) hr fn.results.toList h
  refine ⟨_, ?_, oneOr_R h1⟩
  rw [results_eq, Array.mapM_eq_mapM_toList]
  simp only [Sem.run_bind, Sem.run_map, Result.andThen_ok, h2]
  rfl

/-- How a body ends: what it has put off are marks of ranges over functions alone. -/
def finD (P : Program) (fn : Func) (K : AV → List (Nat × Ob) → Nat → Prop) (s : S) : List Nat → List (Nat × Ob) → Prop
  | [], hp => resOk P ⟨s.fr, s.sz, hp, s.nx, []⟩ fn.results.toList ∧ K (oneOr (resA P ⟨s.fr, s.sz, hp, s.nx, []⟩ fn.results.toList)) hp s.nx
  | k :: ks, hp => look hp k = some (.raw (.deferred (some []))) ∧ finD P fn K s ks (del hp k)
def fin (P : Program) (fn : Func) (K : AV → List (Nat × Ob) → Nat → Prop) (e : Exit) (s : S) : Prop := match e with
  | .normal | .ret => finD P fn K s s.df s.hp
  | _ => False

/-- what a call leaves -/
def Ends (γ0 : Gh) (K : AV → List (Nat × Ob) → Nat → Prop) (e : Ending) (w' : World) : Prop :=
  ∃ v, e = .returned v ∧ ∃ γ' x hp' nx', γ'.w = w' ∧ γ0.le γ0.nx γ' ∧ HRel γ' hp' ∧ γ'.nx = nx' ∧ R γ' false x v ∧ K x hp' nx'

theorem leaves_of {P : Program} {fn : Func} {K : AV → List (Nat × Ob) → Nat → Prop} {s : S} {tmps : Array Value} {γ0 : Gh} : ∀ (ks : List Nat) (ds : List Deferred) (hp : List (Nat × Ob)) (γ : Gh),
    γ0.le γ0.nx γ → DF γ ks ds → Rel γ ⟨s.fr, s.sz, hp, s.nx, []⟩ { tmps, defers := [] } → finD P fn K s ks hp → LeavesInM (FF none) 0 P fn tmps (Ends γ0 K) ds .returning γ.w
  | [], ds, hp, γ, hle, hd, hr, hf => by
    simp only [DF] at hd
    subst hd
    simp only [finD] at hf
    obtain ⟨h1, h2⟩ := hf
    obtain ⟨v, hv, hR⟩ := results_run hr h1
    exact ⟨v, hv, v, rfl, γ, _, _, _, rfl, hle, hr.hr, hr.nx, hR, h2⟩
  | k :: ks, ds, hp, γ, hle, hd, hr, hf => by
    simp only [DF] at hd
    obtain ⟨D, r, rfl, hk, hm, hd⟩ := hd
    simp only [finD] at hf
    obtain ⟨hl, hf⟩ := hf
    obtain ⟨b, g1, g2, g3, g4⟩ := hr.hr.raw k _ hl
    rw [hm] at g1; cases g1
    obtain ⟨γ1, hw1, hst, hmu1⟩ := ghost_put hr.hr hl hm (.deferred none)
    obtain ⟨γ2, hw2, hle2, hh2, hnx2, hmu2⟩ := hrel_del hst.hr k
    have hle12 : γ.le γ.nx γ2 := hst.le.trans (hle2.mono (by rw [hst.nx]; exact Nat.le_refl _))
    have hh : HRel γ2 (del hp k) := hh2.look fun l => by
      rw [look_del, look_del, look_rep _ _ _ _ (by rw [hl]; rfl)]
      split
      · rfl
      · rfl
    refine ⟨by simp, .inl ⟨D, γ2.w, rfl, ?_, leaves_of ks r (del hp k) γ2 (hle.trans (hle12.mono hle.nxl)) (DF_le hle12 hd) ?_ hf⟩⟩
    · rw [run_takeDeferred g3, hw2, hw1]
    · exact ⟨⟨fun t x h => R_le hle12 (hr.fr t x h), hr.sz, hh, rfl, by rw [hle12.base]; exact Nat.le_trans hr.bs hle12.below.size⟩, by rw [hnx2, hst.nx]; exact hr.nx⟩

/-- A function's body, entered. -/
theorem calls_enter {P : Program} {g : FuncId} {fn : Func} {c : Code} {as : List AV} {hp : List (Nat × Ob)} {nx : Nat} {K : AV → List (Nat × Ob) → Nat → Prop} (hf : P.funcs[g]? = some fn) (hb : fn.body = some c)
    (hn : as.length ≤ fn.ntmps) {γ : Gh} {cargs : List Value} (hr : HRel γ hp) (hnx : γ.nx = nx) (bs : γ.base ≤ γ.w.heap.size) (hargs : RL γ false as cargs)
    (h : AW P ⟨none, γ, nx⟩ c (Qof P ⟨none, γ, nx⟩ (fin P fn K) []) ⟨frameOf 0 as, fn.ntmps, hp, nx, []⟩) : Calls P g cargs.toArray γ.w (Ends γ K) := by
  refine callsIn_FF.1 (callsIn_of_wp_marks (F := FF none) (n := 0) hf hb trivial ?_ rfl)
  have hl := RL_length hargs
  have hrel : Rel γ ⟨frameOf 0 as, fn.ntmps, hp, nx, []⟩ { tmps := cargs.toArray ++ Array.replicate (fn.ntmps - cargs.toArray.size) undef, defers := [] } := by
    refine ⟨⟨fun t x hx => ?_, by simp; omega, hr, rfl, bs⟩, hnx⟩
    obtain ⟨_, h2⟩ := look_frameOf as 0 t x hx
    rw [Nat.sub_zero] at h2
    obtain ⟨y, hy, hR⟩ := RL_get hargs t x h2
    have : (cargs.toArray ++ Array.replicate (fn.ntmps - cargs.toArray.size) undef).getD t undef = y := by
      have hlt : t < cargs.length := (List.getElem?_eq_some_iff.1 hy).1
      rw [Array.getD_eq_getD_getElem?, Array.getElem?_append_left (by simpa using hlt)]
      simp [hy]
    rw [this]
    exact hR
  refine wpIn_mono (h γ _ (Gh.le.refl (by rw [hnx]; exact Nat.le_refl _)) hrel) ?_
  rintro e a' w' ⟨γ', s', rfl, hle, hr', hq⟩
  simp only [Qof, fin] at hq
  have hle' : γ.le γ.nx γ' := by rw [hnx]; exact hle
  have key : finD P fn K s' s'.df s'.hp → LeavesInM (FF none) 0 P fn a'.tmps (Ends γ K) a'.defers .returning γ'.w := fun h =>
    leaves_of s'.df a'.defers s'.hp γ' hle' hr'.df ⟨⟨hr'.fr, hr'.sz, hr'.hr, rfl, hr'.bs⟩, hr'.nx⟩ h
  cases e with
  | normal => exact key hq
  | ret => exact key hq
  | _ => exact hq.elim
/-- A call with what is known of memory, by the body. -/
theorem CallK.enter {P : Program} {g : FuncId} {fn : Func} {c : Code} {as : List AV} {hp : List (Nat × Ob)} {nx : Nat} {K : AV → List (Nat × Ob) → Nat → Prop} (hf : P.funcs[g]? = some fn) (hb : fn.body = some c)
    (hcall : ∀ (args : Array Value) (w : World), (callFunc g args).run P w = .ok (.enter g args) w) (hn : as.length ≤ fn.ntmps)
    (h : ∀ γ1, AW P ⟨none, γ1, nx⟩ c (Qof P ⟨none, γ1, nx⟩ (fin P fn K) []) ⟨frameOf 0 as, fn.ntmps, hp, nx, []⟩) : CallK P g as hp nx K :=
  fun γ cargs hr hnx bs hargs => .inl ⟨hcall _ _, calls_enter hf hb hn hr hnx bs hargs (h γ)⟩

/-- a result as the caller reads it -/
def frzR (hp : List (Nat × Ob)) : AV → AV
  | .tup cs => .tup (cs.map (frz hp))
  | x => frz hp x
def borR : AV → List Nat
  | .tup cs => cs.flatMap bor
  | x => bor x
theorem R_frzR {γ γ' : Gh} {hp : List (Nat × Ob)} (hr : HRel γ hp) (hw : γ'.w = γ.w) {B : List Nat} (him : Im γ hp B γ'.im) {x : AV} {y : Value} (h : R γ false x y) (hB : ∀ l ∈ borR x, l ∈ B) : R γ' true (frzR hp x) y := by
  cases x with
  | tup cs =>
    simp only [frzR, R] at h ⊢
    obtain ⟨vs, h1, h2⟩ := h
    exact ⟨vs, h1, RL_frz hr hw him h2 fun x hx l hl => hB l (List.mem_flatMap.2 ⟨x, hx, hl⟩)⟩
  | _ => exact R_frz hr hw him h hB

/-- what reads as the one reads as the other -/
def Wk (x r : AV) : Prop := ∀ (γ : Gh) (y : Value), R γ true x y → R γ true r y
theorem Wk.refl (x : AV) : Wk x x := fun _ _ h => h
theorem Wk.of_eq {x r : AV} (h : x = r) : Wk x r := h ▸ Wk.refl x
theorem Wk.nil {z : Nat} {cs : List AV} {n : Nat} (hn : n = 0) (hc : cs = []) : Wk (.v (.slice none 0 0)) (.sl z cs n none) := by
  subst hn; subst hc
  intro γ y h
  simp only [R] at h ⊢
  exact ⟨none, 0, h, Nat.le_refl _, Nat.zero_le _, by simp, by simp, .inl trivial, fun k e => by cases e⟩
def WkL : List AV → List AV → Prop
  | [], [] => True
  | x :: xs, r :: rs => Wk x r ∧ WkL xs rs
  | _, _ => False
theorem WkL_RL {γ : Gh} : ∀ {xs rs : List AV} {ys : List Value}, WkL xs rs → RL γ true xs ys → RL γ true rs ys
  | [], [], _, _, h => h
  | x :: xs, r :: rs, _, hw, h => by
    simp only [RL] at h ⊢
    obtain ⟨u, us, h1, h2, h3⟩ := h
    exact ⟨u, us, h1, hw.1 _ _ h2, WkL_RL hw.2 h3⟩
theorem Wk.tup {xs rs : List AV} (h : WkL xs rs) : Wk (.tup xs) (.tup rs) := by
  intro γ y hR
  simp only [R] at hR ⊢
  obtain ⟨vs, h1, h2⟩ := hR
  exact ⟨vs, h1, WkL_RL h h2⟩
/-- A contract, from a body. -/
theorem AFun.enterW {P : Program} {g : FuncId} {fn : Func} {c : Code} {as : List AV} {r : AV} (hf : P.funcs[g]? = some fn) (hb : fn.body = some c)
    (hcall : ∀ (args : Array Value) (w : World), (callFunc g args).run P w = .ok (.enter g args) w) (hn : as.length ≤ fn.ntmps)
    (h : ∀ γ1, AW P ⟨none, γ1, 0⟩ c (Qof P ⟨none, γ1, 0⟩ (fin P fn fun x hp _ => Wk (frzR hp x) r) []) ⟨frameOf 0 as, fn.ntmps, [], 0, []⟩) : AFun P g as r := by
  intro w im cargs hok hargs
  have hr : HRel (Gh.start w w.heap.size im) [] := by
    exact ⟨(fun l row h => by cases h), (fun k => by simp [Gh.start, look]), (fun l l' b h => by cases h), (fun l _ => ⟨rfl, rfl, rfl⟩), (fun k h => by cases h), hok.1, (fun l b h => by cases h), (fun l o h => by cases h), hok.2⟩
  have := CallK.enter hf hb hcall hn h (Gh.start w w.heap.size im) cargs hr rfl (Nat.le_refl _) (RL_np _ _ hargs)
  refine this.mono ?_
  rintro v w' ⟨γ', x, hp', nx', rfl, hle, hh, hnx, hR, hx⟩
  obtain ⟨im2, him2, hok2⟩ := Im_exists hh (borR x)
  have hR2 := R_frzR (γ' := Gh.start γ'.w γ'.w.heap.size im2) hh rfl him2 hR (fun l hl => hl)
  replace hR2 := hx _ _ hR2
  refine ⟨im2, hle.below, hok2, fun b hb => ?_, hR2⟩
  have h1 : γ'.im b = im b := hle.imo b hb
  rw [← h1]
  refine him2.2.2 b fun l hl hm row hrow => ?_
  obtain ⟨cur, e, h3, _⟩ := box_block hh hrow hm
  rw [hle.base] at h3
  simp only [Gh.start] at h3
  omega

theorem AFun.enter {P : Program} {g : FuncId} {fn : Func} {c : Code} {as : List AV} {r : AV} (hf : P.funcs[g]? = some fn) (hb : fn.body = some c)
    (hcall : ∀ (args : Array Value) (w : World), (callFunc g args).run P w = .ok (.enter g args) w) (hn : as.length ≤ fn.ntmps)
    (h : ∀ γ1, AW P ⟨none, γ1, 0⟩ c (Qof P ⟨none, γ1, 0⟩ (fin P fn fun x hp _ => frzR hp x = r) []) ⟨frameOf 0 as, fn.ntmps, [], 0, []⟩) : AFun P g as r := by
  refine AFun.enterW hf hb hcall hn fun γ1 => (h γ1).mono ?_
  have key : ∀ (ks : List Nat) (s : S) (hp : List (Nat × Ob)), finD P fn (fun x hp _ => frzR hp x = r) s ks hp → finD P fn (fun x hp _ => Wk (frzR hp x) r) s ks hp := by
    intro ks
    induction ks with
    | nil => intro s hp h; exact ⟨h.1, Wk.of_eq h.2⟩
    | cons k ks ih => intro s hp h; exact ⟨h.1, ih s _ h.2⟩
  intro e s hq
  simp only [Qof, fin] at hq ⊢
  cases e with
  | normal => exact key _ _ _ hq
  | ret => exact key _ _ _ hq
  | _ => exact hq.elim

end Go.Eng

namespace Go.Eng
set_option linter.unusedSimpArgs false
set_option linter.unusedVariables false
open Go Go.RowKit

attribute [go_sem] ev1 boxO S.o S.set Out.to S.fix look_nil look_cons Option.getD cond oneA cellsA dstOk gbool callee GS_tt GS_ff GS_tf GS_ft pickA pickOk Qof_code Qof_code_ret Qof_code_exit Qof_blk Qof_blk_ret Qof_blk_exit Qof_lp_ret Qof_lp_exit Qof_nil
  frameOf loadO loadA placeA rowOf aggD storeO rep del fieldAddrO fieldO indexAddrO indexO extractO makeFuncO lenO sliceO bndO bndA srcA srcOk un appendO makeO buildO buildSliceO copyO convO convM nilCheckO unO partsA cellsP fillA fillOk dels
attribute [go_sem] true_and and_true if_true if_false List.map_cons List.map_nil List.getElem?_cons_zero List.getElem?_cons_succ List.length_cons List.length_nil Nat.blt_eq

def cst (x : Value) : AV := match x with
  | .int .u8 n => if 0 ≤ n ∧ n < 256 then u8 (UInt8.ofNat n.toNat) else .v (.int .u8 n)
  | .int .u32 n => if 0 ≤ n ∧ n < 4294967296 then u32 (UInt32.ofNat n.toNat) else .v (.int .u32 n)
  | x => .v x
theorem cst_eq (x : Value) : cst x = .v x := by
  unfold cst
  split
  · split
    · rename_i h; simp only [u8, UInt8.toNat_ofNat']; congr 2; omega
    · rfl
  · split
    · rename_i h; simp only [u32, UInt32.toNat_ofNat']; congr 2; omega
    · rfl
  · rfl
section
variable (s : S) (t : Nat) (x : Value) (n : Int) (f : FuncId)
@[go_sem] theorem ev_tmp : s.ev (.tmp t) = (look s.fr t).getD .bad := rfl
@[go_sem] theorem ev_func : s.ev (.func f) = .v (.func (.func f) #[] #[]) := rfl
@[go_sem] theorem ev_const : s.ev (.const x) = cst x := (cst_eq x).symm
@[go_sem] theorem cst_u8 : cst (.int .u8 n) = if 0 ≤ n ∧ n < 256 then u8 (UInt8.ofNat n.toNat) else .v (.int .u8 n) := rfl
@[go_sem] theorem cst_u32 : cst (.int .u32 n) = if 0 ≤ n ∧ n < 4294967296 then u32 (UInt32.ofNat n.toNat) else .v (.int .u32 n) := rfl
@[go_sem] theorem cst_i64 : cst (.int .i64 n) = int n := rfl
@[go_sem] theorem cst_u64 : cst (.int .u64 n) = .v (.int .u64 n) := rfl
@[go_sem] theorem cst_u16 : cst (.int .u16 n) = .v (.int .u16 n) := rfl
@[go_sem] theorem cst_bool (b : Bool) : cst (.bool b) = boo b := rfl
@[go_sem] theorem cst_str (b : ByteArray) : cst (.string b) = .v (.string b) := rfl
@[go_sem] theorem cst_slice (a : Option Addr) (n c : Nat) : cst (.slice a n c) = .v (.slice a n c) := rfl
@[go_sem] theorem cst_func (f : Fn) (a b : Array Value) : cst (.func f a b) = .v (.func f a b) := rfl
@[go_sem] theorem cst_nilFunc : cst .nilFunc = .v .nilFunc := rfl
@[go_sem] theorem cst_pointer (a : Option Addr) : cst (.pointer a) = .v (.pointer a) := rfl
@[go_sem] theorem cst_nilIface : cst .nilIface = .v .nilIface := rfl
end
section
variable (hp : List (Nat × Ob)) (z n id off : Nat) (cs fs : List AV) (k : Option Nat) (x : Value) (f : Fn)
@[go_sem] theorem frz_sl : frz hp (.sl z cs n k) = .sl z cs n none := rfl
@[go_sem] theorem frz_v : frz hp (.v x) = .v x := rfl
@[go_sem] theorem frz_ptr : frz hp (.ptr cs) = .ptr cs := rfl
@[go_sem] theorem frz_agg : frz hp (.agg cs) = .agg (cs.map dt) := rfl
@[go_sem] theorem frz_bsl : frz hp (.bsl z id off n) = if 0 < n * z ∧ off + n * z ≤ (rowOf hp id).length then .sl z ((((rowOf hp id).drop off).take (n * z)).map dt) n none else .bad := rfl
@[go_sem] theorem frz_loc : frz hp (.loc id off) = if off < (rowOf hp id).length then .ptr (((rowOf hp id).drop off).map dt) else .bad := rfl
@[go_sem] theorem frz_bad : frz hp .bad = .bad := rfl
@[go_sem] theorem frzR_tup : frzR hp (.tup cs) = .tup (cs.map (frz hp)) := rfl
@[go_sem] theorem frzR_sl : frzR hp (.sl z cs n k) = .sl z cs n none := rfl
@[go_sem] theorem frzR_v : frzR hp (.v x) = .v x := rfl
@[go_sem] theorem frzR_ptr : frzR hp (.ptr cs) = .ptr cs := rfl
@[go_sem] theorem frzR_agg : frzR hp (.agg cs) = .agg (cs.map dt) := rfl
@[go_sem] theorem frz_csl {c : Nat} : frz hp (.csl z id off n c) = if 0 < n * z ∧ off + n * z ≤ (rowOf hp id).length then .sl z ((((rowOf hp id).drop off).take (n * z)).map dt) n none else .bad := rfl
@[go_sem] theorem frzR_csl {c : Nat} : frzR hp (.csl z id off n c) = frz hp (.csl z id off n c) := rfl
@[go_sem] theorem frzR_bsl : frzR hp (.bsl z id off n) = frz hp (.bsl z id off n) := rfl
@[go_sem] theorem frzR_loc : frzR hp (.loc id off) = frz hp (.loc id off) := rfl
@[go_sem] theorem dt_v : dt (.v x) = .v x := rfl
@[go_sem] theorem dt_sl : dt (.sl z cs n k) = .sl z cs n none := rfl
@[go_sem] theorem dt_ptr : dt (.ptr cs) = .ptr cs := rfl
@[go_sem] theorem bor_sl : bor (.sl z cs n k) = [] := rfl
@[go_sem] theorem bor_v : bor (.v x) = [] := rfl
@[go_sem] theorem bor_ptr : bor (.ptr cs) = [] := rfl
@[go_sem] theorem bor_agg : bor (.agg cs) = [] := rfl
@[go_sem] theorem bor_loc : bor (.loc id off) = [id] := rfl
@[go_sem] theorem bor_csl {c : Nat} : bor (.csl z id off n c) = [id] := rfl
@[go_sem] theorem bor_bsl : bor (.bsl z id off n) = [id] := rfl
end
section
variable (P : Program) (fn : Func) (K : AV → List (Nat × Ob) → Nat → Prop) (s : S)
@[go_sem] theorem gl_loc {id off : Nat} : gl (.loc id off) = .loc id off := rfl
@[go_sem] theorem gl_csl {z id off n c : Nat} : gl (.csl z id off n c) = .csl z id off n c := rfl
@[go_sem] theorem gl_bsl {z id off n : Nat} : gl (.bsl z id off n) = .bsl z id off n := rfl
@[go_sem] theorem gl_ptr {cs : List AV} : gl (.ptr cs) = .ptr cs := rfl
@[go_sem] theorem gl_sl {z n : Nat} {cs : List AV} {k : Option Nat} : gl (.sl z cs n k) = .sl z cs n k := rfl
@[go_sem] theorem gl_agg {cs : List AV} : gl (.agg cs) = .agg cs := rfl
@[go_sem] theorem gl_nilS : gl nilS = nilS := rfl
theorem gl_glob {g : Nat} {cs : List AV} (h : gtab g = some cs) : gl (.v (.pointer (some ⟨g, 0, none⟩))) = .ptr cs := by simp only [gl, h]
@[go_sem] theorem fin_ret : fin P fn K .ret s = finD P fn K s s.df s.hp := rfl
@[go_sem] theorem fin_normal : fin P fn K .normal s = finD P fn K s s.df s.hp := rfl
end
section
variable (P : Program) (t : TypeId) (a b : Int)
@[go_sem] theorem bin_add_int : binO P t .add (int a) (int b) = (inI (a + b), int (a + b)) := by simp [binO]
@[go_sem] theorem bin_sub_int : binO P t .sub (int a) (int b) = (inI (a - b), int (a - b)) := by simp [binO]
@[go_sem] theorem bin_mul_int : binO P t .mul (int a) (int b) = (inI (a * b), int (a * b)) := by simp [binO]
@[go_sem] theorem bin_quo_int : binO P t .quo (int a) (int b) = (b ≠ 0, int (IntKind.i64.wrap (a.tdiv b))) := by simp [binO]
@[go_sem] theorem bin_rem_int : binO P t .rem (int a) (int b) = (b ≠ 0, int (a.tmod b)) := by simp [binO]
variable (k k' : IntKind)
@[go_sem] theorem bin_eql : binO P t .eql (.v (.int k a)) (.v (.int k' b)) = (k' = k, boo (decide (a = b))) := rfl
@[go_sem] theorem bin_neq : binO P t .neq (.v (.int k a)) (.v (.int k' b)) = (k' = k, boo (decide (a ≠ b))) := rfl
@[go_sem] theorem bin_lss : binO P t .lss (.v (.int k a)) (.v (.int k' b)) = (k' = k, boo (decide (a < b))) := rfl
@[go_sem] theorem bin_leq : binO P t .leq (.v (.int k a)) (.v (.int k' b)) = (k' = k, boo (decide (a ≤ b))) := rfl
@[go_sem] theorem bin_gtr : binO P t .gtr (.v (.int k a)) (.v (.int k' b)) = (k' = k, boo (decide (b < a))) := rfl
@[go_sem] theorem bin_geq : binO P t .geq (.v (.int k a)) (.v (.int k' b)) = (k' = k, boo (decide (b ≤ a))) := rfl
theorem bin_shr : binO P t .shr (.v (.int k a)) (.v (.int k' b)) = (0 ≤ b, .v (.int k (a.fdiv (2 ^ (min b.toNat k.bits))))) := rfl
theorem bin_shl : binO P t .shl (.v (.int k a)) (.v (.int k' b)) = (0 ≤ b, .v (.int k (k.wrap (a * 2 ^ (min b.toNat k.bits))))) := rfl
@[go_sem] theorem bin_shl_int : binO P t .shl (int a) (.v (.int k' b)) = (0 ≤ b, int (IntKind.i64.wrap (a * 2 ^ (min b.toNat 64)))) := rfl
@[go_sem] theorem bin_shr_int : binO P t .shr (int a) (.v (.int k' b)) = (0 ≤ b, int (a.fdiv (2 ^ (min b.toNat 64)))) := rfl
@[go_sem] theorem bin_and_int : binO P t .and (int a) (int b) = (True, int (bits .and .i64 a b)) := by simp [binO]
variable (p q : Bool)
@[go_sem] theorem bin_eql_bool : binO P t .eql (boo p) (boo q) = (P.underlying t = some .bool, boo (p == q)) := rfl
@[go_sem] theorem bin_neq_bool : binO P t .neq (boo p) (boo q) = (P.underlying t = some .bool, boo (p != q)) := rfl
@[go_sem] theorem bin_eql_str (x y : ByteArray) : binO P t .eql (.v (.string x)) (.v (.string y)) = (True, boo (decide (x.data.toList = y.data.toList))) := rfl
@[go_sem] theorem bin_neq_str (x y : ByteArray) : binO P t .neq (.v (.string x)) (.v (.string y)) = (True, boo (decide (x.data.toList ≠ y.data.toList))) := rfl
@[go_sem] theorem bin_add_str (x y : ByteArray) : binO P t .add (.v (.string x)) (.v (.string y)) = (x.size + y.size ≤ 9223372036854775807, .v (.string (x ++ y))) := rfl
end

def shr8 (x : UInt8) (n : Nat) : UInt8 := ⟨x.toBitVec >>> n⟩
def shl8 (x : UInt8) (n : Nat) : UInt8 := ⟨x.toBitVec <<< n⟩
def shr32 (x : UInt32) (n : Nat) : UInt32 := ⟨x.toBitVec >>> n⟩
def shl32 (x : UInt32) (n : Nat) : UInt32 := ⟨x.toBitVec <<< n⟩
def shr64 (x : UInt64) (n : Nat) : UInt64 := ⟨x.toBitVec >>> n⟩
def shl64 (x : UInt64) (n : Nat) : UInt64 := ⟨x.toBitVec <<< n⟩

theorem wrap_u (k : IntKind) (hk : k.signed = false) (n : Nat) : k.wrap (n : Int) = ((n % 2 ^ k.bits : Nat) : Int) := by
  unfold IntKind.wrap
  simp [hk]
theorem ofInt_nat (w : Nat) (n : Nat) : (BitVec.ofInt w (n : Int)) = BitVec.ofNat w n := BitVec.ofInt_natCast w n
theorem fdiv_pow (x n : Nat) (m : Nat) (h : x < 2 ^ m) : ((x : Int).fdiv (2 ^ (min n m))) = ((x >>> n : Nat) : Int) := by
  rw [Int.fdiv_eq_ediv_of_nonneg _ (Int.pow_nonneg (by decide)), Nat.shiftRight_eq_div_pow]
  by_cases hn : n ≤ m
  · rw [Nat.min_eq_left hn]; push_cast; rfl
  · rw [Nat.min_eq_right (by omega)]
    have h1 : x / 2 ^ n = 0 := Nat.div_eq_of_lt (Nat.lt_of_lt_of_le h (Nat.pow_le_pow_right (by decide) (by omega)))
    have h2 : x / 2 ^ m = 0 := Nat.div_eq_of_lt h
    rw [h1]
    have : ((x : Int) / 2 ^ m) = ((x / 2 ^ m : Nat) : Int) := by push_cast; rfl
    rw [this, h2]

section
variable (P : Program) (t : TypeId)
theorem u32_add (a b : UInt32) : IntKind.u32.wrap ((a.toNat : Int) + b.toNat) = ((a + b).toNat : Int) := by
  rw [← Int.natCast_add, wrap_u _ rfl, UInt32.toNat_add]; rfl
theorem u64_add (a b : UInt64) : IntKind.u64.wrap ((a.toNat : Int) + b.toNat) = ((a + b).toNat : Int) := by
  rw [← Int.natCast_add, wrap_u _ rfl, UInt64.toNat_add]; rfl
theorem u64_mul (a b : UInt64) : IntKind.u64.wrap ((a.toNat : Int) * b.toNat) = ((a * b).toNat : Int) := by
  rw [← Int.natCast_mul, wrap_u _ rfl, UInt64.toNat_mul]; rfl
theorem u64_sub (a b : UInt64) : IntKind.u64.wrap ((a.toNat : Int) - b.toNat) = ((a - b).toNat : Int) := by
  have ha := a.toNat_lt; have hb := b.toNat_lt
  rw [UInt64.toNat_sub]
  unfold IntKind.wrap
  simp only [IntKind.signed, IntKind.bits, Bool.false_and, Bool.false_eq_true, if_false]
  omega
@[go_sem] theorem bin_add_u32 (a b : UInt32) : binO P t .add (u32 a) (u32 b) = (True, u32 (a + b)) := by simp [binO, u32_add]
@[go_sem] theorem bin_add_u64 (a b : UInt64) : binO P t .add (u64 a) (u64 b) = (True, u64 (a + b)) := by simp [binO, u64_add]
@[go_sem] theorem bin_mul_u64 (a b : UInt64) : binO P t .mul (u64 a) (u64 b) = (True, u64 (a * b)) := by simp [binO, u64_mul]
@[go_sem] theorem bin_sub_u64 (a b : UInt64) : binO P t .sub (u64 a) (u64 b) = (True, u64 (a - b)) := by simp [binO, u64_sub]
theorem bits8 (op : BinOp) (a b : UInt8) : bits op .u8 (a.toNat : Int) (b.toNat : Int) = ((match op with | .and => a &&& b | .or => a ||| b | .xor => a ^^^ b | _ => a &&& ~~~b).toNat : Int) := by
  unfold bits
  simp only [IntKind.bits, ofInt_nat]
  have ha : BitVec.ofNat 8 a.toNat = a.toBitVec := BitVec.ofNat_toNat _ _ |>.trans (by simp)
  have hb : BitVec.ofNat 8 b.toNat = b.toBitVec := BitVec.ofNat_toNat _ _ |>.trans (by simp)
  rw [ha, hb]
  cases op <;> simp only [wrap_u .u8 rfl, IntKind.bits] <;> congr 1 <;> exact Nat.mod_eq_of_lt (BitVec.isLt _)
theorem bits32 (op : BinOp) (a b : UInt32) : bits op .u32 (a.toNat : Int) (b.toNat : Int) = ((match op with | .and => a &&& b | .or => a ||| b | .xor => a ^^^ b | _ => a &&& ~~~b).toNat : Int) := by
  unfold bits
  simp only [IntKind.bits, ofInt_nat]
  have ha : BitVec.ofNat 32 a.toNat = a.toBitVec := BitVec.ofNat_toNat _ _ |>.trans (by simp)
  have hb : BitVec.ofNat 32 b.toNat = b.toBitVec := BitVec.ofNat_toNat _ _ |>.trans (by simp)
  rw [ha, hb]
  cases op <;> simp only [wrap_u .u32 rfl, IntKind.bits] <;> congr 1 <;> exact Nat.mod_eq_of_lt (BitVec.isLt _)
theorem bits64 (op : BinOp) (a b : UInt64) : bits op .u64 (a.toNat : Int) (b.toNat : Int) = ((match op with | .and => a &&& b | .or => a ||| b | .xor => a ^^^ b | _ => a &&& ~~~b).toNat : Int) := by
  unfold bits
  simp only [IntKind.bits, ofInt_nat]
  have ha : BitVec.ofNat 64 a.toNat = a.toBitVec := BitVec.ofNat_toNat _ _ |>.trans (by simp)
  have hb : BitVec.ofNat 64 b.toNat = b.toBitVec := BitVec.ofNat_toNat _ _ |>.trans (by simp)
  rw [ha, hb]
  cases op <;> simp only [wrap_u .u64 rfl, IntKind.bits] <;> congr 1 <;> exact Nat.mod_eq_of_lt (BitVec.isLt _)
@[go_sem] theorem bin_and_u8 (a b : UInt8) : binO P t .and (u8 a) (u8 b) = (True, u8 (a &&& b)) := by simp [binO, bits8]
@[go_sem] theorem bin_or_u8 (a b : UInt8) : binO P t .or (u8 a) (u8 b) = (True, u8 (a ||| b)) := by simp [binO, bits8]
@[go_sem] theorem bin_xor_u8 (a b : UInt8) : binO P t .xor (u8 a) (u8 b) = (True, u8 (a ^^^ b)) := by simp [binO, bits8]
@[go_sem] theorem bin_and_u32 (a b : UInt32) : binO P t .and (u32 a) (u32 b) = (True, u32 (a &&& b)) := by simp [binO, bits32]
@[go_sem] theorem bin_or_u32 (a b : UInt32) : binO P t .or (u32 a) (u32 b) = (True, u32 (a ||| b)) := by simp [binO, bits32]
@[go_sem] theorem bin_xor_u32 (a b : UInt32) : binO P t .xor (u32 a) (u32 b) = (True, u32 (a ^^^ b)) := by simp [binO, bits32]
@[go_sem] theorem bin_and_u64 (a b : UInt64) : binO P t .and (u64 a) (u64 b) = (True, u64 (a &&& b)) := by simp [binO, bits64]
@[go_sem] theorem bin_or_u64 (a b : UInt64) : binO P t .or (u64 a) (u64 b) = (True, u64 (a ||| b)) := by simp [binO, bits64]
@[go_sem] theorem bin_xor_u64 (a b : UInt64) : binO P t .xor (u64 a) (u64 b) = (True, u64 (a ^^^ b)) := by simp [binO, bits64]
theorem shr8_eq (a : UInt8) (n : Nat) : ((a.toNat : Int).fdiv (2 ^ (min n IntKind.u8.bits))) = ((shr8 a n).toNat : Int) := by
  rw [show IntKind.u8.bits = 8 from rfl, fdiv_pow _ _ _ a.toNat_lt]; rfl
theorem shr32_eq (a : UInt32) (n : Nat) : ((a.toNat : Int).fdiv (2 ^ (min n IntKind.u32.bits))) = ((shr32 a n).toNat : Int) := by
  rw [show IntKind.u32.bits = 32 from rfl, fdiv_pow _ _ _ a.toNat_lt]; rfl
theorem shr64_eq (a : UInt64) (n : Nat) : ((a.toNat : Int).fdiv (2 ^ (min n IntKind.u64.bits))) = ((shr64 a n).toNat : Int) := by
  rw [show IntKind.u64.bits = 64 from rfl, fdiv_pow _ _ _ a.toNat_lt]; rfl
theorem mod_mul_pow_min (x n m : Nat) : (x * 2 ^ (min n m)) % 2 ^ m = (x <<< n) % 2 ^ m := by
  rw [Nat.shiftLeft_eq]
  by_cases h : n ≤ m
  · rw [Nat.min_eq_left h]
  · rw [Nat.min_eq_right (by omega), Nat.mul_mod_left]
    have : x * 2 ^ n = x * 2 ^ (n - m) * 2 ^ m := by rw [Nat.mul_assoc, ← Nat.pow_add]; congr 2; omega
    rw [this, Nat.mul_mod_left]
theorem shl8_eq (a : UInt8) (n : Nat) : IntKind.u8.wrap ((a.toNat : Int) * 2 ^ (min n IntKind.u8.bits)) = ((shl8 a n).toNat : Int) := by
  have : ((a.toNat : Int) * 2 ^ (min n IntKind.u8.bits)) = ((a.toNat * 2 ^ (min n IntKind.u8.bits) : Nat) : Int) := by push_cast; rfl
  rw [this, wrap_u _ rfl, show IntKind.u8.bits = 8 from rfl, mod_mul_pow_min]
  show _ = (((a.toBitVec <<< n).toNat : Nat) : Int)
  rw [BitVec.toNat_shiftLeft]
  rfl
theorem shl32_eq (a : UInt32) (n : Nat) : IntKind.u32.wrap ((a.toNat : Int) * 2 ^ (min n IntKind.u32.bits)) = ((shl32 a n).toNat : Int) := by
  have : ((a.toNat : Int) * 2 ^ (min n IntKind.u32.bits)) = ((a.toNat * 2 ^ (min n IntKind.u32.bits) : Nat) : Int) := by push_cast; rfl
  rw [this, wrap_u _ rfl, show IntKind.u32.bits = 32 from rfl, mod_mul_pow_min]
  show _ = (((a.toBitVec <<< n).toNat : Nat) : Int)
  rw [BitVec.toNat_shiftLeft]
  rfl
theorem shl64_eq (a : UInt64) (n : Nat) : IntKind.u64.wrap ((a.toNat : Int) * 2 ^ (min n IntKind.u64.bits)) = ((shl64 a n).toNat : Int) := by
  have : ((a.toNat : Int) * 2 ^ (min n IntKind.u64.bits)) = ((a.toNat * 2 ^ (min n IntKind.u64.bits) : Nat) : Int) := by push_cast; rfl
  rw [this, wrap_u _ rfl, show IntKind.u64.bits = 64 from rfl, mod_mul_pow_min]
  show _ = (((a.toBitVec <<< n).toNat : Nat) : Int)
  rw [BitVec.toNat_shiftLeft]
  rfl
variable (k' : IntKind) (b : Int)
@[go_sem] theorem bin_shr_u8 (a : UInt8) : binO P t .shr (u8 a) (.v (.int k' b)) = (0 ≤ b, u8 (shr8 a b.toNat)) := by rw [bin_shr, shr8_eq]
@[go_sem] theorem bin_shr_u32 (a : UInt32) : binO P t .shr (u32 a) (.v (.int k' b)) = (0 ≤ b, u32 (shr32 a b.toNat)) := by rw [bin_shr, shr32_eq]
@[go_sem] theorem bin_shr_u64 (a : UInt64) : binO P t .shr (u64 a) (.v (.int k' b)) = (0 ≤ b, u64 (shr64 a b.toNat)) := by rw [bin_shr, shr64_eq]
@[go_sem] theorem bin_shl_u8 (a : UInt8) : binO P t .shl (u8 a) (.v (.int k' b)) = (0 ≤ b, u8 (shl8 a b.toNat)) := by rw [bin_shl, shl8_eq]
@[go_sem] theorem bin_shl_u32 (a : UInt32) : binO P t .shl (u32 a) (.v (.int k' b)) = (0 ≤ b, u32 (shl32 a b.toNat)) := by rw [bin_shl, shl32_eq]
@[go_sem] theorem bin_shl_u64 (a : UInt64) : binO P t .shl (u64 a) (.v (.int k' b)) = (0 ≤ b, u64 (shl64 a b.toNat)) := by rw [bin_shl, shl64_eq]
end
end Go.Eng

namespace Go.Eng
set_option linter.unusedSimpArgs false
set_option linter.unusedVariables false
open Go Go.RowKit

theorem ev1_congr (P : Program) {s1 s2 : S} (op : Op) (h : ∀ x ∈ op.operands, s1.ev x = s2.ev x) (hh : s1.hp = s2.hp) (hn : s1.nx = s2.nx) : ev1 P s1 op = ev1 P s2 op := by
  obtain ⟨f1, z1, hp1, nx1, d1⟩ := s1
  obtain ⟨f2, z2, hp2, nx2, d2⟩ := s2
  dsimp only at hh hn
  subst hh; subst hn
  have hob : ∀ (x : Option Operand) (d : Int), (∀ y, x = some y → S.ev ⟨f1, z1, hp1, nx1, d1⟩ y = S.ev ⟨f2, z2, hp1, nx1, d2⟩ y) → bndO ⟨f1, z1, hp1, nx1, d1⟩ x d = bndO ⟨f2, z2, hp1, nx1, d2⟩ x d := by
    intro x d hx
    cases x with
    | none => rfl
    | some y => simp only [bndO, hx y rfl]
  have hpa : ∀ ps : Array (Nat × Operand), (∀ x ∈ ps.toList.map (·.2), S.ev ⟨f1, z1, hp1, nx1, d1⟩ x = S.ev ⟨f2, z2, hp1, nx1, d2⟩ x) → partsA ⟨f1, z1, hp1, nx1, d1⟩ ps = partsA ⟨f2, z2, hp1, nx1, d2⟩ ps := by
    intro ps hx
    unfold partsA
    refine List.map_congr_left fun p hp => ?_
    rw [hx p.2 (List.mem_map.2 ⟨p, hp, rfl⟩)]
  cases op <;> simp only [Op.operands] at h <;> simp only [ev1]
  case build t ps => rw [hpa ps fun x hx => h x (by simpa using hx)]; rfl
  case buildSlice t n ps => rw [hpa ps fun x hx => h x (by simpa using hx)]; rfl
  case makeFunc f fs cs =>
    rw [List.map_congr_left (l := fs.toList) fun x hx => h x (by simp at hx; simp [hx]), List.map_congr_left (l := cs.toList) fun x hx => h x (by simp at hx; simp [hx])]
    rfl
  case makeSlice t l c => unfold makeO; rw [h l (by simp), h c (by simp)]; cases l <;> rfl
  case slice t x lo hi mx =>
    rw [h x (by simp)]
    unfold sliceO
    have e1 : ∀ d, bndO ⟨f1, z1, hp1, nx1, d1⟩ lo d = bndO ⟨f2, z2, hp1, nx1, d2⟩ lo d := fun d => hob lo d fun y hy => h y (by subst hy; simp)
    have e2 : ∀ d, bndO ⟨f1, z1, hp1, nx1, d1⟩ hi d = bndO ⟨f2, z2, hp1, nx1, d2⟩ hi d := fun d => hob hi d fun y hy => h y (by subst hy; simp)
    simp only [e1, e2]
    rfl
  case call c =>
    obtain ⟨cal, args, ts⟩ := c
    simp only [Call.operands] at h
    have harg : ∀ x ∈ args.toList, S.ev ⟨f1, z1, hp1, nx1, d1⟩ x = S.ev ⟨f2, z2, hp1, nx1, d2⟩ x := fun x hx => h x (by simp at hx; simp [hx])
    cases cal with
    | value f => rfl
    | invoke r m => rfl
    | builtin b =>
      cases b
      case len =>
        simp only [ev1]
        split
        · rename_i e1 e2; simp only [e1] at harg; rw [harg _ (by simp)]; rfl
        · rfl
      case append =>
        simp only [ev1]
        split
        · rename_i e1 e2; simp only [e1] at harg; rw [harg _ (by simp), harg _ (List.mem_cons_of_mem _ (by simp))]; rfl
        · rfl
      case copy =>
        simp only [ev1]
        split
        · rename_i e1 e2; simp only [e1] at harg; rw [harg _ (by simp), harg _ (List.mem_cons_of_mem _ (by simp))]; rfl
        · rfl
      all_goals rfl
  case move x => rw [h x (by simp)]; rfl
  case assign x => rw [h x (by simp)]; rfl
  case pick c x y => rw [h c (by simp), h x (by simp), h y (by simp)]; rfl
  case box t x => rw [h x (by simp)]; rfl
  case load t x => rw [h x (by simp)]; rfl
  case store t x y => rw [h x (by simp), h y (by simp)]; rfl
  case nilCheck x => rw [h x (by simp)]; rfl
  case binOp op t x y t' => rw [h x (by simp), h y (by simp)]; rfl
  case unOp op t x => rw [h x (by simp)]; rfl
  case convert src dst x => rw [h x (by simp)]; rfl
  case fieldAddr t x f => rw [h x (by simp)]; rfl
  case field t x f => rw [h x (by simp)]; rfl
  case indexAddr t x y => rw [h x (by simp), h y (by simp)]; rfl
  case index t x y => rw [h x (by simp), h y (by simp)]; rfl
  case extract x i => rw [h x (by simp)]; rfl
  all_goals rfl

def wrOp : Op → Bool
  | .store .. => true
  | .convert src dst _ => src == dst
  | .call { callee := .builtin .append, args := _, argTypes := _ } => true
  | .call { callee := .builtin .copy, args := _, argTypes := _ } => true
  | _ => false
/-- looks at boxes, or gives out labels -/
def hqOp : Op → Bool
  | .load .. => true
  | .convert .. => true
  | .store .. => true
  | .alloc .. => true
  | .box .. => true
  | .buildSlice .. => true
  | .makeSlice .. => true
  | .call { callee := .builtin .len, args := _, argTypes := _ } => false
  | .call _ => true
  | _ => false
/-- the labels that a value leads to -/
def topL : AV → List Nat
  | .loc id _ => [id]
  | .bsl _ id _ _ => [id]
  | .csl _ id _ _ _ => [id]
  | .sl _ _ _ (some k) => [k]
  | _ => []

theorem topL_un (A : AV) : topL (un A) = topL A := by cases A <;> rfl
theorem topL_gl {A : AV} {l : Nat} (h : l ∈ topL (gl A)) : l ∈ topL A := by
  unfold gl at h
  split at h
  · split at h
    · simp [topL] at h
    · exact h
  · exact h

/-- An operation's outcome in s, and in s with other boxes. -/
structure Alike (wr hq : Bool) (s : S) (hp : List (Nat × Ob)) (u u2 : Out) : Prop where
  ok : u2.ok
  x : u2.x = u.x
  nx : u2.nx = u.nx
  le : s.nx ≤ u.nx
  m1 : ∀ l, look hp l = look s.hp l → look u2.hp l = look u.hp l
  m2 : wr = false → ∀ l, ¬ (s.nx ≤ l ∧ l < u.nx) → look u2.hp l = look hp l ∧ look u.hp l = look s.hp l
  t3 : ∀ l, look u.hp l ≠ none → look s.hp l ≠ none ∨ (s.nx ≤ l ∧ l < u.nx)
  hq : hq = false → u.nx = s.nx
section
variable {P : Program} {s : S} {hp : List (Nat × Ob)} {wr hq : Bool}
def S.wi (s : S) (hp : List (Nat × Ob)) : S := ⟨s.fr, s.sz, hp, s.nx, s.df⟩
theorem alike_o {ok ok2 : Prop} {x x2 : AV} (h : ok → ok2 ∧ x2 = x) (h1 : (s.o ok x).ok) : Alike wr hq s hp (s.o ok x) ((s.wi hp).o ok2 x2) :=
  ⟨(h h1).1, (h h1).2, rfl, Nat.le_refl _, fun l h => h, fun _ l _ => ⟨rfl, rfl⟩, fun l h => .inl h, fun _ => rfl⟩
theorem alike_same {ok : Prop} {x : AV} (h1 : (s.o ok x).ok) : Alike wr hq s hp (s.o ok x) ((s.wi hp).o ok x) := alike_o (fun h => ⟨h, rfl⟩) h1
theorem alike_new {ok : Prop} {x : AV} {ob : Ob} (h1 : ok) : Alike wr true s hp ⟨ok, x, (s.nx, ob) :: s.hp, s.nx + 1⟩ ⟨ok, x, (s.nx, ob) :: hp, s.nx + 1⟩ := by
  refine ⟨h1, rfl, rfl, Nat.le_succ _, fun l h => ?_, fun _ l hl => ?_, fun l h => ?_, fun h => by cases h⟩
  · simp only [look_cons, h]
  · have : ¬ s.nx = l := by dsimp only at hl; omega
    simp only [look_cons, if_neg this]; trivial
  · simp only [look_cons] at h
    by_cases e : s.nx = l
    · exact .inr ⟨Nat.le_of_eq e, by dsimp only; omega⟩
    · rw [if_neg e] at h; exact .inl h
theorem rowOf_agree {id : Nat} (h : ∀ ob, look s.hp id = some ob → look hp id = some ob) (hl : 0 < (rowOf s.hp id).length) : rowOf hp id = rowOf s.hp id := by
  have := h _ (rowOf_some hl)
  simp only [rowOf] at this ⊢
  rw [this]
theorem src_agree {z : Nat} {A : AV} (h : ∀ l ∈ topL A, ∀ ob, look s.hp l = some ob → look hp l = some ob) (hok : srcOk s.hp z A) : srcA hp z A = srcA s.hp z A ∧ srcOk hp z A := by
  cases A with
  | bsl z' id off n =>
    simp only [srcOk] at hok
    rcases hok with ⟨h1, h2, h3⟩ | rfl
    · have e := rowOf_agree (h id (by simp [topL])) (by omega)
      simp only [srcA, srcOk, e]
      exact ⟨trivial, .inl ⟨h1, h2, h3⟩⟩
    · simp [srcA, srcOk]
  | csl z' id off n c =>
    simp only [srcOk] at hok
    rcases hok with ⟨h1, h2, h3⟩ | rfl
    · have e := rowOf_agree (h id (by simp [topL])) (by omega)
      simp only [srcA, srcOk, e]
      exact ⟨trivial, .inl ⟨h1, h2, h3⟩⟩
    · simp [srcA, srcOk]
  | _ => exact ⟨by unfold srcA; split <;> simp_all, by simp [srcOk]⟩

theorem ev1_alike (op : Op) (h : hqOp op = true → ∀ x ∈ op.operands, ∀ l ∈ topL (s.ev x), ∀ ob, look s.hp l = some ob → look hp l = some ob) (hk : (ev1 P s op).ok) :
    Alike (wrOp op) (hqOp op) s hp (ev1 P s op) (ev1 P (s.wi hp) op) := by
  have hev : ∀ x, (s.wi hp).ev x = s.ev x := fun x => by cases x <;> rfl
  have hbn : ∀ x d, bndO (s.wi hp) x d = bndO s x d := fun x d => by cases x <;> simp [bndO, hev]
  have hpa : ∀ ps, partsA (s.wi hp) ps = partsA s ps := fun ps => by simp [partsA, hev]
  have hmap : ∀ xs : List Operand, xs.map (s.wi hp).ev = xs.map s.ev := fun xs => by simp [hev]
  cases op <;> simp only [Op.operands] at h <;> simp only [ev1, hev, hpa, hmap, wrOp, hqOp] at hk ⊢
  case move x => exact alike_same hk
  case assign x => exact alike_same hk
  case pick c x y => exact alike_same hk
  case binOp op t x y t' => exact alike_same hk
  case unOp op t x => exact alike_same hk
  case makeFunc f fs cs => exact alike_same hk
  case alloc t => exact alike_new hk
  case box t x => exact alike_new hk
  case build t ps => unfold buildO at hk ⊢; exact alike_same hk
  case buildSlice t n ps =>
    unfold buildSliceO at hk ⊢
    split
    · rename_i e he; rw [he] at hk; exact alike_new hk
    · rename_i he; exfalso; revert hk; split
      · rename_i e he'; exact absurd he' (he e)
      · exact fun h => h
  case load t x =>
    replace h := h rfl
    unfold loadO at hk ⊢
    split
    · rename_i d hd
      rw [hd] at hk
      refine alike_o (fun hk => ?_) hk
      have hx : ∀ l ∈ topL (gl (s.ev x)), ∀ ob, look s.hp l = some ob → look hp l = some ob := fun l hl => h x (by simp) l (topL_gl hl)
      have e : placeA hp (gl (s.ev x)) = placeA s.hp (gl (s.ev x)) := by
        cases hA : gl (s.ev x) with
        | loc id off =>
          rw [hA] at hk hx
          simp only [placeA, List.length_drop] at hk ⊢
          rw [rowOf_agree (hx id (by simp [topL])) (by omega)]
        | _ => rfl
      show (0 < P.cellsOf t ∧ P.cellsOf t ≤ (placeA hp (gl (s.ev x))).length) ∧ loadA d (P.cellsOf t) (placeA hp (gl (s.ev x))) = _
      rw [e]
      exact ⟨hk, rfl⟩
    · rename_i hd; rw [hd] at hk; exact hk.elim
  case store t x y =>
    replace h := h rfl
    unfold storeO at hk ⊢
    split
    · rename_i id off hA
      rw [hA] at hk
      dsimp only at hk
      have hx := h x (by simp)
      rw [hA] at hx
      have hlen : 0 < (rowOf s.hp id).length := by omega
      have e : rowOf hp id = rowOf s.hp id := rowOf_agree (hx id (by simp [topL])) hlen
      have hs := rowOf_some hlen
      have hs2 := hx id (by simp [topL]) _ hs
      refine ⟨?_, ?_, rfl, Nat.le_refl _, fun l hl => ?_, fun h => (by cases h), fun l hl => ?_, fun h => by cases h⟩
      · show _ ∧ _ ∧ _ ∧ _ ≤ (rowOf hp id).length
        rw [e]; exact hk
      · rfl
      · show look (rep hp id (.box (splice (rowOf hp id) off _))) l = _
        rw [e, look_rep _ _ _ _ (by rw [hs2]; rfl), look_rep _ _ _ _ (by rw [hs]; rfl), hl]
      · rw [look_rep _ _ _ _ (by rw [hs]; rfl)] at hl
        split at hl
        · rename_i e; subst e; left; rw [hs]; simp
        · exact .inl hl
    · rename_i hA; exfalso; revert hk; split
      · rename_i id off hA'; exact absurd hA' (hA id off)
      · exact fun h => h
  case nilCheck x =>
    unfold nilCheckO at hk ⊢
    revert hk
    split <;> intro hk <;> first | exact alike_same hk | exact hk.elim
  case fieldAddr t x f =>
    unfold fieldAddrO at hk ⊢
    revert hk
    split
    · split <;> intro hk <;> first | exact alike_same hk | exact hk.elim
    · exact fun hk => hk.elim
  case field t x f =>
    unfold fieldO at hk ⊢
    revert hk
    split <;> first | (intro hk; exact alike_same hk) | (intro hk; exact hk.elim) | (split <;> intro hk <;> first | exact alike_same hk | exact hk.elim)
  case indexAddr t x y =>
    unfold indexAddrO at hk ⊢
    revert hk
    split
    · split <;> intro hk <;> first | exact alike_same hk | exact hk.elim
    · split <;> intro hk <;> first | exact alike_same hk | exact hk.elim
    · exact fun hk => hk.elim
  case index t x y =>
    unfold indexO at hk ⊢
    revert hk
    split <;> first | (intro hk; exact alike_same hk) | (intro hk; exact hk.elim) | (split <;> intro hk <;> first | exact alike_same hk | exact hk.elim)
  case extract x i =>
    unfold extractO at hk ⊢
    revert hk
    split <;> intro hk <;> first | exact alike_same hk | exact hk.elim
  case slice t x lo hi mx =>
    unfold sliceO at hk ⊢
    simp only [hbn]
    revert hk
    split
    · exact fun hk => hk.elim
    · split <;> first | ((repeat' split) <;> intro hk <;> first | exact alike_same hk | exact hk.elim) | exact fun hk => hk.elim
  case makeSlice t l c =>
    unfold makeO at hk ⊢
    rw [hev, hev]
    revert hk
    split
    · split <;> intro hk <;> exact alike_new hk
    · exact fun hk => hk.elim
  case convert src dst x =>
    have hx := h rfl x (by simp)
    unfold convO at hk ⊢
    revert hk
    split
    · split <;> intro hk <;> first | exact alike_same hk | exact hk.elim
    · split <;> intro hk <;> first | exact alike_same hk | exact hk.elim
    split
    · rename_i heq
      unfold convM
      split
      · rename_i z cs n k hA
        rw [hA] at hx
        split
        · intro hk
          refine ⟨⟨hk.1, hk.2.1, hx k (by simp [topL]) _ hk.2.2⟩, rfl, rfl, Nat.le_refl _, fun l hl => ?_, fun h => (by rw [heq] at h; simp at h), fun l hl => ?_, fun _ => rfl⟩
          · show look (del hp k) l = look (del s.hp k) l
            simp only [look_del, hl]
          · simp only [look_del] at hl
            left; intro h0; rw [h0] at hl; split at hl <;> exact hl rfl
        · exact fun hk => hk.elim
      · exact fun hk => hk.elim
    · intro hk
      have hok : srcOk s.hp 1 (s.ev x) := by
        revert hk; split
        · exact fun hk => hk.2.1
        · exact fun hk => hk.elim
      obtain ⟨e1, e2⟩ := src_agree (z := 1) hx hok
      have e1' : srcA (s.wi hp).hp 1 (s.ev x) = _ := e1
      rw [e1']
      revert hk
      split
      · intro hk; exact alike_o (fun hk => ⟨⟨hk.1, e2, hk.2.2⟩, rfl⟩) hk
      · exact fun hk => hk.elim
  case call c =>
    obtain ⟨cal, args, ts⟩ := c
    simp only [Call.operands] at h
    have harg : hqOp (.call ⟨cal, args, ts⟩) = true → ∀ x ∈ args.toList, ∀ l ∈ topL (s.ev x), ∀ ob, look s.hp l = some ob → look hp l = some ob := fun hq x hx => h hq x (by simp at hx; simp [hx])
    cases cal with
    | value f => exact hk.elim
    | invoke r m => exact hk.elim
    | builtin b =>
      cases b
      case len =>
        simp only [ev1, hev, wrOp, hqOp] at hk ⊢
        revert hk
        split
        · unfold lenO
          split
          · split <;> intro hk <;> first | exact alike_same hk | exact hk.elim
          · split <;> intro hk <;> first | exact alike_same hk | exact hk.elim
          · intro hk; exact alike_same hk
          · exact fun hk => hk.elim
        · exact fun hk => hk.elim
      case append =>
        simp only [ev1, hev, wrOp, hqOp] at hk ⊢
        revert hk
        split
        · rename_i x y t tx e1 e2
          replace harg := harg rfl
          simp only [e1] at harg
          have hx := harg x (by simp)
          have hy := harg y (by simp)
          unfold appendO
          split
          · rename_i e he
            intro hk
            have hok : srcOk s.hp (P.cellsOf e) (s.ev y) := by
              revert hk; split
              · split
                · exact fun hk => hk.2.2.2.2.2.1
                · exact fun hk => hk.2.2.2.1
                · exact fun hk => hk.elim
              · exact fun hk => hk.elim
            obtain ⟨e1, e2⟩ := src_agree (z := P.cellsOf e) hy hok
            have e1' : srcA (s.wi hp).hp (P.cellsOf e) (s.ev y) = _ := e1
            rw [e1']
            revert hk
            split
            · split
              · rename_i z cs n k hA
                rw [hA] at hx
                intro hk
                have hs := hk.2.2.2.2.1
                have hs2 := hx k (by simp [topL]) _ hs
                refine ⟨⟨hk.1, hk.2.1, hk.2.2.1, hk.2.2.2.1, hs2, e2, hk.2.2.2.2.2.2⟩, rfl, rfl, Nat.le_succ _, fun l hl => ?_, fun h => (by cases h), fun l hl => ?_, fun h => by cases h⟩
                · show look ((s.nx, Ob.tok) :: del hp k) l = look ((s.nx, Ob.tok) :: del s.hp k) l
                  simp only [look_cons, look_del, hl]
                · simp only [look_cons, look_del] at hl
                  by_cases e : s.nx = l
                  · exact .inr ⟨Nat.le_of_eq e, by dsimp only; omega⟩
                  · rw [if_neg e] at hl
                    left; intro h0; rw [h0] at hl; split at hl <;> exact hl rfl
              · rename_i hA
                intro hk
                refine ⟨⟨hk.1, hk.2.1, hk.2.2.1, e2, hk.2.2.2.2⟩, rfl, rfl, by dsimp only; omega, fun l hl => ?_, fun h => (by cases h), fun l hl => ?_, fun h => by cases h⟩
                · show look ((s.nx + 1, Ob.tok) :: del ((s.nx, Ob.tok) :: hp) s.nx) l = look ((s.nx + 1, Ob.tok) :: del ((s.nx, Ob.tok) :: s.hp) s.nx) l
                  simp only [look_cons, look_del, hl]
                · simp only [look_cons, look_del] at hl
                  by_cases e : s.nx + 1 = l
                  · exact .inr ⟨by omega, by dsimp only; omega⟩
                  · rw [if_neg e] at hl
                    split at hl
                    · exact absurd rfl hl
                    · exact .inl hl
              · exact fun hk => hk.elim
            · exact fun hk => hk.elim
          · exact fun hk => hk.elim
        · exact fun hk => hk.elim
      case copy =>
        simp only [ev1, hev, wrOp, hqOp] at hk ⊢
        revert hk
        split
        · rename_i x y t tx e1 e2
          replace harg := harg rfl
          simp only [e1] at harg
          have hx := harg x (by simp)
          have hy := harg y (by simp)
          unfold copyO
          split
          · rename_i e he
            intro hk
            have hok : srcOk s.hp (P.cellsOf e) (s.ev y) := by
              revert hk; split
              · exact fun hk => hk.2.2.1
              · exact fun hk => hk.elim
            obtain ⟨e1, e2⟩ := src_agree (z := P.cellsOf e) hy hok
            have e1' : srcA (s.wi hp).hp (P.cellsOf e) (s.ev y) = _ := e1
            rw [e1']
            revert hk
            split
            · rename_i ds m z id off n hsr hA
              rw [← topL_un, hA] at hx
              intro hk
              have hlen := hk.2.2.2.1
              have er : rowOf hp id = rowOf s.hp id := rowOf_agree (hx id (by simp [topL])) hlen
              have er' : rowOf (s.wi hp).hp id = rowOf s.hp id := er
              have hs := rowOf_some hlen
              have hs2 := hx id (by simp [topL]) _ hs
              refine ⟨?_, rfl, rfl, Nat.le_refl _, fun l hl => ?_, fun h => (by cases h), fun l hl => ?_, fun h => by cases h⟩
              · dsimp only; rw [er']; exact ⟨hk.1, hk.2.1, e2, hk.2.2.2⟩
              · show look (rep hp id (.box (splice (rowOf hp id) off _))) l = _
                rw [er, look_rep _ _ _ _ (by rw [hs2]; rfl), look_rep _ _ _ _ (by rw [hs]; rfl), hl]
              · rw [look_rep _ _ _ _ (by rw [hs]; rfl)] at hl
                split at hl
                · rename_i e; subst e; left; rw [hs]; simp
                · exact .inl hl
            · exact fun hk => hk.elim
          · exact fun hk => hk.elim
        · exact fun hk => hk.elim
      all_goals exact hk.elim
  all_goals exact hk.elim
end
end Go.Eng

namespace Go.Eng
set_option linter.unusedSimpArgs false
set_option linter.unusedVariables false
open Go Go.RowKit

/-- an edge from i to j -/
def Edg (ops : Array Oper) (i j : Nat) : Prop := ∃ y, ops[j]? = some y ∧ ∃ e ∈ y.after, Region.binds .any e = true ∧ e.on = i
/-- the labels that an operation turns, looks at, and those of these that its operands hold -/
structure Tch where
  W : Nat → Prop
  H : Nat → Prop
  Pn : Nat → Prop
structure Ords (ops : Array Oper) (nx : Nat → Nat) (T : Nat → Tch) : Prop where
  back : ∀ j y, ops[j]? = some y → ∀ e ∈ y.after, Region.binds .any e = true → e.on < j
  slot : ∀ i j x y, ops[i]? = some x → ops[j]? = some y → i < j → x.apart ops y = false → Edg ops i j
  wh : ∀ i j l, i < j → j < ops.size → (T i).W l → (T j).H l → Edg ops i j
  hw : ∀ i j l, i < j → j < ops.size → (T i).H l → (T j).W l → Edg ops i j
  sub : ∀ i l, (T i).W l → (T i).H l
  nw : ∀ i j l, i < ops.size → j < ops.size → nx i ≤ l → l < nx (i + 1) → (T j).W l → ¬ (T j).Pn l → (i < j → Edg ops i j) ∧ (j < i → Edg ops j i)

/-- a step from s to s' -/
structure StepAt (P : Program) (C : Cx) (al : Bool) (T : Tch) (ops : Array Oper) (i : Nat) (o : Oper) (s s' : S) : Prop where
  sz : s'.sz = s.sz
  df : s'.df = s.df
  dst : dstOk s o.dst = true
  fr : ∀ t, o.dst ≠ some t → look s'.fr t = look s.fr t
  le : s.nx ≤ s'.nx
  na : al = false → s'.nx = s.nx
  t2 : ∀ l, ¬ T.W l → ¬ (s.nx ≤ l ∧ l < s'.nx) → look s'.hp l = look s.hp l
  t3 : ∀ l, look s'.hp l ≠ none → look s.hp l ≠ none ∨ (s.nx ≤ l ∧ l < s'.nx)
  pin : ∀ l, T.Pn l → look s.hp l ≠ none ∧ ∀ (γ : Gh) (hp : List (Nat × Ob)) (tm : Array Value), (∀ t ∈ o.looksAt ops, ∀ x, look s.fr t = some x → R γ false x (tm.getD t undef)) → ¬ Free γ hp l
  run : ∀ (γ : Gh) (hp : List (Nat × Ob)) (a : Act), HRel γ hp → γ.base ≤ γ.w.heap.size → s'.nx ≤ γ.nx → a.tmps.size = s.sz → DF γ s.df a.defers →
    (∀ l, s.nx ≤ l → l < s'.nx → Free γ hp l) →
    (∀ t ∈ o.looksAt ops, ∀ x, look s.fr t = some x → R γ false x (a.tmps.getD t undef)) →
    (∀ l ob, T.H l → look s.hp l = some ob → ¬ Free γ hp l → look hp l = some ob) →
    ∀ (next : Act → World → Prop) (Q : Exit → Act → World → Prop),
      (∀ v γ' hp', γ.le γ.nx γ' → HRel γ' hp' → γ'.nx = γ.nx → (∀ d x, o.dst = some d → look s'.fr d = some x → R γ' false x v) →
        (∀ l, look hp l = look s.hp l → look hp' l = look s'.hp l) → (∀ l, ¬ T.W l → ¬ (s.nx ≤ l ∧ l < s'.nx) → look hp' l = look hp l) →
        (al = true → ∀ l, Free γ hp l → ¬ (s.nx ≤ l ∧ l < s'.nx) → Free γ' hp' l) → next (a.put o.dst v) γ'.w) → wpOpIn (FF C.r) 0 P ops Q i next a γ.w

structure Inv (P : Program) (C : Cx) (T : Nat → Tch) (ops : Array Oper) (ss : Nat → S) (listed : Array Bool) (γ : Gh) (hp : List (Nat × Ob)) (a : Act) : Prop where
  size : listed.size = ops.size
  down : ∀ j o, ops[j]? = some o → listed.getD j false = true → ∀ e ∈ o.after, Region.binds .any e = true → listed.getD e.on false = true
  hr : HRel γ hp
  nx : γ.nx = (ss ops.size).nx
  bs : γ.base ≤ γ.w.heap.size
  sz : a.tmps.size = (ss 0).sz
  df : DF γ (ss 0).df a.defers
  fr : ∀ t p, p ≤ ops.size → (∀ j o, ops[j]? = some o → o.dst = some t → (listed.getD j false = true ↔ j < p)) → ∀ x, look (ss p).fr t = some x → R γ false x (a.tmps.getD t undef)
  hpq : ∀ l p, p ≤ ops.size → (∀ j, j < ops.size → (T j).W l → (listed.getD j false = true ↔ j < p)) →
    (∀ j, j < ops.size → (ss j).nx ≤ l → l < (ss (j + 1)).nx → (listed.getD j false = true ↔ j < p)) → look hp l = look (ss p).hp l
  free : ∀ j, j < ops.size → listed.getD j false = false → ∀ l, (ss j).nx ≤ l → l < (ss (j + 1)).nx → Free γ hp l
  wl : ∀ j, j < ops.size → listed.getD j false = true → ∀ l, (T j).W l → (T j).Pn l → ∀ i, i < ops.size → (ss i).nx ≤ l → l < (ss (i + 1)).nx → listed.getD i false = true

section
variable {P : Program} {C : Cx} {al : Bool} {T : Nat → Tch} {ops : Array Oper} {ss : Nat → S}
theorem ss_nx (hs : ∀ i o, ops[i]? = some o → StepAt P C al (T i) ops i o (ss i) (ss (i + 1))) : ∀ i j, i ≤ j → j ≤ ops.size → (ss i).nx ≤ (ss j).nx := by
  intro i j hij
  induction hij with
  | refl => intro _; exact Nat.le_refl _
  | step h ih =>
    rename_i m
    intro hm
    have hlt : m < ops.size := hm
    exact Nat.le_trans (ih (by omega)) (hs m ops[m] (Array.getElem?_eq_getElem hlt)).le
theorem ss_sz (hs : ∀ i o, ops[i]? = some o → StepAt P C al (T i) ops i o (ss i) (ss (i + 1))) : ∀ i, i ≤ ops.size → (ss i).sz = (ss 0).sz := by
  intro i
  induction i with
  | zero => intro _; rfl
  | succ m ih =>
    intro hm
    have hlt : m < ops.size := hm
    exact (hs m ops[m] (Array.getElem?_eq_getElem hlt)).sz.trans (ih (by omega))
theorem ss_df (hs : ∀ i o, ops[i]? = some o → StepAt P C al (T i) ops i o (ss i) (ss (i + 1))) : ∀ i, i ≤ ops.size → (ss i).df = (ss 0).df := by
  intro i
  induction i with
  | zero => intro _; rfl
  | succ m ih =>
    intro hm
    have hlt : m < ops.size := hm
    exact (hs m ops[m] (Array.getElem?_eq_getElem hlt)).df.trans (ih (by omega))
theorem ss_wf (hs : ∀ i o, ops[i]? = some o → StepAt P C al (T i) ops i o (ss i) (ss (i + 1))) (h0 : ∀ l, look (ss 0).hp l ≠ none → l < (ss 0).nx) : ∀ i, i ≤ ops.size → ∀ l, look (ss i).hp l ≠ none → l < (ss i).nx := by
  intro i
  induction i with
  | zero => intro _; exact h0
  | succ m ih =>
    intro hm l hl
    have hlt : m < ops.size := hm
    have st := hs m ops[m] (Array.getElem?_eq_getElem hlt)
    rcases st.t3 l hl with h | h
    · exact Nat.lt_of_lt_of_le (ih (by omega) l h) st.le
    · exact h.2
/-- a slot stays over steps that do not write it -/
theorem ss_fr (hs : ∀ i o, ops[i]? = some o → StepAt P C al (T i) ops i o (ss i) (ss (i + 1))) (t : Nat) (i p : Nat) (hip : i ≤ p) (hp : p ≤ ops.size) (h : ∀ j o, ops[j]? = some o → i ≤ j → j < p → o.dst ≠ some t) : look (ss p).fr t = look (ss i).fr t := by
  induction hip with
  | refl => rfl
  | step hle ih =>
    rename_i m
    have hlt : m < ops.size := hp
    have ho := Array.getElem?_eq_getElem hlt
    rw [(hs m _ ho).fr t (h m _ ho hle (Nat.lt_succ_self m))]
    exact ih (by omega) fun j o hj h1 h2 => h j o hj h1 (by omega)
theorem ss_hp (hs : ∀ i o, ops[i]? = some o → StepAt P C al (T i) ops i o (ss i) (ss (i + 1))) (l : Nat) (i p : Nat) (hip : i ≤ p) (hp : p ≤ ops.size) (h : ∀ j, j < ops.size → i ≤ j → j < p → ¬ (T j).W l ∧ ¬ ((ss j).nx ≤ l ∧ l < (ss (j + 1)).nx)) : look (ss p).hp l = look (ss i).hp l := by
  induction hip with
  | refl => rfl
  | step hle ih =>
    rename_i m
    have hlt : m < ops.size := hp
    have ho := Array.getElem?_eq_getElem hlt
    obtain ⟨h1, h2⟩ := h m hlt hle (Nat.lt_succ_self m)
    rw [(hs m _ ho).t2 l h1 h2]
    exact ih (by omega) fun j hj h1 h2 => h j hj h1 (by omega)

theorem apart_dst {x y : Oper} {t : Nat} (hx : x.dst = some t) (hy : t ∈ y.looksAt ops ∨ y.dst = some t) : x.apart ops y = false := by
  unfold Oper.apart
  rw [hx]
  rcases hy with h | h
  · simp [h]
  · simp [h]
theorem apart_look {x y : Oper} {t : Nat} (hy : y.dst = some t) (hx : t ∈ x.looksAt ops) : x.apart ops y = false := by
  unfold Oper.apart
  rw [hy]
  simp [hx]

theorem Edg.listed {listed : Array Bool} {i j : Nat} (h : Edg ops i j) (hall : ∀ y, ops[j]? = some y → ∀ e ∈ y.after, Region.binds .any e = true → listed.getD e.on false = true) : listed.getD i false = true := by
  obtain ⟨y, hy, e, he, hb, ho⟩ := h
  rw [← ho]; exact hall y hy e he hb

theorem filter_lt {α : Type} {p q : α → Bool} : ∀ {l : List α} {i : α}, (∀ x ∈ l, q x = true → p x = true) → i ∈ l → p i = true → q i = false → (l.filter q).length < (l.filter p).length
  | [], _, _, h, _, _ => by cases h
  | a :: l, i, hqp, hi, hp, hq => by
    have hle : ∀ (l : List α), (∀ x ∈ l, q x = true → p x = true) → (l.filter q).length ≤ (l.filter p).length := by
      intro l
      induction l with
      | nil => intro _; simp
      | cons b l ih =>
        intro h
        have := ih fun x hx => h x (List.mem_cons_of_mem _ hx)
        simp only [List.filter_cons]
        cases hb : q b with
        | true => rw [h b (by simp) hb]; simpa using this
        | false => cases p b <;> simp <;> omega
    rcases List.mem_cons.1 hi with e | hi'
    · subst e
      simp only [List.filter_cons, hp, hq]
      have := hle l fun x hx => hqp x (List.mem_cons_of_mem _ hx)
      simp; omega
    · have ih := filter_lt (l := l) (fun x hx => hqp x (List.mem_cons_of_mem _ hx)) hi' hp hq
      simp only [List.filter_cons]
      cases hb : q a with
      | true => rw [hqp a (by simp) hb]; simpa using ih
      | false => cases p a <;> simp <;> omega
def left (ops : Array Oper) (listed : Array Bool) : Nat := ((List.range ops.size).filter fun i => !listed.getD i true).length

theorem getD_tf {listed : Array Bool} {i : Nat} (h : listed.getD i true = false) : listed.getD i false = false := by
  rcases Nat.lt_or_ge i listed.size with h' | h'
  · simp only [Array.getD_eq_getD_getElem?, Array.getElem?_eq_getElem h', Option.getD_some] at h ⊢; exact h
  · simp [Array.getElem?_eq_none h'] at h
theorem getD_ft {listed : Array Bool} {i : Nat} (hi : i < listed.size) (h : listed.getD i false = false) : listed.getD i true = false := by
  simp only [Array.getD_eq_getD_getElem?, Array.getElem?_eq_getElem hi, Option.getD_some] at h ⊢; exact h
theorem getD_put {tmps : Array Value} {d t : Nat} {v : Value} (h : d ≠ t) : (tmps.setIfInBounds d v).getD t undef = tmps.getD t undef := by
  simp only [Array.getD_eq_getD_getElem?]
  rw [Array.getElem?_setIfInBounds_ne h]
theorem put_size (a : Act) (d : Option Nat) (v : Value) : (a.put d v).tmps.size = a.tmps.size := by cases d <;> simp [Act.put]
theorem put_defers' (a : Act) (d : Option Nat) (v : Value) : (a.put d v).defers = a.defers := by cases d <;> rfl

theorem inv_step (hord : Ords ops (fun i => (ss i).nx) T) (hs : ∀ i o, ops[i]? = some o → StepAt P C al (T i) ops i o (ss i) (ss (i + 1))) {listed : Array Bool} {γ : Gh} {hp : List (Nat × Ob)} {a : Act} (I : Inv P C T ops ss listed γ hp a)
    (hwf : ∀ i, i ≤ ops.size → ∀ l, look (ss i).hp l ≠ none → l < (ss i).nx)
    {i : Nat} {o : Oper} (ho : ops[i]? = some o) (hun : listed.getD i true = false) (hall : ∀ e ∈ o.after, Region.binds .any e = true → listed.getD e.on false = true)
    (hfl : ∀ t ∈ o.looksAt ops, ∀ x, look (ss i).fr t = some x → R γ false x (a.tmps.getD t undef))
    {v : Value} {γ' : Gh} {hp' : List (Nat × Ob)} (hle : γ.le γ.nx γ') (hh : HRel γ' hp') (hnx : γ'.nx = γ.nx) (hR : ∀ d x, o.dst = some d → look (ss (i + 1)).fr d = some x → R γ' false x v)
    (m1 : ∀ l, look hp l = look (ss i).hp l → look hp' l = look (ss (i + 1)).hp l) (m2 : ∀ l, ¬ (T i).W l → ¬ ((ss i).nx ≤ l ∧ l < (ss (i + 1)).nx) → look hp' l = look hp l)
    (mf : al = true → ∀ l, Free γ hp l → ¬ ((ss i).nx ≤ l ∧ l < (ss (i + 1)).nx) → Free γ' hp' l) : Inv P C T ops ss (listed.setIfInBounds i true) γ' hp' (a.put o.dst v) := by
  have hi : i < ops.size := (Array.getElem?_eq_some_iff.1 ho).1
  have hun' := getD_tf hun
  have hset : (listed.setIfInBounds i true).getD i false = true := by simp [I.size, hi]
  have hne : ∀ j, j ≠ i → (listed.setIfInBounds i true).getD j false = listed.getD j false := fun j hj => getD_set_ne false (Ne.symm hj)
  -- what meets o and stands behind it is not listed
  have hbeh : ∀ j, Edg ops i j → listed.getD j false = false := by
    intro j hm
    cases hl : listed.getD j false with
    | false => rfl
    | true => have := hm.listed fun y hy => I.down j y hy hl; rw [this] at hun'; cases hun'
  have hahead : ∀ j, Edg ops j i → listed.getD j false = true := fun j hm => hm.listed fun y hy => by rw [ho] at hy; cases hy; exact hall
  have st := hs i o ho
  have hnxm := ss_nx hs
  -- where a pinned label was made is listed, and ahead
  have hpin : ∀ l, (T i).Pn l → ∀ j, j < ops.size → (ss j).nx ≤ l → l < (ss (j + 1)).nx → j < i ∧ listed.getD j false = true := by
    intro l hl j hj h1 h2
    obtain ⟨h3, h4⟩ := st.pin l hl
    refine ⟨?_, ?_⟩
    · have h3 := hwf i (by omega) l h3
      rcases Nat.lt_or_ge j i with h | h
      · exact h
      · have := hnxm i j h (by omega); omega
    · cases hlj : listed.getD j false with
      | true => rfl
      | false => exact absurd (I.free j hj hlj l h1 h2) (h4 γ hp a.tmps hfl)
  refine ⟨by simp [I.size], ?_, hh, by rw [hnx, I.nx], ?_, by rw [put_size, I.sz], by rw [put_defers']; exact DF_le hle I.df, ?_, ?_, ?_, ?_⟩
  · intro j y hy hl e he hb
    by_cases hj : j = i
    · subst hj; rw [ho] at hy; cases hy; exact getD_set_true (hall e he hb)
    · rw [hne j hj] at hl; exact getD_set_true (I.down j y hy hl e he hb)
  · rw [hle.base]; exact Nat.le_trans I.bs hle.below.size
  · intro t p hp0 hc x hx
    by_cases hd : o.dst = some t
    · have hip : i < p := (hc i o ho hd).1 hset
      rw [ss_fr hs t (i + 1) p hip hp0] at hx
      · have := hR t x hd hx
        rw [hd]
        have hlt : t < a.tmps.size := by
          have := st.dst
          rw [hd] at this
          simp only [dstOk, Nat.blt_eq] at this
          rw [I.sz, ← ss_sz hs i (by omega)]; exact this
        have e : (a.put (some t) v).tmps.getD t undef = v := by simp [Act.put, Array.getD, hlt]
        rw [e]; exact this
      · intro j y hy h1 h2 hdy
        have := (hc j y hy hdy).2 h2
        rw [hne j (by omega), hbeh j (hord.slot i j o y ho hy (by omega) (apart_dst hd (.inr hdy)))] at this
        cases this
    · have := I.fr t p hp0 (fun j y hy hdy => by
        have hj : j ≠ i := by rintro rfl; rw [ho] at hy; cases hy; exact hd hdy
        rw [← hne j hj]; exact hc j y hy hdy) x hx
      have e : (a.put o.dst v).tmps.getD t undef = a.tmps.getD t undef := by
        cases hd' : o.dst with
        | none => rfl
        | some d => exact getD_put (by rintro rfl; exact hd hd')
      rw [e]
      exact R_le hle this
  · intro l p hp0 hw hc
    by_cases hnew : (ss i).nx ≤ l ∧ l < (ss (i + 1)).nx
    · have hip : i < p := (hc i hi hnew.1 hnew.2).1 hset
      have e1 : look hp' l = look (ss (i + 1)).hp l := by
        refine m1 l ?_
        have h1 := (I.free i hi hun' l hnew.1 hnew.2).2.2.1
        rw [h1]
        cases h2 : look (ss i).hp l with
        | none => rfl
        | some ob => have := hwf i (by omega) l (by rw [h2]; simp); omega
      rw [e1]
      refine (ss_hp hs l (i + 1) p hip hp0 ?_).symm
      intro j hj h1 h2
      refine ⟨fun hwy => ?_, fun h => ?_⟩
      · have hl := (hw j hj hwy).2 h2
        rw [hne j (by omega)] at hl
        by_cases hpn : (T j).Pn l
        · rw [I.wl j hj hl l hwy hpn i hi hnew.1 hnew.2] at hun'; cases hun'
        · rw [hbeh j ((hord.nw i j l hi hj hnew.1 hnew.2 hwy hpn).1 (by omega))] at hl; cases hl
      · have := hnxm (i + 1) j h1 (by omega); omega
    · have hc' : ∀ j, j < ops.size → (ss j).nx ≤ l → l < (ss (j + 1)).nx → (listed.getD j false = true ↔ j < p) := fun j hj0 h1 h2 => by
        have hj : j ≠ i := by rintro rfl; exact hnew ⟨h1, h2⟩
        rw [← hne j hj]; exact hc j hj0 h1 h2
      by_cases hwo : (T i).W l
      · have hip : i < p := (hw i hi hwo).1 hset
        have hho := hord.sub i l hwo
        have e0 : look hp l = look (ss i).hp l := by
          refine I.hpq l i (by omega) (fun j hj hwy => ?_) (fun j hj h1 h2 => ?_)
          · rcases Nat.lt_trichotomy j i with h | h | h
            · exact ⟨fun _ => h, fun _ => hahead j (hord.wh j i l h hi hwy hho)⟩
            · subst h; rw [hun']; simp
            · rw [hbeh j (hord.hw i j l h hj hho hwy)]; simp; omega
          · by_cases hpn : (T i).Pn l
            · obtain ⟨h3, h4⟩ := hpin l hpn j hj h1 h2
              exact ⟨fun _ => h3, fun _ => h4⟩
            · have hn := hord.nw j i l hj hi h1 h2 hwo hpn
              rcases Nat.lt_trichotomy j i with h | h | h
              · exact ⟨fun _ => h, fun _ => hahead j (hn.1 h)⟩
              · subst h; exact absurd ⟨h1, h2⟩ hnew
              · rw [hbeh j (hn.2 h)]; simp; omega
        rw [m1 l e0]
        refine (ss_hp hs l (i + 1) p hip hp0 ?_).symm
        intro j hj h1 h2
        refine ⟨fun hwy => ?_, fun h => ?_⟩
        · have := (hw j hj hwy).2 h2
          rw [hne j (by omega), hbeh j (hord.hw i j l (by omega) hj hho hwy)] at this
          cases this
        · by_cases hpn : (T i).Pn l
          · have := (hpin l hpn j hj h.1 h.2).1; omega
          · have hn := hord.nw j i l hj hi h.1 h.2 hwo hpn
            have := (hc j hj h.1 h.2).2 h2
            rw [hne j (by omega), hbeh j (hn.2 (by omega))] at this
            cases this
      · rw [m2 l hwo hnew]
        refine I.hpq l p hp0 (fun j hj hwy => ?_) hc'
        have hji : j ≠ i := by rintro rfl; exact hwo hwy
        rw [← hne j hji]; exact hw j hj hwy
  · intro j hj0 hl l h1 h2
    have hj : j ≠ i := by rintro rfl; rw [hset] at hl; cases hl
    rw [hne j hj] at hl
    cases hal : al with
    | false => have := (hs j _ (Array.getElem?_eq_getElem hj0)).na hal; omega
    | true =>
    refine mf hal l (I.free j hj0 hl l h1 h2) fun h => ?_
    rcases Nat.lt_or_ge j i with h' | h'
    · have := hnxm (j + 1) i h' (by omega); omega
    · have := hnxm (i + 1) j (by omega) (by omega); omega
  · intro j hj0 hl l hw hpn k hk h1 h2
    by_cases hj : j = i
    · subst hj
      exact getD_set_true (hpin l hpn k hk h1 h2).2
    · rw [hne j hj] at hl
      exact getD_set_true (I.wl j hj0 hl l hw hpn k hk h1 h2)
end
end Go.Eng

