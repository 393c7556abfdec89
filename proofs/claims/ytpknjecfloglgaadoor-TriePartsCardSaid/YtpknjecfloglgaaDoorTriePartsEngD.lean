/- A reading of memory as data, and a symbolic evaluator over it, proved sound; no condition. -/
import Derived.Test.YtpknjecfloglgaaDoorTriePartsEngC
import Derived.Lib.AppendZerosOnto
import Derived.Lib.Overlaps
import Derived.Laws.Externs
set_option linter.unusedVariables false
set_option linter.unusedSimpArgs false
namespace Go.Eng
set_option linter.unusedSimpArgs false
set_option linter.unusedVariables false
open Go Go.RowKit

theorem ex_sound2 {P : Program} {C : Cx} {all : Array Oper} {Q : Exit → Act → World → Prop} (r2 : List Oper) : ∀ (r : List Oper) (s : S) (K : S → Prop) (γ : Gh) (a : Act), ex P C all.toList r s K → Rel γ s a → C.γ1.le C.lo γ →
    (∀ γ' s' a', γ.le C.lo γ' → Rel γ' s' a' → K s' → wpListIn (FF C.r) 0 P all Q r2 a' γ'.w) → wpListIn (FF C.r) 0 P all Q (r ++ r2) a γ.w
  | [], s, K, γ, a, h, hr, hlo, hQ => hQ γ s a (Gh.le.refl hlo.nxl) hr h
  | o :: r, s, K, γ, a, h, hr, hlo, hQ => by
    have hlo' := hlo.nxl
    -- the operation itself
    have core : ∀ s : S, Rel γ s a → (match o.op with
      | .call { callee := .value f, args, argTypes := _ } => match callee s f (args.toList.map s.ev) with
        | some (g, as) => dstOk s o.dst = true ∧ CallK P g as s.hp s.nx fun x hp nx => ex P C all.toList r (s.set o.dst x hp nx) K
        | none => match yieldee s f with
          | some l => dstOk s o.dst = true ∧ CallY P C l (args.toList.map s.ev) s.hp s.nx fun x hp nx => ex P C all.toList r (s.set o.dst x hp nx) K
          | none => False
      | op => (ev1 P s op).ok ∧ dstOk s o.dst = true ∧ ex P C all.toList r ((ev1 P s op).to s o.dst) K) → o.wpIn (FF C.r) 0 P a γ.w (wpListIn (FF C.r) 0 P all Q (r ++ r2)) Q := by
      intro s hr h
      split at h
      · rename_i f args ts ho
        split at h
        · rename_i g as hc
          obtain ⟨hd, hck⟩ := h
          obtain ⟨cargs, hca, hrun⟩ := run_call (P := P) ho hc hr
          refine upon_call (C := C) (fun c e => by rw [ho] at e; cases e) hrun (hck γ cargs hr.hr hr.nx hr.bs hca) ?_
          rintro v w' ⟨γ', x, hp', nx', rfl, hle, hh, hn, hx, hk⟩
          exact ex_sound2 r2 r _ K γ' _ hk (hr.set hle hh hn o.dst hd x v hx) (hlo.trans (hle.mono hlo')) fun γ2 s2 a2 h2 => hQ γ2 s2 a2 ((hle.mono hlo').trans h2)
        · split at h
          · rename_i l hc
            obtain ⟨hd, hck⟩ := h
            have hrun := run_callY (P := P) ho hc hr
            obtain ⟨fn, tmps, assign, body, h1, h2⟩ := hck γ _ hlo hr.hr hr.nx hr.bs (RL_map hr.toRel0 args.toList)
            refine ⟨fun _ _ => trivial, ?_⟩
            rw [Oper.semAt_eq _ _ _ (fun c e => by rw [ho] at e; cases e), hrun, h1]
            refine ⟨fun h => (by cases h), h2.mono ?_⟩
            rintro e w' ⟨v, rfl, γ', x, hp', nx', rfl, hle, hh, hn, hx, hk⟩
            exact ex_sound2 r2 r _ K γ' _ hk (hr.set hle hh hn o.dst hd x v hx) (hlo.trans (hle.mono hlo')) fun γ2 s2 a2 h2 => hQ γ2 s2 a2 ((hle.mono hlo').trans h2)
          · exact h.elim
      · obtain ⟨hok, hd, hk⟩ := h
        obtain ⟨v, γ', hrun, hle, hh, hn, hx⟩ := ev1_run hok hr
        have hrel := hr.set hle hh hn o.dst hd _ v hx
        have := ex_sound2 r2 r _ K γ' _ hk hrel (hlo.trans (hle.mono hlo')) fun γ2 s2 a2 h2 => hQ γ2 s2 a2 ((hle.mono hlo').trans h2)
        refine ⟨fun _ _ => trivial, ?_⟩
        rw [Oper.semAt_eq _ _ _ (fun c e => by rw [e] at hok; exact hok)]
        rcases hrun with hrun | ⟨hrun, rfl⟩
        · rw [hrun]; exact this
        · rw [hrun]; exact this
    unfold ex at h
    simp only at h
    rw [List.cons_append]
    unfold wpListIn
    split at h
    · rename_i hg
      rw [if_pos (by simp [Region.wanted, hg])]
      exact core s hr h
    · rename_i j w hg
      split at h
      · rename_i d b hb
        rw [wanted_of hr hg hb]
        obtain ⟨o', _, _, hlk⟩ := gbool_some hb
        by_cases hbw : b = w
        · subst hbw
          rw [if_pos (by simp)]
          exact core (s.fix d b) (hr.fix hlk) (h.1 rfl)
        · have hbw' : b = !w := by cases b <;> cases w <;> simp_all
          subst hbw'
          rw [if_neg (by simp)]
          obtain ⟨hd, hk⟩ := h.2 rfl
          refine ⟨fun _ _ => trivial, ex_sound2 r2 r _ K γ _ hk ?_ hlo hQ⟩
          have := (hr.fix hlk).set (Gh.le.refl (Nat.le_refl _)) hr.hr hr.nx o.dst hd unit undef (by simp [R, unit])
          exact this
      · obtain ⟨hu, hd, hk⟩ := h
        rw [wanted_und (γ := γ) hg hu (fun _ d x _ _ hx => hr.fr d x hx), if_neg (by simp)]
        refine ⟨fun _ _ => trivial, ex_sound2 r2 r _ K γ _ hk ?_ hlo hQ⟩
        exact hr.set (Gh.le.refl (Nat.le_refl _)) hr.hr hr.nx o.dst hd unit undef (by simp [R, unit])

/-- An operation by what its run is, whatever comes of it. -/
def OpK (P : Program) (s : S) (o : Oper) (K : AV → List (Nat × Ob) → Nat → Prop) : Prop :=
  (∀ c, o.op ≠ .defer c) ∧ o.guard = none ∧ ∀ (γ : Gh) (a : Act), Rel γ s a → ∃ v γ' x hp' nx', (execOp a.eval o).run P γ.w = .ok (.value v) γ'.w ∧ γ.le γ.nx γ' ∧ HRel γ' hp' ∧ γ'.nx = nx' ∧ R γ' false x v ∧ K x hp' nx'
end Go.Eng

namespace Go.Eng
set_option linter.unusedSimpArgs false
set_option linter.unusedVariables false
open Go Go.RowKit

theorem OpK.cap {P : Program} {s : S} {o : Oper} {x : Operand} {t e : TypeId} {K : AV → List (Nat × Ob) → Nat → Prop} (ho : o.op = .call { callee := .builtin .cap, args := #[x], argTypes := #[t] }) (hg : o.guard = none)
    (hu : P.underlying t = some (.slice e)) {z id off n c : Nat} (hx : s.ev x = .csl z id off n c) (hk : K (int c) s.hp s.nx) : OpK P s o K := by
  refine ⟨fun c h => (by rw [ho] at h; cases h), hg, fun γ a hr => ?_⟩
  have hR := hr.ev x
  rw [hx] at hR
  simp only [R] at hR
  obtain ⟨_, _, b, _, hy, _⟩ := hR
  refine ⟨.int .i64 c, γ, int c, s.hp, s.nx, ?_, Gh.le.refl (Nat.le_refl _), hr.hr, hr.nx, by simp only [R, int], hk⟩
  unfold execOp
  simp only [ho, resolve, invoke, builtin, Sem.run_bind, Sem.run_pure, Result.andThen_ok, List.map_toArray, List.map_cons, List.map_nil, hy]
  simp [Builtin.cap_, run_underlying hu]
  rfl

/-- what the first argument of an append holds: a box's cells, or nothing -/
def dstA (hp : List (Nat × Ob)) (z : Nat) : AV → Option (List AV × Nat × Nat)
  | .csl z' id off n c => if z' = z then some (((rowOf hp id).drop off).take (n * z), n, c) else none
  | .v (.slice none 0 0) => some ([], 0, 0)
  | _ => none
def dstOkA (hp : List (Nat × Ob)) (z : Nat) : AV → Prop
  | .csl _ id off n _ => 0 < (rowOf hp id).length ∧ off + n * z ≤ (rowOf hp id).length ∨ n = 0
  | _ => True
theorem dst_read {P : Program} {γ : Gh} {hp : List (Nat × Ob)} (hr : HRel γ hp) {z : Nat} {A : AV} {y : Value} (h : R γ false A y) {cs : List AV} {n c : Nat} (hs : dstA hp z A = some (cs, n, c)) (hok : dstOkA hp z A) :
    ∃ a, y = .slice a n c ∧ n ≤ c ∧ c ≤ maxLen ∧ cs.length = n * z ∧ ∃ us : List Value, RL γ false cs us ∧ (∀ u ∈ us, u.oneCell' = true) ∧
      ∀ w' : World, (∀ b : Nat, w'.heap[b]? = γ.w.heap[b]?) → (Builtin.firstCells z n y).run P w' = .ok us.toArray w' := by
  cases A with
  | csl z' id off m c' =>
    simp only [dstA] at hs
    split at hs
    · rename_i hz
      subst hz
      simp only [Option.some.injEq, Prod.mk.injEq] at hs
      obtain ⟨rfl, rfl, rfl⟩ := hs
      simp only [R] at h
      obtain ⟨_, _, b, hb, rfl, hnc, hcm⟩ := h
      refine ⟨_, rfl, hnc, hcm, ?_⟩
      simp only [dstOkA] at hok
      rcases hok with ⟨h0, hfit⟩ | h0
      · have hrow := rowOf_some (hp := hp) (id := id) h0
        obtain ⟨cur, e, _, hc, _, h1, hv⟩ := box_block hr hrow hb
        refine ⟨by simp; omega, (cur.toList.drop off).take (m * z'), RL_take (RL_drop hv off) _, fun u hu => h1 u (List.mem_of_mem_drop (List.mem_of_mem_take hu)), fun w' hw => ?_⟩
        simp only [Builtin.firstCells]
        have hlen : cur.toList.length = (rowOf hp id).length := (RL_length hv).symm
        have := run_loadCells_list (P := P) w' ⟨b, off, none⟩ ((cur.toList.drop off).take (m * z')) (fun j u hj => by
          rw [List.getElem?_take] at hj
          split at hj
          · rw [List.getElem?_drop] at hj
            rw [Addr.add_lit, cell_eq_of_heap (hw b), cell_of_row _ b _ cur e (0, 0) hc, ← Array.getElem?_toList, hj]
          · cases hj)
        rw [List.length_take, List.length_drop, Nat.min_eq_left (by omega)] at this
        exact this
      · subst h0
        exact ⟨by simp, [], by simp [RL], by simp, fun w' hw => by simp [Builtin.firstCells, loadCells, loadCellsFrom]⟩
    · cases hs
  | v u =>
    simp only [R] at h
    subst h
    cases y with
    | slice a n' c' =>
      cases a with
      | none =>
        match n', c', hs with
        | 0, 0, hs =>
          simp only [dstA] at hs
          cases hs
          exact ⟨_, rfl, by omega, by simp [maxLen], by simp, [], RL_nil, by simp, fun w' _ => by simp [Builtin.firstCells]⟩
        | 0, c + 1, hs => simp [dstA] at hs
        | n + 1, c, hs => simp [dstA] at hs
      | some a => simp [dstA] at hs
    | _ => simp [dstA] at hs
  | _ => simp [dstA] at hs

/-- An append that finds no room: a new box. -/
theorem box_grow {P : Program} {γ : Gh} {hp : List (Nat × Ob)} (hr : HRel γ hp) (bs : γ.base ≤ γ.w.heap.size) {L : Nat} (hL : Free γ hp L) {e : TypeId} {i : TypeInfo} {z : Value} (hi : P.info? e = some i) (hz : i.zero = some z) (hzl : RL γ true (zeroC P e) z.cells.toList)
    (hz1 : ∀ u ∈ z.cells.toList, u.oneCell' = true) (hzs : z.cells.size = P.cellsOf e) (hz0 : 0 < P.cellsOf e) {cs ds : List AV} {us vs : List Value} (hu : RL γ false cs us) (hv : RL γ false ds vs) (hu1 : ∀ u ∈ us, u.oneCell' = true) (hv1 : ∀ u ∈ vs, u.oneCell' = true)
    {N c : Nat} (hNc : N ≤ c) (hc : c ≤ maxLen) :
    ∃ γ', γ'.w = γ.w.drew.alloc (.cells (us.toArray ++ vs.toArray ++ Builtin.zeroCells z.cells (c - N)) e) ∧ γ.le γ.nx γ' ∧ HRel γ' ((L, .box (cs ++ ds ++ zrow (zeroC P e) (c - N))) :: hp) ∧ γ'.nx = γ.nx ∧
      R γ' false (.csl (P.cellsOf e) L 0 N c) (.slice (some ⟨γ.w.heap.size, 0, none⟩) N c) := by
  have hdr := ghost_drew hr
  have hle := hdr.le
  have hrow : RL { γ with w := γ.w.drew } false (cs ++ ds ++ zrow (zeroC P e) (c - N)) (us ++ vs ++ (madeCells z.cells ((c - N) * z.cells.size)).toList) :=
    RL_append (RL_append (RL_le hle hu) (RL_le hle hv)) (RL_le hle (made_R (RL_np _ _ hzl) (by omega) _))
  have h1 : ∀ u ∈ us ++ vs ++ (madeCells z.cells ((c - N) * z.cells.size)).toList, u.oneCell' = true := by
    intro u h
    rcases List.mem_append.1 h with h | h
    · rcases List.mem_append.1 h with h | h
      · exact hu1 u h
      · exact hv1 u h
    · exact made_one hz1 (by omega) _ u h
  obtain ⟨γ', hw, hst, hR⟩ := ghost_box hdr.hr bs (hdr.free L hL (by omega)) _ _ h1 hrow e
  refine ⟨γ', ?_, hle.trans hst.le, hst.hr, hst.nx, ?_⟩
  · rw [hw]
    congr 2
    apply Array.ext'
    simp [madeCells, Builtin.zeroCells]
  · simp only [R] at hR ⊢
    obtain ⟨g1, g2, b, g3, g4⟩ := hR
    cases g4
    exact ⟨trivial, g2, _, g3, rfl, hNc, hc⟩

theorem OpK.grow {P : Program} {s : S} {o : Oper} {x y : Operand} {t tx e : TypeId} {K : AV → List (Nat × Ob) → Nat → Prop} (ho : o.op = .call { callee := .builtin .append, args := #[x, y], argTypes := #[t, tx] }) (hg : o.guard = none)
    (ht : P.underlying t = some (.slice e)) (hz0 : 0 < P.cellsOf e) (hzi : zinfo P e = true) (htx : txOk P tx = true)
    {cs ds : List AV} {n c m : Nat} (hd : dstA s.hp (P.cellsOf e) (s.ev x) = some (cs, n, c)) (hdo : dstOkA s.hp (P.cellsOf e) (s.ev x)) (hs : srcA s.hp (P.cellsOf e) (s.ev y) = some (ds, m)) (hso : srcOk s.hp (P.cellsOf e) (s.ev y))
    (hm : n + m ≤ maxLen) (hby : (n + m) * P.bytesOf e ≤ 140737488355328) (hgr : c < n + m)
    (hk : ∀ c', n + m ≤ c' → c' ≤ maxLen → K (.csl (P.cellsOf e) s.nx 0 (n + m) c') ((s.nx, .box (cs ++ ds ++ zrow (zeroC P e) (c' - (n + m)))) :: s.hp) (s.nx + 1)) : OpK P s o K := by
  refine ⟨fun c h => (by rw [ho] at h; cases h), hg, fun γ a hr => ?_⟩
  obtain ⟨ad, hy, hnc, hcm, hcl, us, hu, hu1, hus⟩ := dst_read (P := P) hr.hr (hr.ev x) hd hdo
  obtain ⟨hdl, hlen, vs, hv, hv1, hvs⟩ := src_read (P := P) hr.hr (hr.ev y) hs hso
  obtain ⟨i, z, hi, hz, hzs, hz1, hzc⟩ := zinfo_some hzi
  obtain ⟨i', hi', e1, e2⟩ := info_of hz0
  rw [hi] at hi'; cases hi'
  have hvlen : vs.length = m * P.cellsOf e := by rw [← RL_length hv, hdl]
  have hv' : vs.take (m * P.cellsOf e) = vs := List.take_of_length_le (by omega)
  have hcap : n + m ≤ grownCap γ.w (n + m) c e := grownCap_ge _ _ _ _
  have hcapm : grownCap γ.w (n + m) c e ≤ maxLen := grownCap_le_maxLen _ _ _ _ hm
  have hrun := run_append_out (P := P) (ty := o.type) ht hi hz htx γ.w ad n c m (a.eval y) hlen hgr (by simp only [maxLen] at hm; omega) (growslice_fits hgr (by rw [e2]; exact hby)) us vs
    (by rw [e1, ← hy]; exact hus γ.w.drew fun _ => rfl) (by rw [e1]; have := hvs γ.w.drew m (Nat.le_refl _) (fun _ => rfl); rw [hv'] at this; exact this)
  obtain ⟨hle0, hh0, hf0⟩ := ghost_bump hr.hr (s.nx + 1) (by rw [hr.nx]; omega)
  obtain ⟨γ', hw, hle, hh, hn, hR⟩ := box_grow (P := P) (γ := { γ with nx := s.nx + 1 }) hh0 hr.bs (hf0 s.nx (by rw [hr.nx]; exact Nat.le_refl _) (by omega)) hi hz (by rw [hzc]; exact RL_vs _ _ _) hz1 (by rw [hzs, e1]) hz0 (RL_le hle0 hu) (RL_le hle0 (RL_np _ _ hv)) hu1 hv1 hcap hcapm
  refine ⟨_, γ', _, _, _, ?_, hle0.trans (hle.mono (by dsimp only; rw [hr.nx]; omega)), hh, hn, hR, hk _ hcap hcapm⟩
  unfold execOp
  simp only [ho, resolve, invoke, builtin, Sem.run_bind, Sem.run_pure, Result.andThen_ok, List.map_toArray, List.map_cons, List.map_nil, hy, hrun, hw]
end Go.Eng

namespace Go.Eng
set_option linter.unusedSimpArgs false
set_option linter.unusedVariables false
open Go Go.RowKit

/-- An append that finds room: in place. -/
theorem OpK.room {P : Program} {s : S} {o : Oper} {x y : Operand} {t tx e : TypeId} {K : AV → List (Nat × Ob) → Nat → Prop} (ho : o.op = .call { callee := .builtin .append, args := #[x, y], argTypes := #[t, tx] }) (hg : o.guard = none)
    (ht : P.underlying t = some (.slice e)) (hz0 : 0 < P.cellsOf e) (htx : txOk P tx = true)
    {id off n c m : Nat} {ds : List AV} (hx : s.ev x = .csl (P.cellsOf e) id off n c) (hs : srcA s.hp (P.cellsOf e) (s.ev y) = some (ds, m)) (hso : srcOk s.hp (P.cellsOf e) (s.ev y))
    (hrow0 : 0 < (rowOf s.hp id).length) (hroom : n + m ≤ c) (hfit : off + (n + m) * P.cellsOf e ≤ (rowOf s.hp id).length)
    (hk : K (.csl (P.cellsOf e) id off (n + m) c) (rep s.hp id (.box (splice (rowOf s.hp id) (off + n * P.cellsOf e) ds))) s.nx) : OpK P s o K := by
  refine ⟨fun c h => (by rw [ho] at h; cases h), hg, fun γ a hr => ?_⟩
  have hR := hr.ev x
  rw [hx] at hR
  simp only [R] at hR
  obtain ⟨_, hid, b, hb, hy, hnc, hcm⟩ := hR
  obtain ⟨hdl, hlen, vs, hv, hv1, hvs⟩ := src_read (P := P) hr.hr (hr.ev y) hs hso
  obtain ⟨i', hi', e1, e2⟩ := info_of hz0
  have hvlen : vs.length = m * P.cellsOf e := by rw [← RL_length hv, hdl]
  have hrow := rowOf_some (hp := s.hp) (id := id) hrow0
  obtain ⟨cur, e', _, hc, _, k1, hcv⟩ := box_block hr.hr hrow hb
  have hcl : cur.size = (rowOf s.hp id).length := by have := RL_length hcv; simpa using this.symm
  rw [Nat.add_mul] at hfit
  obtain ⟨γ', hw, hst0⟩ := ghost_store hr.hr hrow hb cur e' hc (off + n * P.cellsOf e) ds vs hv1 (RL_np _ _ hv) (by omega)
  have hst : (storeCells ((⟨b, off, none⟩ : Addr).add (n * i'.size)) vs).run P γ.w = .ok () γ'.w := by
    have := run_storeCells_at P b (off + n * P.cellsOf e) e' vs 0 cur γ.w hc (by omega) hv1
    rw [hw, Addr.add_lit, e1]; simpa using this
  have hfc := hvs γ.w m (Nat.le_refl _) (fun _ => rfl)
  rw [List.take_of_length_le (by omega)] at hfc
  have hrun := run_append_in (P := P) (ty := o.type) ht hi' htx γ.w γ'.w (some ⟨b, off, none⟩) n c m (a.eval y) hlen hroom vs (by rw [e1]; exact hfc) hst
  refine ⟨.slice (some ⟨b, off, none⟩) (n + m) c, γ', .csl (P.cellsOf e) id off (n + m) c, _, s.nx, ?_, hst0.le, hst0.hr, hst0.nx.trans hr.nx, ?_, hk⟩
  · unfold execOp
    simp only [ho, resolve, invoke, builtin, Sem.run_bind, Sem.run_pure, Result.andThen_ok, List.map_toArray, List.map_cons, List.map_nil, hy, hrun]
  · simp only [R]
    exact ⟨trivial, by rw [hst0.nx]; exact hid, b, hst0.le.mu id b hid hb, rfl, hroom, hcm⟩

/-- append(s, make([]T, k)...) that finds no room. -/
theorem OpK.zeros {P : Program} {s : S} {o : Oper} {x y : Operand} {t tx e : TypeId} {kq kn : IntKind} {K : AV → List (Nat × Ob) → Nat → Prop} (ho : o.op = .call { callee := .builtin .append, args := #[x, y], argTypes := #[t, tx] }) (hg : o.guard = none)
    (ht : P.underlying t = some (.slice e)) (hz0 : 0 < P.cellsOf e) (hzi : zinfo P e = true) (htx : P.underlying tx = some (.int kn))
    {cs : List AV} {n c m : Nat} (hd : dstA s.hp (P.cellsOf e) (s.ev x) = some (cs, n, c)) (hdo : dstOkA s.hp (P.cellsOf e) (s.ev x)) (hy : s.ev y = .v (.int kq m)) (hm0 : 0 < m)
    (hm : n + m ≤ maxLen) (hby : (n + m) * P.bytesOf e ≤ 140737488355328) (hgr : c < n + m)
    (hk : ∀ c', n + m ≤ c' → c' ≤ maxLen → K (.csl (P.cellsOf e) s.nx 0 (n + m) c') ((s.nx, .box (cs ++ zrow (zeroC P e) m ++ zrow (zeroC P e) (c' - (n + m)))) :: s.hp) (s.nx + 1)) : OpK P s o K := by
  refine ⟨fun c h => (by rw [ho] at h; cases h), hg, fun γ a hr => ?_⟩
  obtain ⟨ad, hyx, hnc, hcm, hcl, us, hu, hu1, hus⟩ := dst_read (P := P) hr.hr (hr.ev x) hd hdo
  have hyv := hr.ev y
  rw [hy] at hyv
  simp only [R] at hyv
  obtain ⟨i, z, hi, hz, hzs, hz1, hzc⟩ := zinfo_some hzi
  obtain ⟨i', hi', e1, e2⟩ := info_of hz0
  rw [hi] at hi'; cases hi'
  have hcap : n + m ≤ grownCap γ.w (n + m) c e := grownCap_ge _ _ _ _
  have hcapm : grownCap γ.w (n + m) c e ≤ maxLen := grownCap_le_maxLen _ _ _ _ hm
  have hbm : m * P.bytesOf e ≤ (n + m) * P.bytesOf e := Nat.mul_le_mul_right _ (by omega)
  have hrun := Lib.run_append_grow_zeros (P := P) γ.w t tx o.type e i z kq kn ht htx hi hz ad n c us (by rw [e1, ← hyx]; exact hus γ.w.drew fun _ => rfl) m hm0 (by omega) hgr (by simp only [maxLen] at hm; omega) (by rw [e2]; omega) (growslice_fits hgr (by rw [e2]; exact hby))
  obtain ⟨hle0, hh0, hf0⟩ := ghost_bump hr.hr (s.nx + 1) (by rw [hr.nx]; omega)
  have hzl : RL γ true (zeroC P e) z.cells.toList := by rw [hzc]; exact RL_vs _ _ _
  have hzz : z.cells.size = P.cellsOf e := by rw [hzs, e1]
  have hmd : RL γ false (zrow (zeroC P e) m) (Builtin.zeroCells z.cells m).toList := by
    have := made_R (n := m) (RL_np _ _ hzl) (by omega)
    have e3 : Builtin.zeroCells z.cells m = madeCells z.cells (m * z.cells.size) := by simp [madeCells, Builtin.zeroCells]
    rw [e3]; exact this
  have hmd1 : ∀ u ∈ (Builtin.zeroCells z.cells m).toList, u.oneCell' = true := by
    have := made_one (n := m * z.cells.size) hz1 (by omega)
    have e3 : Builtin.zeroCells z.cells m = madeCells z.cells (m * z.cells.size) := by simp [madeCells, Builtin.zeroCells]
    rw [e3]; exact this
  obtain ⟨γ', hw, hle, hh, hn, hR⟩ := box_grow (P := P) (γ := { γ with nx := s.nx + 1 }) hh0 hr.bs (hf0 s.nx (by rw [hr.nx]; exact Nat.le_refl _) (by omega)) hi hz (by rw [hzc]; exact RL_vs _ _ _) hz1 hzz hz0 (RL_le hle0 hu) (RL_le hle0 hmd) hu1 hmd1 hcap hcapm
  refine ⟨_, γ', _, _, _, ?_, hle0.trans (hle.mono (by dsimp only; rw [hr.nx]; omega)), hh, hn, hR, hk _ hcap hcapm⟩
  unfold execOp
  simp only [ho, resolve, invoke, builtin, Sem.run_bind, Sem.run_pure, Result.andThen_ok, List.map_toArray, List.map_cons, List.map_nil, hyx, hyv, hrun, hw]

/-- []T{}: a box with nothing in it -/
theorem OpK.build0 {P : Program} {s : S} {o : Oper} {t e : TypeId} {K : AV → List (Nat × Ob) → Nat → Prop} (ho : o.op = .buildSlice t 0 #[]) (hg : o.guard = none)
    (ht : P.underlying t = some (.slice e)) (hz0 : 0 < P.cellsOf e) (hk : K (.csl (P.cellsOf e) s.nx 0 0 0) ((s.nx, .box []) :: s.hp) (s.nx + 1)) : OpK P s o K := by
  refine ⟨fun c h => (by rw [ho] at h; cases h), hg, fun γ a hr => ?_⟩
  obtain ⟨hle0, hh0, hf0⟩ := ghost_bump hr.hr (s.nx + 1) (by rw [hr.nx]; omega)
  obtain ⟨γ', hw, hst, hR⟩ := ghost_box (γ := { γ with nx := s.nx + 1 }) hh0 hr.bs (hf0 s.nx (by rw [hr.nx]; exact Nat.le_refl _) (by omega)) [] [] (by simp) RL_nil e
  refine ⟨.slice (some ⟨γ.w.heap.size, 0, none⟩) 0 0, γ', _, _, _, ?_, hle0.trans (hst.le.mono (by dsimp only; rw [hr.nx]; omega)), hst.hr, hst.nx, ?_, hk⟩
  · unfold execOp
    simp only [ho, Instr.buildSlice, Sem.run_bind, run_underlying ht, Result.andThen_ok, run_sizeOf hz0]
    rw [if_neg (by omega), if_pos (by omega)]
    simp [newRow, run_newObj, hw, Instr.fill]
    congr 2
    apply Array.ext'
    simp
  · simp only [R] at hR ⊢
    obtain ⟨g1, g2, b, g3, g4⟩ := hR
    cases g4
    exact ⟨trivial, g2, _, g3, rfl, by omega, by simp [maxLen]⟩
end Go.Eng

namespace Go.Eng
set_option linter.unusedSimpArgs false
set_option linter.unusedVariables false
open Go Go.RowKit

/-- slices.overlaps at what is newly built, and a part of a box. -/
theorem CallK.apart {P : Program} {g : FuncId} {fn : Func} {tS tR e : TypeId} (hf : P.funcs[g]? = some fn) (hname : (fn.name == "runtime.NumGoroutine") = false) (hb : fn.body.isNone = true) (hn : Extern.findNext fn = none)
    (he : Extern.find fn = some (Extern.SlicesOverlaps.overlaps #[tS, tS] #[tR])) (ht : P.underlying tS = some (.slice e)) (hz0 : 0 < P.cellsOf e) {hp : List (Nat × Ob)} {nx : Nat} {K : AV → List (Nat × Ob) → Nat → Prop}
    {z z' n k id off m : Nat} {cs : List AV} (hk : look hp k = some .tok) (hrow0 : 0 < (rowOf hp id).length) (hm : 0 < m) (hK : K (boo false) hp nx) : CallK P g [.sl z cs n (some k), .bsl z' id off m] hp nx K := by
  intro γ cargs hr hnx bs hargs
  simp only [RL] at hargs
  obtain ⟨u, us, rfl, h1, u2, us2, rfl, h2, rfl⟩ := hargs
  refine .inr ⟨.bool false, γ.w, ?_, γ, boo false, hp, nx, rfl, Gh.le.refl (Nat.le_refl _), hr, hnx, by simp [R], hK⟩
  rw [run_callFunc_extern hf hname hb hn he]
  suffices h : (Extern.SlicesOverlaps.overlaps #[tS, tS] #[tR] [u, u2].toArray).run P γ.w = .ok (.bool false) γ.w by rw [h]; rfl
  simp only [R] at h1 h2
  obtain ⟨a, cap, rfl, hnc, _, _, _, _, htk⟩ := h1
  obtain ⟨_, _, b2, a2, cap2, hb2, rfl, _, _, h5⟩ := h2
  obtain rfl := h5.resolve_left (by omega)
  have hrow := rowOf_some (hp := hp) (id := id) hrow0
  obtain ⟨cur2, e2, _, hc2, _, _, hv2⟩ := box_block hr hrow hb2
  obtain ⟨_, _, _, htl⟩ := htk k rfl
  rcases htl ((hr.tok k).2 hk) with rfl | ⟨b, o, cur, e', rfl, hb1, _, hc, _, _⟩
  · show Sem.run P (α := Value) (do
      let some t := (#[tS, tS] : Array TypeId)[0]? | stuck "slices.overlaps: no parameter types"
      let .slice elem ← underlying t | stuck "slices.overlaps: slice type expected"
      let size ← sizeOf elem
      pure (Value.bool false)) γ.w = _
    simp [run_underlying ht, run_sizeOf hz0]
  · have hne : b ≠ b2 := by
      rintro rfl
      have := hr.inj k id b (by rw [hk]; rfl) (by rw [hrow]; rfl) hb1 hb2
      subst this
      rw [hk] at hrow; cases hrow
    have hl2 : cur2.size = (rowOf hp id).length := by have := RL_length hv2; simpa using this.symm
    exact Lib.run_overlaps_apart (P := P) γ.w tS tR e ht (P.cellsOf e) (fun w => run_sizeOf hz0 w) ⟨b, o, none⟩ ⟨b2, off, none⟩ n cap m cap2 hne e' e2 cur.size cur2.size
      (by unfold World.shape?; rw [hc]) (by unfold World.shape?; rw [hc2]) (by omega) (by unfold World.frozen?; rw [hc]; simp) (by unfold World.frozen?; simp only; rw [hc]; simp)

/-- a call at what reads as less -/
theorem CallK.args {P : Program} {g : FuncId} {as as' : List AV} {hp : List (Nat × Ob)} {nx : Nat} {K : AV → List (Nat × Ob) → Nat → Prop} (h : CallK P g as' hp nx K) (hw : WkFL as as') : CallK P g as hp nx K :=
  fun γ cargs h1 h2 h3 h4 => h γ cargs h1 h2 h3 (hw γ cargs h4)
/-- what is known of boxes, said ahead -/
theorem CallK.over {P : Program} {g : FuncId} {as : List AV} {bx hp : List (Nat × Ob)} {nx : Nat} {K : AV → List (Nat × Ob) → Nat → Prop} (hbx : ∀ l ob, look bx l = some ob → look hp l = some ob) (h : CallK P g as (bx ++ hp) nx K) : CallK P g as hp nx K :=
  fun γ cargs h1 h2 h3 h4 => h γ cargs (h1.look (look_over hbx)) h2 h3 h4
end Go.Eng

namespace Go.Eng
set_option linter.unusedSimpArgs false
set_option linter.unusedVariables false
open Go Go.RowKit

/-- A region, from some operation on; γ0: the ghost at its beginning. -/
def AWL (P : Program) (C : Cx) (γ0 : Gh) (all : Array Oper) (r : List Oper) (Q : Exit → S → Prop) (s : S) : Prop :=
  ∀ (γ : Gh) (a : Act), C.γ1.le C.lo γ0 → γ0.le C.lo γ → Rel γ s a → wpListIn (FF C.r) 0 P all (fun e a' w' => ∃ γ' s', γ'.w = w' ∧ γ0.le C.lo γ' ∧ Rel γ' s' a' ∧ Q e s') r a γ.w
section
variable {P : Program} {C : Cx} {γ0 : Gh} {all : Array Oper} {Q : Exit → S → Prop} {s : S}
theorem AW.regionL {id : Nat} (r : List Oper) (hr : all.toList = r) (h : ∀ γ0, AWL P C γ0 all r Q s) : AW P C (.region id all false) Q s := by
  intro γ a hl hrel
  refine wpIn_region_list ?_
  rw [hr]
  exact h γ γ a hl (Gh.le.refl hl.nxl) hrel
theorem AWL.ex (r r2 : List Oper) (h : ex P C all.toList r s fun s1 => AWL P C γ0 all r2 Q s1) : AWL P C γ0 all (r ++ r2) Q s := by
  intro γ a hl hle hr
  exact ex_sound2 r2 r s _ γ a h hr (hl.trans hle) fun γ1 s1 a1 hle1 hr1 hk => hk γ1 a1 hl (hle.trans hle1) hr1
theorem AWL.done {r : List Oper} (h : Eng.ex P C all.toList r s (Q .normal)) : AWL P C γ0 all r Q s := by
  intro γ a hl hle hr
  exact ex_sound r s _ γ a h hr (hl.trans hle) fun γ3 s3 a3 hle3 hr3 hk3 => ⟨γ3, s3, rfl, hle.trans hle3, hr3, hk3⟩
theorem AWL.op {o : Oper} {r : List Oper} (h : OpK P s o fun x hp nx => dstOk s o.dst = true ∧ AWL P C γ0 all r Q (s.set o.dst x hp nx)) : AWL P C γ0 all (o :: r) Q s := by
  obtain ⟨hnd, hg, hk⟩ := h
  intro γ a hl hle hr
  obtain ⟨v, γ2, x, hp', nx', hrun, hle2, hh, hn, hx, hd, hK⟩ := hk γ a hr
  have hlo := (hl.trans hle).nxl
  unfold wpListIn
  rw [if_pos (by simp [Region.wanted, hg])]
  refine ⟨fun _ _ => trivial, ?_⟩
  rw [Oper.semAt_eq _ _ _ hnd, hrun]
  exact hK γ2 _ hl (hle.trans (hle2.mono hlo)) (hr.set hle2 hh hn o.dst hd x v hx)
theorem AWL.split (n : Nat) {r : List Oper} (h : AWL P C γ0 all (r.take n ++ r.drop n) Q s) : AWL P C γ0 all r Q s := by rwa [List.take_append_drop] at h
end
end Go.Eng

namespace Go.Eng
set_option linter.unusedSimpArgs false
set_option linter.unusedVariables false
open Go Go.RowKit
/-- An append of nothing. -/
theorem OpK.nought {P : Program} {s : S} {o : Oper} {x y : Operand} {t tx e : TypeId} {K : AV → List (Nat × Ob) → Nat → Prop} (ho : o.op = .call { callee := .builtin .append, args := #[x, y], argTypes := #[t, tx] }) (hg : o.guard = none)
    (ht : P.underlying t = some (.slice e)) (hz0 : 0 < P.cellsOf e) (htx : txOk P tx = true)
    {id off n c : Nat} {ds : List AV} (hx : s.ev x = .csl (P.cellsOf e) id off n c) (hs : srcA s.hp (P.cellsOf e) (s.ev y) = some (ds, 0)) (hso : srcOk s.hp (P.cellsOf e) (s.ev y))
    (hk : K (.csl (P.cellsOf e) id off n c) s.hp s.nx) : OpK P s o K := by
  refine ⟨fun c h => (by rw [ho] at h; cases h), hg, fun γ a hr => ?_⟩
  have hR := hr.ev x
  rw [hx] at hR
  have hR' := hR
  simp only [R] at hR
  obtain ⟨_, hid, b, hb, hy, hnc, hcm⟩ := hR
  obtain ⟨hdl, hlen, vs, hv, hv1, hvs⟩ := src_read (P := P) hr.hr (hr.ev y) hs hso
  obtain ⟨i', hi', e1, e2⟩ := info_of hz0
  have hvlen : vs = [] := List.eq_nil_of_length_eq_zero (by rw [← RL_length hv, hdl]; simp)
  subst hvlen
  have hfc := hvs γ.w 0 (Nat.le_refl _) (fun _ => rfl)
  have hrun := run_append_in (P := P) (ty := o.type) ht hi' htx γ.w γ.w (some ⟨b, off, none⟩) n c 0 (a.eval y) hlen (by omega) [] (by rw [e1]; simpa using hfc) (by simp [storeCells])
  refine ⟨.slice (some ⟨b, off, none⟩) n c, γ, .csl (P.cellsOf e) id off n c, s.hp, s.nx, ?_, Gh.le.refl (Nat.le_refl _), hr.hr, hr.nx, ?_, hk⟩
  · unfold execOp
    simp only [ho, resolve, invoke, builtin, Sem.run_bind, Sem.run_pure, Result.andThen_ok, List.map_toArray, List.map_cons, List.map_nil, hy, hrun, Nat.add_zero]
  · rw [hy] at hR'; exact hR'
/-- an operation that a walk of boxes with room looks at by itself -/
def apOp : Op → Bool
  | .call { callee := .builtin .append, .. } => true
  | .call { callee := .builtin .cap, .. } => true
  | .buildSlice _ 0 _ => true
  | _ => false
theorem AW.regionN {P : Program} {C : Cx} {s : S} {id : Nat} {ops : Array Oper} {Q : Exit → S → Prop} (h0 : ops.toList.any (fun o => apOp o.op) = false) (h : ex P C ops.toList ops.toList s (Q .normal)) : AW P C (.region id ops false) Q s := AW.region h
end Go.Eng

namespace Go.Eng
set_option linter.unusedSimpArgs false
set_option linter.unusedVariables false
open Go Go.RowKit
def sb (k l : Nat) : Nat := bif Nat.beq l 3 then k + 3 else l
def TT.sub (k : Nat) (p : TT) : TT := ⟨p.W.map (sb k), p.H.map (sb k), p.Q.map (sb k)⟩
def TT.sm (p : TT) : Bool := p.W.all (fun l => Nat.ble l 3) && p.H.all (fun l => Nat.ble l 3)
theorem sb_beq {k l m : Nat} (hl : Nat.ble l 3 = true) (hm : Nat.ble m 3 = true) : Nat.beq (sb k l) (sb k m) = Nat.beq l m := by
  have h1 := Nat.le_of_ble_eq_true hl
  have h2 := Nat.le_of_ble_eq_true hm
  rw [Bool.eq_iff_iff, Nat.beq_eq, Nat.beq_eq]
  unfold sb
  by_cases e1 : l = 3
  · by_cases e2 : m = 3
    · subst e1; subst e2; simp
    · have : Nat.beq m 3 = false := beq_ne e2
      subst e1; simp only [Nat.beq_refl, cond_true, this, cond_false]; omega
  · have h3 : Nat.beq l 3 = false := beq_ne e1
    by_cases e2 : m = 3
    · subst e2; simp only [Nat.beq_refl, cond_true, h3, cond_false]; omega
    · have : Nat.beq m 3 = false := beq_ne e2
      simp only [h3, this, cond_false]
theorem any_cg {α : Type} {p q : α → Bool} : ∀ {l : List α}, (∀ x ∈ l, p x = q x) → l.any p = l.any q
  | [], _ => rfl
  | x :: l, h => by rw [List.any_cons, List.any_cons, h x (by simp), any_cg fun y hy => h y (List.mem_cons_of_mem _ hy)]
theorem all_cg {α : Type} {p q : α → Bool} : ∀ {l : List α}, (∀ x ∈ l, p x = q x) → l.all p = l.all q
  | [], _ => rfl
  | x :: l, h => by rw [List.all_cons, List.all_cons, h x (by simp), all_cg fun y hy => h y (List.mem_cons_of_mem _ hy)]
theorem hits_sub {k : Nat} {a b : List Nat} (ha : a.all (fun l => Nat.ble l 3) = true) (hb : b.all (fun l => Nat.ble l 3) = true) : hits (a.map (sb k)) (b.map (sb k)) = hits a b := by
  unfold hits
  rw [List.any_map]
  refine any_cg fun x hx => ?_
  simp only [Function.comp]
  rw [List.any_map]
  exact any_cg fun y hy => sb_beq (List.all_eq_true.1 ha x hx) (List.all_eq_true.1 hb y hy)
theorem contains_sub {k l : Nat} {b : List Nat} (hl : Nat.ble l 3 = true) (hb : b.all (fun l => Nat.ble l 3) = true) : (b.map (sb k)).contains (sb k l) = b.contains l := by
  rw [Bool.eq_iff_iff, List.contains_iff_mem, List.contains_iff_mem, List.mem_map]
  constructor
  · rintro ⟨m, hm, e⟩
    have h1 := sb_beq (k := k) (List.all_eq_true.1 hb m hm) hl
    have h2 : Nat.beq (sb k m) (sb k l) = true := by rw [e]; exact Nat.beq_refl _
    rw [h1] at h2
    rwa [Nat.eq_of_beq_eq_true h2] at hm
  · intro h; exact ⟨l, h, rfl⟩
theorem ordT_sub {k : Nat} {ops : Array Oper} {ts : List TT} (h : ts.all TT.sm = true) : ordT ops (ts.map (TT.sub k)) = ordT ops ts := by
  have hs : ∀ p ∈ ts, p.W.all (fun l => Nat.ble l 3) = true ∧ p.H.all (fun l => Nat.ble l 3) = true := fun p hp => by
    have := List.all_eq_true.1 h p hp
    simpa [TT.sm] using this
  unfold ordT
  congr 1
  · unfold tOk
    rw [List.all_map]
    refine all_cg fun p hp => ?_
    simp only [Function.comp, TT.sub]
    rw [List.all_map]
    refine all_cg fun l hl => ?_
    simp only [Function.comp]
    exact contains_sub (List.all_eq_true.1 (hs p hp).1 l hl) (hs p hp).2
  · refine all_cg fun j _ => ?_
    rw [List.getElem?_map]
    cases hj : ops[j]? with
    | none => rfl
    | some y =>
      cases hq : ts[j]? with
      | none => rfl
      | some q =>
        simp only [Option.map_some]
        congr 1
        refine all_cg fun i _ => ?_
        rw [List.getElem?_map]
        cases hi : ops[i]? with
        | none => rfl
        | some x =>
          cases hp : ts[i]? with
          | none => rfl
          | some p =>
            simp only [Option.map_some, TT.sub]
            have h1 := hs p (List.mem_of_getElem? hp)
            have h2 := hs q (List.mem_of_getElem? hq)
            rw [hits_sub h1.1 h2.2, hits_sub h1.2 h2.1]
theorem OrdT.param {ops : Array Oper} {F : Nat → List TT} {k : Nat} (h0 : (F 0).all TT.sm = true) (h : ordT ops (F 0) = true) (hF : F k = (F 0).map (TT.sub k)) : OrdT ops (F k) := by
  rw [OrdT, hF, ordT_sub h0]
  exact h
theorem OrdT.all {ops : Array Oper} {F : Nat → List TT} (h0 : (F 0).all TT.sm = true) (h : ordT ops (F 0) = true) (hF : ∀ k, F k = (F 0).map (TT.sub k)) : ∀ k, OrdT ops (F k) := fun k => OrdT.param h0 h (hF k)
end Go.Eng

namespace Go.Eng
set_option linter.unusedSimpArgs false
set_option linter.unusedVariables false
open Go Go.RowKit
/-- nothing, as what can be appended to -/
theorem Sub.nilTok {C : Cx} {s : S} (t z : Nat) (hlo : C.lo ≤ s.nx) (h : look s.fr t = some nilS) : Sub C s ⟨(t, .sl z [] 0 (some s.nx)) :: s.fr, s.sz, (s.nx, .tok) :: s.hp, s.nx + 1, s.df⟩ := by
  intro γ a hl hr
  obtain ⟨hle0, hh0, hf0⟩ := ghost_bump hr.hr (s.nx + 1) (by rw [hr.nx]; omega)
  obtain ⟨γ1, g1, g2, g5, g6, g7⟩ := ghost_tok (γ := { γ with nx := s.nx + 1 }) hh0 (hf0 s.nx (by rw [hr.nx]; exact Nat.le_refl _) (by omega))
  have hle : γ.le γ.nx γ1 := hle0.trans (g2.le.mono (by dsimp only; rw [hr.nx]; omega))
  refine ⟨γ1, g1, hle.mono (by rw [hr.nx]; exact hlo), ⟨⟨fun t' x hx => ?_, hr.sz, g2.hr, DF_le hle hr.df, by rw [hle.base, g1]; exact hr.bs⟩, g2.nx⟩⟩
  dsimp only at hx
  rw [look_cons] at hx
  split at hx
  · rename_i e
    subst e
    cases hx
    have := hr.fr _ _ h
    simp only [R] at this ⊢
    exact ⟨none, 0, this, Nat.le_refl _, by simp [maxLen], by simp, by simp, .inl trivial, fun k' e' => by cases e'; exact ⟨rfl, by rw [g2.nx]; exact Nat.lt_succ_self _, g7, fun _ => .inl rfl⟩⟩
  · exact R_le hle (hr.fr t' x hx)
end Go.Eng

