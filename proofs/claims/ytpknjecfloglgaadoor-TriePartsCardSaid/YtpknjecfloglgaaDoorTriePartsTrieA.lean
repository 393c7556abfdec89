/- What trie and its document compute, function by function (leaves); conditions on lengths alone. -/
import Derived.Test.YtpknjecfloglgaaDoorTriePartsWalkB
set_option linter.unusedVariables false
set_option linter.unusedSimpArgs false
namespace Go.Proofs.YtpknjecfloglgaaDoor
open Go Go.Eng Go.Proofs
set_option maxRecDepth 100000
set_option maxHeartbeats 1000000
set_option linter.unusedSimpArgs false
set_option linter.unusedVariables false
abbrev Lf := List UInt8
def all64 (d : List Lf) : Prop := ∀ x ∈ d, x.length = 64
theorem flat_len {d : List Lf} (h : all64 d) : d.flatten.length = d.length * 64 := by
  induction d with
  | nil => rfl
  | cons x d ih =>
    rw [List.flatten_cons, List.length_append, ih (fun y hy => h y (by simp [hy])), h x (by simp), List.length_cons, Nat.add_mul]; omega
abbrev lsl (d : List Lf) : AV := .sl 64 (bys d.flatten) d.length none
def bxr (d : List Lf) (c : Nat) : List AV := bys (d.flatten ++ List.replicate ((c - d.length) * 64) 0)
theorem zrow64 (n : Nat) : zrow (List.replicate 64 (u8 0)) n = bys (List.replicate (n * 64) 0) := by
  apply List.ext_getElem?
  intro i
  have hz : (0 : Nat) < (List.replicate 64 (u8 0)).length := by simp
  by_cases h : i < n * 64
  · rw [zrow, getElem?_flatten_replicate _ hz n i (by simpa using h)]
    have : i % 64 < 64 := Nat.mod_lt _ (by decide)
    generalize hr : List.replicate 64 (u8 0) = rr at hz
    have hrl : rr.length = 64 := by rw [← hr, List.length_replicate]
    rw [hrl, ← hr, List.getElem?_replicate, if_pos this]
    simp only [bys, List.getElem?_map, List.getElem?_replicate, if_pos h]; rfl
  · rw [List.getElem?_eq_none (by rw [length_zrow]; simp; omega), List.getElem?_eq_none (by simp [bys]; omega)]
theorem f29 (d : List Lf) (hd : all64 d) (hn : d.length ≤ 1000000) : AFun Tryd.prog 29 [lsl d] (lsl d) := by
  refine AFun.enterW Tryd.func29 rfl Tryd.call29 (by simp [Tryd.ntmps29]) fun γ1 => ?_
  simp only [frameOf, Tryd.ntmps29]
  refine AW.seq (AW.region ?_)
  simp only [go_sem, Nat.reduceLT, Nat.reduceEqDiff, reduceIte, Int.reduceEq, Int.reduceLE, Int.reduceLT, Nat.reduceMul, Nat.reduceAdd, Nat.reduceSub, Int.reduceNeg, Int.reduceAdd, Int.reduceMul, Int.reduceSub, Int.reduceToNat, Nat.reduceLeDiff, Nat.reduceDiv, Int.reduceDiv, reduceCtorEq, Option.some.injEq, exists_eq_left']
  refine AW.seq (AW.seq ?_)
  refine AW.nilTest rfl rfl rfl rfl rfl rfl (by simp) (by simp) (by simp only [go_sem]; rfl) rfl (fun h => ?_) ?_
  · repeat (first | simp only [go_sem, Nat.reduceLT, Nat.reduceEqDiff, reduceIte, Int.reduceEq, Int.reduceLE, Int.reduceLT, Nat.reduceMul, Nat.reduceAdd, Nat.reduceSub, Int.reduceNeg, Int.reduceAdd, Int.reduceMul, Int.reduceSub, Int.reduceToNat, Nat.reduceLeDiff, Nat.reduceDiv, Int.reduceDiv, reduceCtorEq, Option.some.injEq, exists_eq_left'] | refine AW.seq ?_ | refine AW.block ?_ | refine AW.scope ?_ | refine AW.cond_tt rfl ?_ | refine AW.cond_ff rfl ?_ | refine AW.label ?_ | refine AW.skip ?_ | refine AW.ret ?_ | refine AW.exit ?_ | refine AW.region ?_ | refine AW.draw (by kernel_rfl) (by decide +kernel) ?_ | refine AW.drawN (by kernel_rfl) (by decide +kernel) ?_ | ((with_reducible refine And.intro ?_ ?_); (focus ((repeat' (with_reducible apply And.intro)) <;> first | (with_reducible exact OrdAt.of (by kernel_rfl)) | (with_reducible exact OrdT.of (by kernel_rfl)) | exact True.intro | (with_reducible assumption) | omega | rfl | exact Nat.le_of_ble_eq_true rfl | exact Or.inl trivial | (unfold inI; omega)))))
    exact Wk.nil h (by simp [bys, List.eq_nil_of_length_eq_zero h])
  · repeat (first | simp only [go_sem, Nat.reduceLT, Nat.reduceEqDiff, reduceIte, Int.reduceEq, Int.reduceLE, Int.reduceLT, Nat.reduceMul, Nat.reduceAdd, Nat.reduceSub, Int.reduceNeg, Int.reduceAdd, Int.reduceMul, Int.reduceSub, Int.reduceToNat, Nat.reduceLeDiff, Nat.reduceDiv, Int.reduceDiv, reduceCtorEq, Option.some.injEq, exists_eq_left'] | refine AW.seq ?_ | refine AW.block ?_ | refine AW.scope ?_ | refine AW.cond_tt rfl ?_ | refine AW.cond_ff rfl ?_ | refine AW.label ?_ | refine AW.skip ?_ | refine AW.ret ?_ | refine AW.exit ?_ | refine AW.region ?_ | refine AW.draw (by kernel_rfl) (by decide +kernel) ?_ | refine AW.drawN (by kernel_rfl) (by decide +kernel) ?_ | ((with_reducible refine And.intro ?_ ?_); (focus ((repeat' (with_reducible apply And.intro)) <;> first | (with_reducible exact OrdAt.of (by kernel_rfl)) | (with_reducible exact OrdT.of (by kernel_rfl)) | exact True.intro | (with_reducible assumption) | omega | rfl | exact Nat.le_of_ble_eq_true rfl | exact Or.inl trivial | (unfold inI; omega)))))
    repeat (first | simp only [go_sem, Nat.reduceLT, Nat.reduceEqDiff, reduceIte, Int.reduceEq, Int.reduceLE, Int.reduceLT, Nat.reduceMul, Nat.reduceAdd, Nat.reduceSub, Int.reduceNeg, Int.reduceAdd, Int.reduceMul, Int.reduceSub, Int.reduceToNat, Nat.reduceLeDiff, Nat.reduceDiv, Int.reduceDiv, reduceCtorEq, Option.some.injEq, exists_eq_left'] | refine AW.seq ?_ | refine AW.block ?_ | refine AW.scope ?_ | refine AW.cond_tt rfl ?_ | refine AW.cond_ff rfl ?_ | refine AW.label ?_ | refine AW.skip ?_ | refine AW.ret ?_ | refine AW.exit ?_ | refine AW.region ?_ | refine AW.draw (by kernel_rfl) (by decide +kernel) ?_ | refine AW.drawN (by kernel_rfl) (by decide +kernel) ?_ | ((with_reducible refine And.intro ?_ ?_); (focus ((repeat' (with_reducible apply And.intro)) <;> first | (with_reducible exact OrdAt.of (by kernel_rfl)) | (with_reducible exact OrdT.of (by kernel_rfl)) | exact True.intro | (with_reducible assumption) | omega | rfl | exact Nat.le_of_ble_eq_true rfl | exact Or.inl trivial | (unfold inI; omega)))))
    exact Wk.refl _
theorem k29 (d : List Lf) (hd : all64 d) (hn : d.length ≤ 1000000) {hp : List (Nat × Ob)} {nx : Nat} {K : AV → List (Nat × Ob) → Nat → Prop} (h0 : d = [] → K nilS hp nx)
    (h1 : d = [] → K (.csl 64 nx 0 0 0) ((nx, .box []) :: hp) (nx + 1))
    (h2 : d ≠ [] → ∀ c, d.length ≤ c → c ≤ maxLen → K (.csl 64 (nx + 1) 0 d.length c) ((nx + 1, .box (bxr d c)) :: (nx, .box []) :: hp) (nx + 2)) : CallK Tryd.prog 29 [lsl d] hp nx K := by
  refine CallK.enter Tryd.func29 rfl Tryd.call29 (by simp [Tryd.ntmps29]) fun γ1 => ?_
  simp only [frameOf, Tryd.ntmps29]
  refine AW.seq (AW.region ?_)
  simp only [go_sem, Nat.reduceLT, Nat.reduceEqDiff, reduceIte, Int.reduceEq, Int.reduceLE, Int.reduceLT, Nat.reduceMul, Nat.reduceAdd, Nat.reduceSub, Int.reduceNeg, Int.reduceAdd, Int.reduceMul, Int.reduceSub, Int.reduceToNat, Nat.reduceLeDiff, Nat.reduceDiv, Int.reduceDiv, reduceCtorEq, Option.some.injEq, exists_eq_left']
  refine AW.seq (AW.seq ?_)
  refine AW.nilTest rfl rfl rfl rfl rfl rfl (by simp) (by simp) (by simp only [go_sem]; rfl) rfl (fun h => ?_) ?_
  · repeat (first | simp only [go_sem, Nat.reduceLT, Nat.reduceEqDiff, reduceIte, Int.reduceEq, Int.reduceLE, Int.reduceLT, Nat.reduceMul, Nat.reduceAdd, Nat.reduceSub, Int.reduceNeg, Int.reduceAdd, Int.reduceMul, Int.reduceSub, Int.reduceToNat, Nat.reduceLeDiff, Nat.reduceDiv, Int.reduceDiv, reduceCtorEq, Option.some.injEq, exists_eq_left'] | refine AW.seq ?_ | refine AW.block ?_ | refine AW.scope ?_ | refine AW.cond_tt rfl ?_ | refine AW.cond_ff rfl ?_ | refine AW.label ?_ | refine AW.skip ?_ | refine AW.ret ?_ | refine AW.exit ?_ | refine AW.region ?_ | refine AW.draw (by kernel_rfl) (by decide +kernel) ?_ | refine AW.drawN (by kernel_rfl) (by decide +kernel) ?_ | ((with_reducible refine And.intro ?_ ?_); (focus ((repeat' (with_reducible apply And.intro)) <;> first | (with_reducible exact OrdAt.of (by kernel_rfl)) | (with_reducible exact OrdT.of (by kernel_rfl)) | exact True.intro | (with_reducible assumption) | omega | rfl | exact Nat.le_of_ble_eq_true rfl | exact Or.inl trivial | (unfold inI; omega)))))
    exact h0 (List.eq_nil_of_length_eq_zero h)
  · simp only [go_sem, Nat.reduceLT, Nat.reduceEqDiff, reduceIte, Int.reduceEq, Int.reduceLE, Int.reduceLT, Nat.reduceMul, Nat.reduceAdd, Nat.reduceSub, Int.reduceNeg, Int.reduceAdd, Int.reduceMul, Int.reduceSub, Int.reduceToNat, Nat.reduceLeDiff, Nat.reduceDiv, Int.reduceDiv, reduceCtorEq, Option.some.injEq, exists_eq_left']
    refine AW.cond_ff rfl ?_
    refine AW.skip ?_
    simp only [go_sem, Nat.reduceLT, Nat.reduceEqDiff, reduceIte, Int.reduceEq, Int.reduceLE, Int.reduceLT, Nat.reduceMul, Nat.reduceAdd, Nat.reduceSub, Int.reduceNeg, Int.reduceAdd, Int.reduceMul, Int.reduceSub, Int.reduceToNat, Nat.reduceLeDiff, Nat.reduceDiv, Int.reduceDiv, reduceCtorEq, Option.some.injEq, exists_eq_left']
    refine AW.seq ?_
    refine AW.regionL _ rfl fun γ0 => ?_
    refine AWL.op (OpK.build0 rfl rfl Tryd.underlying22 (by simp only [go_sem]; decide) ?_)
    simp only [go_sem, Nat.reduceLT, Nat.reduceEqDiff, reduceIte, Int.reduceEq, Int.reduceLE, Int.reduceLT, Nat.reduceMul, Nat.reduceAdd, Nat.reduceSub, Int.reduceNeg, Int.reduceAdd, Int.reduceMul, Int.reduceSub, Int.reduceToNat, Nat.reduceLeDiff, Nat.reduceDiv, Int.reduceDiv, reduceCtorEq, Option.some.injEq, exists_eq_left']
    refine AWL.ex [_] _ ?_
    simp only [go_sem, Nat.reduceLT, Nat.reduceEqDiff, reduceIte, Int.reduceEq, Int.reduceLE, Int.reduceLT, Nat.reduceMul, Nat.reduceAdd, Nat.reduceSub, Int.reduceNeg, Int.reduceAdd, Int.reduceMul, Int.reduceSub, Int.reduceToNat, Nat.reduceLeDiff, Nat.reduceDiv, Int.reduceDiv, reduceCtorEq, Option.some.injEq, exists_eq_left']
    by_cases hd0 : d = []
    · subst hd0
      refine AWL.op (OpK.nought rfl rfl Tryd.underlying22 (by simp only [go_sem]; decide) Tryd.txok22 rfl rfl trivial ?_)
      simp only [go_sem, Nat.reduceLT, Nat.reduceEqDiff, reduceIte, Int.reduceEq, Int.reduceLE, Int.reduceLT, Nat.reduceMul, Nat.reduceAdd, Nat.reduceSub, Int.reduceNeg, Int.reduceAdd, Int.reduceMul, Int.reduceSub, Int.reduceToNat, Nat.reduceLeDiff, Nat.reduceDiv, Int.reduceDiv, reduceCtorEq, Option.some.injEq, exists_eq_left']
      refine AWL.done ?_
      repeat (first | simp only [go_sem, Nat.reduceLT, Nat.reduceEqDiff, reduceIte, Int.reduceEq, Int.reduceLE, Int.reduceLT, Nat.reduceMul, Nat.reduceAdd, Nat.reduceSub, Int.reduceNeg, Int.reduceAdd, Int.reduceMul, Int.reduceSub, Int.reduceToNat, Nat.reduceLeDiff, Nat.reduceDiv, Int.reduceDiv, reduceCtorEq, Option.some.injEq, exists_eq_left'] | refine AW.seq ?_ | refine AW.block ?_ | refine AW.scope ?_ | refine AW.cond_tt rfl ?_ | refine AW.cond_ff rfl ?_ | refine AW.label ?_ | refine AW.skip ?_ | refine AW.ret ?_ | refine AW.exit ?_ | refine AW.region ?_ | refine AW.draw (by kernel_rfl) (by decide +kernel) ?_ | refine AW.drawN (by kernel_rfl) (by decide +kernel) ?_ | ((with_reducible refine And.intro ?_ ?_); (focus ((repeat' (with_reducible apply And.intro)) <;> first | (with_reducible exact OrdAt.of (by kernel_rfl)) | (with_reducible exact OrdT.of (by kernel_rfl)) | exact True.intro | (with_reducible assumption) | omega | rfl | exact Nat.le_of_ble_eq_true rfl | exact Or.inl trivial | (unfold inI; omega)))))
      exact h1 rfl
    · refine AWL.op (OpK.grow rfl rfl Tryd.underlying22 (by simp only [go_sem]; decide) Tryd.zin38 Tryd.txok22 rfl (.inr rfl) rfl trivial ?_ ?_ ?_ ?_)
      · simp only [maxLen]; omega
      · simp only [go_sem]; omega
      · have := List.length_pos_iff.2 hd0; omega
      simp only [go_sem, Nat.reduceLT, Nat.reduceEqDiff, reduceIte, Int.reduceEq, Int.reduceLE, Int.reduceLT, Nat.reduceMul, Nat.reduceAdd, Nat.reduceSub, Int.reduceNeg, Int.reduceAdd, Int.reduceMul, Int.reduceSub, Int.reduceToNat, Nat.reduceLeDiff, Nat.reduceDiv, Int.reduceDiv, reduceCtorEq, Option.some.injEq, exists_eq_left', zrow64, List.take_zero, List.nil_append]
      intro c h3 h4
      refine AWL.done ?_
      repeat (first | simp only [go_sem, Nat.reduceLT, Nat.reduceEqDiff, reduceIte, Int.reduceEq, Int.reduceLE, Int.reduceLT, Nat.reduceMul, Nat.reduceAdd, Nat.reduceSub, Int.reduceNeg, Int.reduceAdd, Int.reduceMul, Int.reduceSub, Int.reduceToNat, Nat.reduceLeDiff, Nat.reduceDiv, Int.reduceDiv, reduceCtorEq, Option.some.injEq, exists_eq_left'] | refine AW.seq ?_ | refine AW.block ?_ | refine AW.scope ?_ | refine AW.cond_tt rfl ?_ | refine AW.cond_ff rfl ?_ | refine AW.label ?_ | refine AW.skip ?_ | refine AW.ret ?_ | refine AW.exit ?_ | refine AW.region ?_ | refine AW.draw (by kernel_rfl) (by decide +kernel) ?_ | refine AW.drawN (by kernel_rfl) (by decide +kernel) ?_ | ((with_reducible refine And.intro ?_ ?_); (focus ((repeat' (with_reducible apply And.intro)) <;> first | (with_reducible exact OrdAt.of (by kernel_rfl)) | (with_reducible exact OrdT.of (by kernel_rfl)) | exact True.intro | (with_reducible assumption) | omega | rfl | exact Nat.le_of_ble_eq_true rfl | exact Or.inl trivial | (unfold inI; omega)))))
      exact h2 hd0 c h3 h4
end Go.Proofs.YtpknjecfloglgaaDoor

namespace Go.Proofs.YtpknjecfloglgaaDoor
open Go Go.Eng Go.Proofs
set_option maxRecDepth 100000
set_option maxHeartbeats 1000000
set_option linter.unusedSimpArgs false
set_option linter.unusedVariables false
/-- Insert into nothing -/
theorem k33n (x : Lf) (hx : x.length = 64) {hp : List (Nat × Ob)} {nx : Nat} {K : AV → List (Nat × Ob) → Nat → Prop}
    (h : ∀ c, 1 ≤ c → c ≤ maxLen → K (.csl 64 nx 0 1 c) ((nx, .box (bxr [x] c)) :: hp) (nx + 1)) (k : Nat) : CallK Tryd.prog 33 [nilS, int 0, .sl 64 (bys x) 1 (some k)] hp nx K := by
  refine CallK.enter Tryd.func33 rfl Tryd.call33 (by simp [Tryd.ntmps33]) fun γ1 => ?_
  simp only [frameOf, Tryd.ntmps33]
  repeat (first | simp only [go_sem, Nat.reduceLT, Nat.reduceEqDiff, reduceIte, Int.reduceEq, Int.reduceLE, Int.reduceLT, Nat.reduceMul, Nat.reduceAdd, Nat.reduceSub, Int.reduceNeg, Int.reduceAdd, Int.reduceMul, Int.reduceSub, Int.reduceToNat, Nat.reduceLeDiff, Nat.reduceDiv, Int.reduceDiv, reduceCtorEq, Option.some.injEq, exists_eq_left'] | refine AW.seq ?_ | refine AW.block ?_ | refine AW.scope ?_ | refine AW.cond_tt rfl ?_ | refine AW.cond_ff rfl ?_ | refine AW.label ?_ | refine AW.skip ?_ | refine AW.ret ?_ | refine AW.exit ?_ | refine AW.regionN (by rfl) ?_ | refine AW.draw (by kernel_rfl) (by decide +kernel) ?_ | refine AW.drawN (by kernel_rfl) (by decide +kernel) ?_ | ((with_reducible refine And.intro ?_ ?_); (focus ((repeat' (with_reducible apply And.intro)) <;> first | (with_reducible exact OrdAt.of (by kernel_rfl)) | (with_reducible exact OrdT.of (by kernel_rfl)) | exact True.intro | (with_reducible assumption) | omega | rfl | exact Nat.le_of_ble_eq_true rfl | exact Or.inl trivial | (unfold inI; omega)))))
  refine AW.regionL _ rfl fun γ0 => ?_
  refine AWL.ex [_, _] _ ?_
  repeat (first | simp only [go_sem, Nat.reduceLT, Nat.reduceEqDiff, reduceIte, Int.reduceEq, Int.reduceLE, Int.reduceLT, Nat.reduceMul, Nat.reduceAdd, Nat.reduceSub, Int.reduceNeg, Int.reduceAdd, Int.reduceMul, Int.reduceSub, Int.reduceToNat, Nat.reduceLeDiff, Nat.reduceDiv, Int.reduceDiv, reduceCtorEq, Option.some.injEq, exists_eq_left'] | refine AW.seq ?_ | refine AW.block ?_ | refine AW.scope ?_ | refine AW.cond_tt rfl ?_ | refine AW.cond_ff rfl ?_ | refine AW.label ?_ | refine AW.skip ?_ | refine AW.ret ?_ | refine AW.exit ?_ | refine AW.regionN (by rfl) ?_ | refine AW.draw (by kernel_rfl) (by decide +kernel) ?_ | refine AW.drawN (by kernel_rfl) (by decide +kernel) ?_ | ((with_reducible refine And.intro ?_ ?_); (focus ((repeat' (with_reducible apply And.intro)) <;> first | (with_reducible exact OrdAt.of (by kernel_rfl)) | (with_reducible exact OrdT.of (by kernel_rfl)) | exact True.intro | (with_reducible assumption) | omega | rfl | exact Nat.le_of_ble_eq_true rfl | exact Or.inl trivial | (unfold inI; omega)))))
  refine AWL.op (OpK.grow rfl rfl Tryd.underlying22 (by simp only [go_sem]; decide) Tryd.zin38 Tryd.txok22 rfl trivial rfl trivial ?_ ?_ ?_ ?_)
  · simp only [maxLen]; omega
  · simp only [go_sem]; omega
  · omega
  simp only [go_sem, Nat.reduceLT, Nat.reduceEqDiff, reduceIte, Int.reduceEq, Int.reduceLE, Int.reduceLT, Nat.reduceMul, Nat.reduceAdd, Nat.reduceSub, Int.reduceNeg, Int.reduceAdd, Int.reduceMul, Int.reduceSub, Int.reduceToNat, Nat.reduceLeDiff, Nat.reduceDiv, Int.reduceDiv, reduceCtorEq, Option.some.injEq, exists_eq_left', zrow64, List.take_zero, List.nil_append, List.append_nil]
  intro c h3 h4
  refine AWL.done ?_
  repeat (first | simp only [go_sem, Nat.reduceLT, Nat.reduceEqDiff, reduceIte, Int.reduceEq, Int.reduceLE, Int.reduceLT, Nat.reduceMul, Nat.reduceAdd, Nat.reduceSub, Int.reduceNeg, Int.reduceAdd, Int.reduceMul, Int.reduceSub, Int.reduceToNat, Nat.reduceLeDiff, Nat.reduceDiv, Int.reduceDiv, reduceCtorEq, Option.some.injEq, exists_eq_left'] | refine AW.seq ?_ | refine AW.block ?_ | refine AW.scope ?_ | refine AW.cond_tt rfl ?_ | refine AW.cond_ff rfl ?_ | refine AW.label ?_ | refine AW.skip ?_ | refine AW.ret ?_ | refine AW.exit ?_ | refine AW.regionN (by rfl) ?_ | refine AW.draw (by kernel_rfl) (by decide +kernel) ?_ | refine AW.drawN (by kernel_rfl) (by decide +kernel) ?_ | ((with_reducible refine And.intro ?_ ?_); (focus ((repeat' (with_reducible apply And.intro)) <;> first | (with_reducible exact OrdAt.of (by kernel_rfl)) | (with_reducible exact OrdT.of (by kernel_rfl)) | exact True.intro | (with_reducible assumption) | omega | rfl | exact Nat.le_of_ble_eq_true rfl | exact Or.inl trivial | (unfold inI; omega)))))
  have := h c h3 h4
  simpa [bxr] using this
end Go.Proofs.YtpknjecfloglgaaDoor

namespace Go.Proofs.YtpknjecfloglgaaDoor
open Go Go.Eng Go.Proofs
set_option maxRecDepth 100000
set_option maxHeartbeats 1000000
set_option linter.unusedSimpArgs false
set_option linter.unusedVariables false
def insAt (d : List Lf) (i : Nat) (x : Lf) : List Lf := d.take i ++ x :: d.drop i
theorem bxr_len {d : List Lf} {c : Nat} (hd : all64 d) (h : d.length ≤ c) : (bxr d c).length = c * 64 := by
  simp only [bxr, bys, List.length_map, List.length_append, List.length_replicate, flat_len hd]; omega
theorem bys_take (b : List UInt8) (n : Nat) : List.take n (bys b) = bys (b.take n) := by simp [bys]
theorem bys_drop (b : List UInt8) (n : Nat) : List.drop n (bys b) = bys (b.drop n) := by simp [bys]
theorem bys_len (b : List UInt8) : (bys b).length = b.length := by simp [bys]
theorem bys_app (a b : List UInt8) : bys a ++ bys b = bys (a ++ b) := by simp [bys]
theorem bys_spl (a b : List UInt8) (o : Nat) : splice (bys a) o (bys b) = bys (splice a o b) := by simp [bys, splice]
theorem all64_take {d : List Lf} (h : all64 d) (i : Nat) : all64 (d.take i) := fun x hx => h x (List.mem_of_mem_take hx)
theorem all64_drop {d : List Lf} (h : all64 d) (i : Nat) : all64 (d.drop i) := fun x hx => h x (List.mem_of_mem_drop hx)
theorem flat_split (d : List Lf) (i : Nat) : d.flatten = (d.take i).flatten ++ (d.drop i).flatten := by rw [← List.flatten_append, List.take_append_drop]
theorem flat_take {d : List Lf} (h : all64 d) {i : Nat} (hi : i ≤ d.length) : d.flatten.take (i * 64) = (d.take i).flatten := by
  have h1 := flat_len (all64_take h i)
  rw [List.length_take, Nat.min_eq_left hi] at h1
  rw [flat_split d i, List.take_append_of_le_length (by omega), List.take_of_length_le (by omega)]
theorem flat_drop {d : List Lf} (h : all64 d) {i : Nat} (hi : i ≤ d.length) : d.flatten.drop (i * 64) = (d.drop i).flatten := by
  have h1 := flat_len (all64_take h i)
  rw [List.length_take, Nat.min_eq_left hi] at h1
  rw [flat_split d i, List.drop_append_of_le_length (by omega), List.drop_of_length_le (by omega), List.nil_append]
theorem take_bxr {d : List Lf} (h : all64 d) {i : Nat} (hi : i ≤ d.length) (c : Nat) : (bxr d c).take (i * 64) = bys (d.take i).flatten := by
  have := flat_len h
  rw [bxr, bys_take, List.take_append_of_le_length (by omega), flat_take h hi]
theorem dt_bxr {d : List Lf} (h : all64 d) {i : Nat} (hi : i ≤ d.length) (c : Nat) : ((bxr d c).drop (i * 64)).take ((d.length - i) * 64) = bys (d.drop i).flatten := by
  have h1 := flat_len h
  have h2 := flat_len (all64_drop h i)
  rw [List.length_drop] at h2
  rw [bxr, bys_drop, bys_take, List.drop_append_of_le_length (by omega), flat_drop h hi, List.take_append_of_le_length (by omega), List.take_of_length_le (by omega)]
theorem insAt_flat (d : List Lf) (i : Nat) (x : Lf) : (insAt d i x).flatten = (d.take i).flatten ++ (x ++ (d.drop i).flatten) := by simp [insAt]
theorem insAt_len {d : List Lf} {i : Nat} (hi : i ≤ d.length) (x : Lf) : (insAt d i x).length = d.length + 1 := by simp [insAt]; omega
theorem spl_mid {α : Type} (a b m r : List α) (h : b.length = m.length) : splice (a ++ (b ++ r)) a.length m = a ++ (m ++ r) := by
  simp only [splice]
  rw [List.take_left, ← h, ← List.append_assoc a b r, List.drop_left' (by simp)]
theorem rep_split (n m : Nat) : List.replicate (n + m) (0 : UInt8) = List.replicate n 0 ++ List.replicate m 0 := by rw [List.replicate_append_replicate]
theorem grow_row {d : List Lf} (hd : all64 d) {i : Nat} (hi : i ≤ d.length) {x : Lf} (hx : x.length = 64) {c' : Nat} (hc : d.length + 1 ≤ c') :
    splice (splice ((d.take i).flatten ++ List.replicate ((c' - i) * 64) 0) (i * 64) x) ((i + 1) * 64) (d.drop i).flatten = (insAt d i x).flatten ++ List.replicate ((c' - (insAt d i x).length) * 64) 0 := by
  have hA := flat_len (all64_take hd i)
  rw [List.length_take, Nat.min_eq_left hi] at hA
  have hB := flat_len (all64_drop hd i)
  rw [List.length_drop] at hB
  have e1 : (c' - i) * 64 = 64 + ((d.length - i) * 64 + (c' - (d.length + 1)) * 64) := by omega
  rw [e1, rep_split, rep_split, ← hA, spl_mid _ _ _ _ (by simp [hx])]
  have e2 : (i + 1) * 64 = ((d.take i).flatten ++ x).length := by rw [List.length_append, hA, hx]; omega
  rw [e2, ← List.append_assoc, spl_mid _ _ _ _ (by simp [hB]), insAt_flat, insAt_len hi]
  simp
theorem room_row {d : List Lf} (hd : all64 d) {i : Nat} (hi : i < d.length) {x : Lf} (hx : x.length = 64) {c : Nat} (hc : d.length + 1 ≤ c) :
    splice (splice (d.flatten ++ List.replicate ((c - d.length) * 64) 0) ((i + 1) * 64) (d.drop i).flatten) (i * 64) x = (insAt d i x).flatten ++ List.replicate ((c - (insAt d i x).length) * 64) 0 := by
  have hA := flat_len (all64_take hd i)
  rw [List.length_take, Nat.min_eq_left (by omega)] at hA
  have hB := flat_len (all64_drop hd i)
  rw [List.length_drop] at hB
  obtain ⟨y, B, hyB⟩ : ∃ y B, d.drop i = y :: B := ⟨d[i], d.drop (i + 1), List.drop_eq_getElem_cons hi⟩
  have hy : y.length = 64 := hd y (List.mem_of_mem_drop (by rw [hyB]; simp))
  have hB2 : B.flatten.length = (d.length - i - 1) * 64 := by rw [hyB, List.flatten_cons, List.length_append, hy] at hB; omega
  have e1 : (c - d.length) * 64 = 64 + (c - (d.length + 1)) * 64 := by omega
  have e2 : (i + 1) * 64 = ((d.take i).flatten ++ y).length := by rw [List.length_append, hA, hy]; omega
  have e3 : d.flatten ++ List.replicate ((c - d.length) * 64) 0 = ((d.take i).flatten ++ y) ++ ((B.flatten ++ List.replicate 64 0) ++ List.replicate ((c - (d.length + 1)) * 64) 0) := by
    rw [flat_split d i, hyB, e1, rep_split]; simp
  rw [e3, e2, spl_mid _ _ _ _ (by rw [hB]; simp [hB2]; omega), List.append_assoc, ← hA, spl_mid _ _ _ _ (by rw [hx, hy]), insAt_flat, insAt_len (by omega)]
  simp
theorem end_row {d : List Lf} (hd : all64 d) {x : Lf} (hx : x.length = 64) {c : Nat} (hc : d.length + 1 ≤ c) :
    splice (d.flatten ++ List.replicate ((c - d.length) * 64) 0) (d.length * 64) x = (insAt d d.length x).flatten ++ List.replicate ((c - (insAt d d.length x).length) * 64) 0 := by
  have hA := flat_len hd
  have e1 : (c - d.length) * 64 = 64 + (c - (d.length + 1)) * 64 := by omega
  rw [e1, rep_split, ← hA, spl_mid _ _ _ _ (by simp [hx]), insAt_flat, insAt_len (Nat.le_refl _)]
  simp
theorem k33 (d : List Lf) (hd : all64 d) (hn : d.length ≤ 1000) (c : Nat) (hc : d.length ≤ c) (hcm : c ≤ maxLen) (i : Nat) (hi : i ≤ d.length) (x : Lf) (hx : x.length = 64) (y : List AV) {K : AV → List (Nat × Ob) → Nat → Prop}
    (h1 : d.length + 1 ≤ c → K (.csl 64 0 0 (d.length + 1) c) [(2, .tok), (1, .box y), (0, .box (bxr (insAt d i x) c))] 3)
    (h2 : c < d.length + 1 → ∀ c', d.length + 1 ≤ c' → c' ≤ maxLen → K (.csl 64 3 0 (d.length + 1) c') [(3, .box (bxr (insAt d i x) c')), (2, .tok), (1, .box y), (0, .box (bxr d c))] 4) :
    CallK Tryd.prog 33 [.csl 64 0 0 d.length c, int i, .sl 64 (bys x) 1 (some 2)] [(2, .tok), (1, .box y), (0, .box (bxr d c))] 3 K := by
  refine CallK.enter Tryd.func33 rfl Tryd.call33 (by simp [Tryd.ntmps33]) fun γ1 => ?_
  simp only [frameOf, Tryd.ntmps33]
  have hl := bxr_len hd hc
  repeat (first | simp only [go_sem, Nat.reduceLT, Nat.reduceEqDiff, reduceIte, Int.reduceEq, Int.reduceLE, Int.reduceLT, Nat.reduceMul, Nat.reduceAdd, Nat.reduceSub, Int.reduceNeg, Int.reduceAdd, Int.reduceMul, Int.reduceSub, Int.reduceToNat, Nat.reduceLeDiff, Nat.reduceDiv, Int.reduceDiv, reduceCtorEq, Option.some.injEq, exists_eq_left'] | refine AW.seq ?_ | refine AW.block ?_ | refine AW.scope ?_ | refine AW.cond_tt rfl ?_ | refine AW.cond_ff rfl ?_ | refine AW.label ?_ | refine AW.skip ?_ | refine AW.ret ?_ | refine AW.exit ?_ | refine AW.regionN (by rfl) ?_ | refine AW.draw (by kernel_rfl) (by decide +kernel) ?_ | refine AW.drawN (by kernel_rfl) (by decide +kernel) ?_ | ((with_reducible refine And.intro ?_ ?_); (focus ((repeat' (with_reducible apply And.intro)) <;> first | (with_reducible exact OrdAt.of (by kernel_rfl)) | (with_reducible exact OrdT.of (by kernel_rfl)) | exact True.intro | (with_reducible assumption) | omega | rfl | exact Nat.le_of_ble_eq_true rfl | exact Or.inl trivial | (unfold inI; omega)))))
  refine AW.cond_dec rfl (fun h3 => ?_) (fun h3 => ?_)
  · have hi' : i = d.length := by omega
    subst hi'
    repeat (first | simp only [go_sem, Nat.reduceLT, Nat.reduceEqDiff, reduceIte, Int.reduceEq, Int.reduceLE, Int.reduceLT, Nat.reduceMul, Nat.reduceAdd, Nat.reduceSub, Int.reduceNeg, Int.reduceAdd, Int.reduceMul, Int.reduceSub, Int.reduceToNat, Nat.reduceLeDiff, Nat.reduceDiv, Int.reduceDiv, reduceCtorEq, Option.some.injEq, exists_eq_left'] | refine AW.seq ?_ | refine AW.block ?_ | refine AW.scope ?_ | refine AW.cond_tt rfl ?_ | refine AW.cond_ff rfl ?_ | refine AW.label ?_ | refine AW.skip ?_ | refine AW.ret ?_ | refine AW.exit ?_ | refine AW.regionN (by rfl) ?_ | refine AW.draw (by kernel_rfl) (by decide +kernel) ?_ | refine AW.drawN (by kernel_rfl) (by decide +kernel) ?_ | ((with_reducible refine And.intro ?_ ?_); (focus ((repeat' (with_reducible apply And.intro)) <;> first | (with_reducible exact OrdAt.of (by kernel_rfl)) | (with_reducible exact OrdT.of (by kernel_rfl)) | exact True.intro | (with_reducible assumption) | omega | rfl | exact Nat.le_of_ble_eq_true rfl | exact Or.inl trivial | (unfold inI; omega)))))
    refine AW.regionL _ rfl fun γ0 => ?_
    refine AWL.ex [_, _] _ ?_
    repeat (first | simp only [go_sem, Nat.reduceLT, Nat.reduceEqDiff, reduceIte, Int.reduceEq, Int.reduceLE, Int.reduceLT, Nat.reduceMul, Nat.reduceAdd, Nat.reduceSub, Int.reduceNeg, Int.reduceAdd, Int.reduceMul, Int.reduceSub, Int.reduceToNat, Nat.reduceLeDiff, Nat.reduceDiv, Int.reduceDiv, reduceCtorEq, Option.some.injEq, exists_eq_left'] | refine AW.seq ?_ | refine AW.block ?_ | refine AW.scope ?_ | refine AW.cond_tt rfl ?_ | refine AW.cond_ff rfl ?_ | refine AW.label ?_ | refine AW.skip ?_ | refine AW.ret ?_ | refine AW.exit ?_ | refine AW.regionN (by rfl) ?_ | refine AW.draw (by kernel_rfl) (by decide +kernel) ?_ | refine AW.drawN (by kernel_rfl) (by decide +kernel) ?_ | ((with_reducible refine And.intro ?_ ?_); (focus ((repeat' (with_reducible apply And.intro)) <;> first | (with_reducible exact OrdAt.of (by kernel_rfl)) | (with_reducible exact OrdT.of (by kernel_rfl)) | exact True.intro | (with_reducible assumption) | omega | rfl | exact Nat.le_of_ble_eq_true rfl | exact Or.inl trivial | (unfold inI; omega)))))
    by_cases hr : d.length + 1 ≤ c
    · refine AWL.op (OpK.room rfl rfl Tryd.underlying22 (by simp only [go_sem]; decide) Tryd.txok22 rfl rfl trivial ?_ hr ?_ ?_)
      · show 0 < (bxr d c).length
        omega
      · show 0 + (d.length + 1) * 64 ≤ (bxr d c).length
        omega
      simp only [go_sem, Nat.reduceLT, Nat.reduceEqDiff, reduceIte, Int.reduceEq, Int.reduceLE, Int.reduceLT, Nat.reduceMul, Nat.reduceAdd, Nat.reduceSub, Int.reduceNeg, Int.reduceAdd, Int.reduceMul, Int.reduceSub, Int.reduceToNat, Nat.reduceLeDiff, Nat.reduceDiv, Int.reduceDiv, reduceCtorEq, Option.some.injEq, exists_eq_left']
      refine AWL.done ?_
      repeat (first | simp only [go_sem, Nat.reduceLT, Nat.reduceEqDiff, reduceIte, Int.reduceEq, Int.reduceLE, Int.reduceLT, Nat.reduceMul, Nat.reduceAdd, Nat.reduceSub, Int.reduceNeg, Int.reduceAdd, Int.reduceMul, Int.reduceSub, Int.reduceToNat, Nat.reduceLeDiff, Nat.reduceDiv, Int.reduceDiv, reduceCtorEq, Option.some.injEq, exists_eq_left'] | refine AW.seq ?_ | refine AW.block ?_ | refine AW.scope ?_ | refine AW.cond_tt rfl ?_ | refine AW.cond_ff rfl ?_ | refine AW.label ?_ | refine AW.skip ?_ | refine AW.ret ?_ | refine AW.exit ?_ | refine AW.regionN (by rfl) ?_ | refine AW.draw (by kernel_rfl) (by decide +kernel) ?_ | refine AW.drawN (by kernel_rfl) (by decide +kernel) ?_ | ((with_reducible refine And.intro ?_ ?_); (focus ((repeat' (with_reducible apply And.intro)) <;> first | (with_reducible exact OrdAt.of (by kernel_rfl)) | (with_reducible exact OrdT.of (by kernel_rfl)) | exact True.intro | (with_reducible assumption) | omega | rfl | exact Nat.le_of_ble_eq_true rfl | exact Or.inl trivial | (unfold inI; omega)))))
      have e8 : splice (bxr d c) (d.length * 64) (bys x) = bxr (insAt d d.length x) c := by rw [bxr, bys_spl, end_row hd hx hr]; rfl
      rw [e8]
      exact h1 hr
    · refine AWL.op (OpK.grow rfl rfl Tryd.underlying22 (by simp only [go_sem]; decide) Tryd.zin38 Tryd.txok22 rfl ?_ rfl trivial ?_ ?_ ?_ ?_)
      · show 0 < (bxr d c).length ∧ 0 + d.length * 64 ≤ (bxr d c).length ∨ d.length = 0
        omega
      · simp only [maxLen]; omega
      · simp only [go_sem]; omega
      · omega
      have e0 := take_bxr hd (Nat.le_refl d.length) c
      simp only [go_sem, Nat.reduceLT, Nat.reduceEqDiff, reduceIte, Int.reduceEq, Int.reduceLE, Int.reduceLT, Nat.reduceMul, Nat.reduceAdd, Nat.reduceSub, Int.reduceNeg, Int.reduceAdd, Int.reduceMul, Int.reduceSub, Int.reduceToNat, Nat.reduceLeDiff, Nat.reduceDiv, Int.reduceDiv, reduceCtorEq, Option.some.injEq, exists_eq_left', zrow64, e0]
      intro c' h4 h5
      refine AWL.done ?_
      repeat (first | simp only [go_sem, Nat.reduceLT, Nat.reduceEqDiff, reduceIte, Int.reduceEq, Int.reduceLE, Int.reduceLT, Nat.reduceMul, Nat.reduceAdd, Nat.reduceSub, Int.reduceNeg, Int.reduceAdd, Int.reduceMul, Int.reduceSub, Int.reduceToNat, Nat.reduceLeDiff, Nat.reduceDiv, Int.reduceDiv, reduceCtorEq, Option.some.injEq, exists_eq_left'] | refine AW.seq ?_ | refine AW.block ?_ | refine AW.scope ?_ | refine AW.cond_tt rfl ?_ | refine AW.cond_ff rfl ?_ | refine AW.label ?_ | refine AW.skip ?_ | refine AW.ret ?_ | refine AW.exit ?_ | refine AW.regionN (by rfl) ?_ | refine AW.draw (by kernel_rfl) (by decide +kernel) ?_ | refine AW.drawN (by kernel_rfl) (by decide +kernel) ?_ | ((with_reducible refine And.intro ?_ ?_); (focus ((repeat' (with_reducible apply And.intro)) <;> first | (with_reducible exact OrdAt.of (by kernel_rfl)) | (with_reducible exact OrdT.of (by kernel_rfl)) | exact True.intro | (with_reducible assumption) | omega | rfl | exact Nat.le_of_ble_eq_true rfl | exact Or.inl trivial | (unfold inI; omega)))))
      have e9 : (insAt d d.length x).length = d.length + 1 := insAt_len (Nat.le_refl _) x
      have e8 : bxr (insAt d d.length x) c' = bys ((List.take d.length d).flatten ++ x ++ List.replicate ((c' - (d.length + 1)) * 64) 0) := by
        rw [bxr, insAt_flat, e9]; simp
      have := h2 (by omega) c' h4 h5
      rw [e8] at this
      exact this
  · repeat (first | simp only [go_sem, Nat.reduceLT, Nat.reduceEqDiff, reduceIte, Int.reduceEq, Int.reduceLE, Int.reduceLT, Nat.reduceMul, Nat.reduceAdd, Nat.reduceSub, Int.reduceNeg, Int.reduceAdd, Int.reduceMul, Int.reduceSub, Int.reduceToNat, Nat.reduceLeDiff, Nat.reduceDiv, Int.reduceDiv, reduceCtorEq, Option.some.injEq, exists_eq_left'] | refine AW.seq ?_ | refine AW.block ?_ | refine AW.scope ?_ | refine AW.cond_tt rfl ?_ | refine AW.cond_ff rfl ?_ | refine AW.label ?_ | refine AW.skip ?_ | refine AW.ret ?_ | refine AW.exit ?_ | refine AW.regionN (by rfl) ?_ | refine AW.draw (by kernel_rfl) (by decide +kernel) ?_ | refine AW.drawN (by kernel_rfl) (by decide +kernel) ?_ | ((with_reducible refine And.intro ?_ ?_); (focus ((repeat' (with_reducible apply And.intro)) <;> first | (with_reducible exact OrdAt.of (by kernel_rfl)) | (with_reducible exact OrdT.of (by kernel_rfl)) | exact True.intro | (with_reducible assumption) | omega | rfl | exact Nat.le_of_ble_eq_true rfl | exact Or.inl trivial | (unfold inI; omega)))))
    refine AW.regionL _ rfl fun γ0 => ?_
    refine AWL.ex [_, _, _, _] _ ?_
    repeat (first | simp only [go_sem, Nat.reduceLT, Nat.reduceEqDiff, reduceIte, Int.reduceEq, Int.reduceLE, Int.reduceLT, Nat.reduceMul, Nat.reduceAdd, Nat.reduceSub, Int.reduceNeg, Int.reduceAdd, Int.reduceMul, Int.reduceSub, Int.reduceToNat, Nat.reduceLeDiff, Nat.reduceDiv, Int.reduceDiv, reduceCtorEq, Option.some.injEq, exists_eq_left'] | refine AW.seq ?_ | refine AW.block ?_ | refine AW.scope ?_ | refine AW.cond_tt rfl ?_ | refine AW.cond_ff rfl ?_ | refine AW.label ?_ | refine AW.skip ?_ | refine AW.ret ?_ | refine AW.exit ?_ | refine AW.regionN (by rfl) ?_ | refine AW.draw (by kernel_rfl) (by decide +kernel) ?_ | refine AW.drawN (by kernel_rfl) (by decide +kernel) ?_ | ((with_reducible refine And.intro ?_ ?_); (focus ((repeat' (with_reducible apply And.intro)) <;> first | (with_reducible exact OrdAt.of (by kernel_rfl)) | (with_reducible exact OrdT.of (by kernel_rfl)) | exact True.intro | (with_reducible assumption) | omega | rfl | exact Nat.le_of_ble_eq_true rfl | exact Or.inl trivial | (unfold inI; omega)))))
    refine AWL.op (OpK.cap rfl rfl Tryd.underlying22 rfl ?_)
    repeat (first | simp only [go_sem, Nat.reduceLT, Nat.reduceEqDiff, reduceIte, Int.reduceEq, Int.reduceLE, Int.reduceLT, Nat.reduceMul, Nat.reduceAdd, Nat.reduceSub, Int.reduceNeg, Int.reduceAdd, Int.reduceMul, Int.reduceSub, Int.reduceToNat, Nat.reduceLeDiff, Nat.reduceDiv, Int.reduceDiv, reduceCtorEq, Option.some.injEq, exists_eq_left'] | refine AW.seq ?_ | refine AW.block ?_ | refine AW.scope ?_ | refine AW.cond_tt rfl ?_ | refine AW.cond_ff rfl ?_ | refine AW.label ?_ | refine AW.skip ?_ | refine AW.ret ?_ | refine AW.exit ?_ | refine AW.regionN (by rfl) ?_ | refine AW.draw (by kernel_rfl) (by decide +kernel) ?_ | refine AW.drawN (by kernel_rfl) (by decide +kernel) ?_ | ((with_reducible refine And.intro ?_ ?_); (focus ((repeat' (with_reducible apply And.intro)) <;> first | (with_reducible exact OrdAt.of (by kernel_rfl)) | (with_reducible exact OrdT.of (by kernel_rfl)) | exact True.intro | (with_reducible assumption) | omega | rfl | exact Nat.le_of_ble_eq_true rfl | exact Or.inl trivial | (unfold inI; omega)))))
    refine AWL.done ?_
    repeat (first | simp only [go_sem, Nat.reduceLT, Nat.reduceEqDiff, reduceIte, Int.reduceEq, Int.reduceLE, Int.reduceLT, Nat.reduceMul, Nat.reduceAdd, Nat.reduceSub, Int.reduceNeg, Int.reduceAdd, Int.reduceMul, Int.reduceSub, Int.reduceToNat, Nat.reduceLeDiff, Nat.reduceDiv, Int.reduceDiv, reduceCtorEq, Option.some.injEq, exists_eq_left'] | refine AW.seq ?_ | refine AW.block ?_ | refine AW.scope ?_ | refine AW.cond_tt rfl ?_ | refine AW.cond_ff rfl ?_ | refine AW.label ?_ | refine AW.skip ?_ | refine AW.ret ?_ | refine AW.exit ?_ | refine AW.regionN (by rfl) ?_ | refine AW.draw (by kernel_rfl) (by decide +kernel) ?_ | refine AW.drawN (by kernel_rfl) (by decide +kernel) ?_ | ((with_reducible refine And.intro ?_ ?_); (focus ((repeat' (with_reducible apply And.intro)) <;> first | (with_reducible exact OrdAt.of (by kernel_rfl)) | (with_reducible exact OrdT.of (by kernel_rfl)) | exact True.intro | (with_reducible assumption) | omega | rfl | exact Nat.le_of_ble_eq_true rfl | exact Or.inl trivial | (unfold inI; omega)))))
    refine AW.cond_dec rfl (fun h4 => ?_) (fun h4 => ?_)
    · have em : ((d.length : Int) + 1 - (i : Int)) = ((d.length + 1 - i : Nat) : Int) := by omega
      have em2 : i + (d.length + 1 - i) = d.length + 1 := by omega
      repeat (first | simp only [go_sem, Nat.reduceLT, Nat.reduceEqDiff, reduceIte, Int.reduceEq, Int.reduceLE, Int.reduceLT, Nat.reduceMul, Nat.reduceAdd, Nat.reduceSub, Int.reduceNeg, Int.reduceAdd, Int.reduceMul, Int.reduceSub, Int.reduceToNat, Nat.reduceLeDiff, Nat.reduceDiv, Int.reduceDiv, reduceCtorEq, Option.some.injEq, exists_eq_left'] | refine AW.seq ?_ | refine AW.block ?_ | refine AW.scope ?_ | refine AW.cond_tt rfl ?_ | refine AW.cond_ff rfl ?_ | refine AW.label ?_ | refine AW.skip ?_ | refine AW.ret ?_ | refine AW.exit ?_ | refine AW.regionN (by rfl) ?_ | refine AW.draw (by kernel_rfl) (by decide +kernel) ?_ | refine AW.drawN (by kernel_rfl) (by decide +kernel) ?_ | ((with_reducible refine And.intro ?_ ?_); (focus ((repeat' (with_reducible apply And.intro)) <;> first | (with_reducible exact OrdAt.of (by kernel_rfl)) | (with_reducible exact OrdT.of (by kernel_rfl)) | exact True.intro | (with_reducible assumption) | omega | rfl | exact Nat.le_of_ble_eq_true rfl | exact Or.inl trivial | (unfold inI; omega)))))
      refine AW.regionL _ rfl fun γ0 => ?_
      refine AWL.ex [_, _, _, _, _, _, _, _] _ ?_
      repeat (first | simp only [go_sem, Nat.reduceLT, Nat.reduceEqDiff, reduceIte, Int.reduceEq, Int.reduceLE, Int.reduceLT, Nat.reduceMul, Nat.reduceAdd, Nat.reduceSub, Int.reduceNeg, Int.reduceAdd, Int.reduceMul, Int.reduceSub, Int.reduceToNat, Nat.reduceLeDiff, Nat.reduceDiv, Int.reduceDiv, reduceCtorEq, Option.some.injEq, exists_eq_left', em] | refine AW.seq ?_ | refine AW.block ?_ | refine AW.scope ?_ | refine AW.cond_tt rfl ?_ | refine AW.cond_ff rfl ?_ | refine AW.label ?_ | refine AW.skip ?_ | refine AW.ret ?_ | refine AW.exit ?_ | refine AW.regionN (by rfl) ?_ | refine AW.draw (by kernel_rfl) (by decide +kernel) ?_ | refine AW.drawN (by kernel_rfl) (by decide +kernel) ?_ | ((with_reducible refine And.intro ?_ ?_); (focus ((repeat' (with_reducible apply And.intro)) <;> first | (with_reducible exact OrdAt.of (by kernel_rfl)) | (with_reducible exact OrdT.of (by kernel_rfl)) | exact True.intro | (with_reducible assumption) | omega | rfl | exact Nat.le_of_ble_eq_true rfl | exact Or.inl trivial | (unfold inI; omega)))))
      refine AWL.op (OpK.zeros (kn := .i64) (m := d.length + 1 - i) rfl rfl Tryd.underlying22 (by simp only [go_sem]; decide) Tryd.zin38 Tryd.underlying3 rfl ?_ rfl ?_ ?_ ?_ ?_ ?_)
      · show 0 < (bxr d c).length ∧ 0 + i * 64 ≤ (bxr d c).length ∨ i = 0
        omega
      · omega
      · simp only [maxLen]; omega
      · simp only [go_sem]; omega
      · omega
      simp only [go_sem, Nat.reduceLT, Nat.reduceEqDiff, reduceIte, Int.reduceEq, Int.reduceLE, Int.reduceLT, Nat.reduceMul, Nat.reduceAdd, Nat.reduceSub, Int.reduceNeg, Int.reduceAdd, Int.reduceMul, Int.reduceSub, Int.reduceToNat, Nat.reduceLeDiff, Nat.reduceDiv, Int.reduceDiv, reduceCtorEq, Option.some.injEq, exists_eq_left', zrow64, em2]
      intro c' h5 h6
      refine AWL.done ?_
      obtain ⟨R0, hR0⟩ : ∃ R0, R0 = (d.take i).flatten ++ List.replicate ((c' - i) * 64) 0 := ⟨_, rfl⟩
      have e0 : List.take (i * 64) (bxr d c) ++ bys (List.replicate ((d.length + 1 - i) * 64) 0) ++ bys (List.replicate ((c' - (d.length + 1)) * 64) 0) = bys R0 := by
        rw [take_bxr hd hi, bys_app, bys_app, hR0, List.append_assoc, ← rep_split]; congr 3; omega
      rw [e0]
      have hA := flat_len (all64_take hd i)
      rw [List.length_take, Nat.min_eq_left hi] at hA
      have hB := flat_len (all64_drop hd i)
      rw [List.length_drop] at hB
      have hl0 : R0.length = c' * 64 := by rw [hR0, List.length_append, hA, List.length_replicate]; omega
      have emin : min 1 (((d.length + 1 : Nat) : Int) - (i : Int)).toNat = 1 := by omega
      have en : ((d.length : Int) - (i : Int)).toNat = d.length - i := by omega
      have ei : ((i : Int) + 1).toNat = i + 1 := by omega
      have em3 : min (d.length - i) (((d.length + 1 : Nat) : Int) - ((i : Int) + 1)).toNat = d.length - i := by omega
      have e4 := dt_bxr hd hi c
      have e5 : List.take ((d.length - i) * 64) (bys (d.drop i).flatten) = bys (d.drop i).flatten := List.take_of_length_le (by rw [bys_len, hB]; exact Nat.le_refl _)
      have e6 : List.take 64 x = x := List.take_of_length_le (by omega)
      obtain ⟨R1, hR1⟩ : ∃ R1, R1 = splice R0 (i * 64) x := ⟨_, rfl⟩
      have e7 : splice (bys R0) (i * 64) (bys x) = bys R1 := by rw [hR1, bys_spl]
      have hl1 : R1.length = c' * 64 := by rw [hR1, length_splice _ _ _ (by omega), hl0]
      repeat (first | simp only [go_sem, Nat.reduceLT, Nat.reduceEqDiff, reduceIte, Int.reduceEq, Int.reduceLE, Int.reduceLT, Nat.reduceMul, Nat.reduceAdd, Nat.reduceSub, Int.reduceNeg, Int.reduceAdd, Int.reduceMul, Int.reduceSub, Int.reduceToNat, Nat.reduceLeDiff, Nat.reduceDiv, Int.reduceDiv, reduceCtorEq, Option.some.injEq, exists_eq_left', bys_len, hl0, hl1, hl, emin, en, ei, em3, e4, e5, e6, e7, plL_bys, bys_spl] | refine AW.seq ?_ | refine AW.block ?_ | refine AW.scope ?_ | refine AW.cond_tt rfl ?_ | refine AW.cond_ff rfl ?_ | refine AW.label ?_ | refine AW.skip ?_ | refine AW.ret ?_ | refine AW.exit ?_ | refine AW.regionN (by rfl) ?_ | refine AW.draw (by kernel_rfl) (by decide +kernel) ?_ | refine AW.drawN (by kernel_rfl) (by decide +kernel) ?_ | ((with_reducible refine And.intro ?_ ?_); (focus ((repeat' (with_reducible apply And.intro)) <;> first | (with_reducible exact OrdAt.of (by kernel_rfl)) | (with_reducible exact OrdT.of (by kernel_rfl)) | exact True.intro | (with_reducible assumption) | omega | rfl | exact Nat.le_of_ble_eq_true rfl | exact Or.inl trivial | (unfold inI; omega)))))
      have e8 : splice R1 ((i + 1) * 64) (d.drop i).flatten = (insAt d i x).flatten ++ List.replicate ((c' - (insAt d i x).length) * 64) 0 := by rw [hR1, hR0, grow_row hd hi hx h5]
      rw [e8]
      exact h2 (by omega) c' h5 h6
    · repeat (first | simp only [go_sem, Nat.reduceLT, Nat.reduceEqDiff, reduceIte, Int.reduceEq, Int.reduceLE, Int.reduceLT, Nat.reduceMul, Nat.reduceAdd, Nat.reduceSub, Int.reduceNeg, Int.reduceAdd, Int.reduceMul, Int.reduceSub, Int.reduceToNat, Nat.reduceLeDiff, Nat.reduceDiv, Int.reduceDiv, reduceCtorEq, Option.some.injEq, exists_eq_left'] | refine AW.seq ?_ | refine AW.block ?_ | refine AW.scope ?_ | refine AW.cond_tt rfl ?_ | refine AW.cond_ff rfl ?_ | refine AW.label ?_ | refine AW.skip ?_ | refine AW.ret ?_ | refine AW.exit ?_ | refine AW.regionN (by rfl) ?_ | refine AW.draw (by kernel_rfl) (by decide +kernel) ?_ | refine AW.drawN (by kernel_rfl) (by decide +kernel) ?_ | ((with_reducible refine And.intro ?_ ?_); (focus ((repeat' (with_reducible apply And.intro)) <;> first | (with_reducible exact OrdAt.of (by kernel_rfl)) | (with_reducible exact OrdT.of (by kernel_rfl)) | exact True.intro | (with_reducible assumption) | omega | rfl | exact Nat.le_of_ble_eq_true rfl | exact Or.inl trivial | (unfold inI; omega)))))
      refine ⟨rfl, CallK.apart (tR := 4) Tryd.func47 (by kernel_rfl) (by kernel_rfl) (by kernel_rfl) (by kernel_rfl) Tryd.underlying22 (by simp only [go_sem]; decide) rfl ?_ ?_ ?_⟩
      · show 0 < (bxr d c).length
        omega
      · omega
      have hA := flat_len (all64_take hd i)
      rw [List.length_take, Nat.min_eq_left hi] at hA
      have hB := flat_len (all64_drop hd i)
      rw [List.length_drop] at hB
      have ea : ((d.length : Int) + 1).toNat = d.length + 1 := by omega
      have eb : (((d.length + 1 : Nat) : Int) - (i : Int)).toNat = d.length + 1 - i := by omega
      have ec : (((d.length + 1 : Nat) : Int) - ((i : Int) + 1)).toNat = d.length - i := by omega
      have ei : ((i : Int) + 1).toNat = i + 1 := by omega
      have ed : min (d.length + 1 - i) (d.length - i) = d.length - i := by omega
      have ef : min ((d.length - i) * 64) ((d.length + 1 - i) * 64) = (d.length - i) * 64 := by omega
      have e4 := dt_bxr hd hi c
      have e6 : List.take 64 x = x := List.take_of_length_le (by omega)
      have hpl : plL (List.take ((d.length + 1 - i) * 64) (List.drop (i * 64) (bxr d c))) := by rw [bxr, bys_drop, bys_take, plL_bys]; trivial
      have hs : splice (bxr d c) ((i + 1) * 64) (bys (d.drop i).flatten) = bys (splice (d.flatten ++ List.replicate ((c - d.length) * 64) 0) ((i + 1) * 64) (d.drop i).flatten) := by rw [bxr, bys_spl]
      obtain ⟨R1, hR1⟩ : ∃ R1, R1 = splice (d.flatten ++ List.replicate ((c - d.length) * 64) 0) ((i + 1) * 64) (d.drop i).flatten := ⟨_, rfl⟩
      have hl1 : R1.length = c * 64 := by rw [hR1, length_splice _ _ _ (by rw [List.length_append, List.length_replicate, flat_len hd]; omega), List.length_append, List.length_replicate, flat_len hd]; omega
      rw [← hR1] at hs
      have emin : min 1 (d.length + 1 - i) = 1 := by omega
      repeat (first | simp only [go_sem, Nat.reduceLT, Nat.reduceEqDiff, reduceIte, Int.reduceEq, Int.reduceLE, Int.reduceLT, Nat.reduceMul, Nat.reduceAdd, Nat.reduceSub, Int.reduceNeg, Int.reduceAdd, Int.reduceMul, Int.reduceSub, Int.reduceToNat, Nat.reduceLeDiff, Nat.reduceDiv, Int.reduceDiv, reduceCtorEq, Option.some.injEq, exists_eq_left', ea, eb, ec, ei, ed, ef, hl, List.take_take] | refine AW.seq ?_ | refine AW.block ?_ | refine AW.scope ?_ | refine AW.cond_tt rfl ?_ | refine AW.cond_ff rfl ?_ | refine AW.label ?_ | refine AW.skip ?_ | refine AW.ret ?_ | refine AW.exit ?_ | refine AW.regionN (by rfl) ?_ | refine AW.draw (by kernel_rfl) (by decide +kernel) ?_ | refine AW.drawN (by kernel_rfl) (by decide +kernel) ?_ | ((with_reducible refine And.intro ?_ ?_); (focus ((repeat' (with_reducible apply And.intro)) <;> first | (with_reducible exact OrdAt.of (by kernel_rfl)) | (with_reducible exact OrdT.of (by kernel_rfl)) | exact True.intro | (with_reducible assumption) | omega | rfl | exact Nat.le_of_ble_eq_true rfl | exact Or.inl trivial | (unfold inI; omega)))))
      refine ⟨⟨.inl ⟨by omega, by omega, hpl⟩, by omega, by omega⟩, ?_⟩
      repeat (first | simp only [go_sem, Nat.reduceLT, Nat.reduceEqDiff, reduceIte, Int.reduceEq, Int.reduceLE, Int.reduceLT, Nat.reduceMul, Nat.reduceAdd, Nat.reduceSub, Int.reduceNeg, Int.reduceAdd, Int.reduceMul, Int.reduceSub, Int.reduceToNat, Nat.reduceLeDiff, Nat.reduceDiv, Int.reduceDiv, reduceCtorEq, Option.some.injEq, exists_eq_left', ea, eb, ec, ei, ed, ef, hl, hl1, List.take_take, e4, hs, bys_len, emin, e6, bys_spl] | refine AW.seq ?_ | refine AW.block ?_ | refine AW.scope ?_ | refine AW.cond_tt rfl ?_ | refine AW.cond_ff rfl ?_ | refine AW.label ?_ | refine AW.skip ?_ | refine AW.ret ?_ | refine AW.exit ?_ | refine AW.regionN (by rfl) ?_ | refine AW.draw (by kernel_rfl) (by decide +kernel) ?_ | refine AW.drawN (by kernel_rfl) (by decide +kernel) ?_ | ((with_reducible refine And.intro ?_ ?_); (focus ((repeat' (with_reducible apply And.intro)) <;> first | (with_reducible exact OrdAt.of (by kernel_rfl)) | (with_reducible exact OrdT.of (by kernel_rfl)) | exact True.intro | (with_reducible assumption) | omega | rfl | exact Nat.le_of_ble_eq_true rfl | exact Or.inl trivial | (unfold inI; omega)))))
      have e8 : splice R1 (i * 64) x = (insAt d i x).flatten ++ List.replicate ((c - (insAt d i x).length) * 64) 0 := by rw [hR1, room_row hd (by omega) hx (by omega)]
      rw [e8]
      exact h1 (by omega)
end Go.Proofs.YtpknjecfloglgaaDoor

namespace Go.Proofs.YtpknjecfloglgaaDoor
open Go Go.Eng Go.Proofs
set_option maxRecDepth 100000
set_option maxHeartbeats 1000000
set_option linter.unusedSimpArgs false
set_option linter.unusedVariables false
abbrev key (x : Lf) : List UInt8 := x.take 32
abbrev vl (x : Lf) : List UInt8 := x.drop 32
def cmpK (x : Lf) (k : List UInt8) : Int := Lib.compareBytes (key x) k
theorem getD_mem {d : List Lf} {i : Nat} (h : i < d.length) : d.getD i [] ∈ d := by
  rw [List.getD_eq_getElem?_getD, List.getElem?_eq_getElem h]; exact List.getElem_mem h
theorem getD_64 {d : List Lf} (hd : all64 d) {i : Nat} (h : i < d.length) : (d.getD i []).length = 64 := hd _ (getD_mem h)
theorem el_fl {d : List Lf} (hd : all64 d) {i : Nat} (h : i < d.length) (r : List UInt8) : ((d.flatten ++ r).drop (i * 64)).take 64 = d.getD i [] := by
  have h1 := flat_len hd
  rw [List.drop_append_of_le_length (by omega), flat_drop hd (by omega), List.drop_eq_getElem_cons h, List.flatten_cons, List.append_assoc]
  have e : d[i].length = 64 := hd _ (List.getElem_mem h)
  rw [List.take_append_of_le_length (by omega), List.take_of_length_le (by omega)]
  simp [List.getD_eq_getElem?_getD, h]
theorem el_f {d : List Lf} (hd : all64 d) {i : Nat} (h : i < d.length) : (d.flatten.drop (i * 64)).take 64 = d.getD i [] := by
  have := el_fl hd h []
  rwa [List.append_nil] at this
theorem frz_agb {hp : List (Nat × Ob)} {b : List UInt8} : frz hp (.agg (bys b)) = .agg (b.map u8) := by simp [bys, frz, dt]
theorem f31 (x : Lf) (hx : x.length = 64) (k : List UInt8) (hk : k.length = 32) : AFun Tryd.prog 31 [.agg (x.map u8), .agg (k.map u8)] (int (cmpK x k)) := by
  refine AFun.enter Tryd.func31 rfl Tryd.call31 (by simp [Tryd.ntmps31]) fun γ1 => ?_
  simp only [frameOf, Tryd.ntmps31]
  have e1 : List.take 32 (x.map u8) = (key x).map u8 := by simp
  have hk1 : (key x).length = 32 := by simp [hx]
  repeat (first | simp only [go_sem, Nat.reduceLT, Nat.reduceEqDiff, reduceIte, Int.reduceEq, Int.reduceLE, Int.reduceLT, Nat.reduceMul, Nat.reduceAdd, Nat.reduceSub, Int.reduceNeg, Int.reduceAdd, Int.reduceMul, Int.reduceSub, Int.reduceToNat, Nat.reduceLeDiff, Nat.reduceDiv, Int.reduceDiv, reduceCtorEq, Option.some.injEq, exists_eq_left', List.length_map, List.length_set, List.length_replicate, List.length_drop, List.length_take, List.length_append, List.drop_zero, List.take_of_length_le, Nat.le_refl, Nat.sub_zero, splice_all, row_u8, splice_u8, wrap_u64c, hx, hk, e1] | refine AW.seq ?_ | refine AW.block ?_ | refine AW.scope ?_ | refine AW.cond_tt rfl ?_ | refine AW.cond_ff rfl ?_ | refine AW.label ?_ | refine AW.skip ?_ | refine AW.ret ?_ | refine AW.exit ?_ | refine AW.region ?_ | refine AW.draw (by kernel_rfl) (by decide +kernel) ?_ | refine AW.drawN (by kernel_rfl) (by decide +kernel) ?_ | ((with_reducible refine And.intro ?_ ?_); (focus ((repeat' (with_reducible apply And.intro)) <;> first | (with_reducible exact OrdAt.of (by kernel_rfl)) | (with_reducible exact OrdT.of (by kernel_rfl)) | exact True.intro | (with_reducible assumption) | omega | rfl | exact Nat.le_of_ble_eq_true rfl | exact Or.inl trivial | (unfold inI; omega)))))
  (first | refine CallE.flat (f32 (key x) k hk1 hk) (by first | rfl | (simp only [List.map_cons, List.map_nil, frz_sl, frz_agg8, frz_agb, frz_agg32, frz_vv, frz_hv]; done) | (simp only [List.map_cons, List.map_nil, frz_sl, frz_agg8, frz_agb, frz_agg32, frz_vv, frz_hv]; rfl)) (by rfl) (by rfl) ?_ | refine CallXE.flat (f32 (key x) k hk1 hk) (by first | rfl | (simp only [List.map_cons, List.map_nil, frz_sl, frz_agg8, frz_agb, frz_agg32, frz_vv, frz_hv]; done) | (simp only [List.map_cons, List.map_nil, frz_sl, frz_agg8, frz_agb, frz_agg32, frz_vv, frz_hv]; rfl)) (by rfl) (by rfl) ?_)
  repeat (first | simp only [go_sem, Nat.reduceLT, Nat.reduceEqDiff, reduceIte, Int.reduceEq, Int.reduceLE, Int.reduceLT, Nat.reduceMul, Nat.reduceAdd, Nat.reduceSub, Int.reduceNeg, Int.reduceAdd, Int.reduceMul, Int.reduceSub, Int.reduceToNat, Nat.reduceLeDiff, Nat.reduceDiv, Int.reduceDiv, reduceCtorEq, Option.some.injEq, exists_eq_left'] | refine AW.seq ?_ | refine AW.block ?_ | refine AW.scope ?_ | refine AW.cond_tt rfl ?_ | refine AW.cond_ff rfl ?_ | refine AW.label ?_ | refine AW.skip ?_ | refine AW.ret ?_ | refine AW.exit ?_ | refine AW.region ?_ | refine AW.draw (by kernel_rfl) (by decide +kernel) ?_ | refine AW.drawN (by kernel_rfl) (by decide +kernel) ?_ | ((with_reducible refine And.intro ?_ ?_); (focus ((repeat' (with_reducible apply And.intro)) <;> first | (with_reducible exact OrdAt.of (by kernel_rfl)) | (with_reducible exact OrdT.of (by kernel_rfl)) | exact True.intro | (with_reducible assumption) | omega | rfl | exact Nat.le_of_ble_eq_true rfl | exact Or.inl trivial | (unfold inI; omega)))))
  rfl
def posOf (d : List Lf) (k : List UInt8) : Nat := (d.takeWhile fun x => decide (cmpK x k < 0)).length
theorem posOf_eq {d : List Lf} {k : List UInt8} {i : Nat} (hi : i ≤ d.length) (h1 : ∀ p, p < i → cmpK (d.getD p []) k < 0) (h2 : i < d.length → ¬ cmpK (d.getD i []) k < 0) : posOf d k = i := by
  induction d generalizing i with
  | nil => simp at hi; subst hi; rfl
  | cons x d ih =>
    unfold posOf
    cases i with
    | zero => have := h2 (by simp); rw [List.takeWhile_cons, if_neg (by simpa using this)]; rfl
    | succ i =>
      have := h1 0 (by omega)
      rw [List.takeWhile_cons, if_pos (by simpa using this), List.length_cons]
      have := ih (i := i) (by simpa using hi) (fun p hp => by simpa using h1 (p + 1) (by omega)) (fun h => by simpa using h2 (by simpa using h))
      unfold posOf at this
      rw [this]
def thereOf (d : List Lf) (k : List UInt8) : Bool := decide (posOf d k < d.length ∧ cmpK (d.getD (posOf d k) []) k = 0)
def mono (d : List Lf) (k : List UInt8) : Prop := ∀ p q, p ≤ q → q < d.length → cmpK (d.getD q []) k < 0 → cmpK (d.getD p []) k < 0
abbrev fn31 : AV := .v (.func (.func 31) #[] #[])
def st30 (d : List Lf) (k : List UInt8) (i j : Nat) : S := ⟨[(9, int i), (10, int j), (8, int d.length), (7, boo false), (6, int 0), (4, .loc 0 0), (0, lsl d), (2, fn31)], 49, [(0, .box (k.map u8))], 1, []⟩
theorem f30 (d : List Lf) (hd : all64 d) (hn : d.length ≤ 1000) (k : List UInt8) (hk : k.length = 32) (hm : mono d k) : AFun Tryd.prog 30 [lsl d, .agg (k.map u8), fn31] (.tup [int (posOf d k), boo (thereOf d k)]) := by
  refine AFun.enter Tryd.func30 rfl Tryd.call30 (by simp [Tryd.ntmps30]) fun γ1 => ?_
  simp only [frameOf, Tryd.ntmps30]
  repeat (first | simp only [go_sem, Nat.reduceLT, Nat.reduceEqDiff, reduceIte, Int.reduceEq, Int.reduceLE, Int.reduceLT, Nat.reduceMul, Nat.reduceAdd, Nat.reduceSub, Int.reduceNeg, Int.reduceAdd, Int.reduceMul, Int.reduceSub, Int.reduceToNat, Nat.reduceLeDiff, Nat.reduceDiv, Int.reduceDiv, reduceCtorEq, Option.some.injEq, exists_eq_left'] | refine AW.seq ?_ | refine AW.block ?_ | refine AW.scope ?_ | refine AW.cond_tt rfl ?_ | refine AW.cond_ff rfl ?_ | refine AW.label ?_ | refine AW.skip ?_ | refine AW.ret ?_ | refine AW.exit ?_ | refine AW.region ?_ | refine AW.draw (by kernel_rfl) (by decide +kernel) ?_ | refine AW.drawN (by kernel_rfl) (by decide +kernel) ?_ | ((with_reducible refine And.intro ?_ ?_); (focus ((repeat' (with_reducible apply And.intro)) <;> first | (with_reducible exact OrdAt.of (by kernel_rfl)) | (with_reducible exact OrdT.of (by kernel_rfl)) | exact True.intro | (with_reducible assumption) | omega | rfl | exact Nat.le_of_ble_eq_true rfl | exact Or.inl trivial | (unfold inI; omega)))))
  refine AW.loop (fun s => ∃ i j : Nat, i ≤ j ∧ j ≤ d.length ∧ (∀ p, p < i → cmpK (d.getD p []) k < 0) ∧ (j < d.length → ¬ cmpK (d.getD j []) k < 0) ∧ s = st30 d k i j) (fun s => (slotN s 10 - slotN s 9).toNat) (s0 := st30 d k 0 d.length) ?_ ⟨0, d.length, by omega, by omega, by omega, by omega, rfl⟩ ?_
  · simp only [st30]; exact (Sub.same (by first | exact Nat.zero_le _ | exact Nat.le_refl _ | decide | omega) rfl rfl (by simp) (by simp [lab, labL, ren, renL, look_cons, renL_bys, labL_bys, renL_mapu8, labL_mapu8, renL_mapu32, labL_mapu32]) (by simp [labO, renO, lab, labL, ren, renL, look_cons, renL_bys, labL_bys, renL_mapu8, labL_mapu8, renL_mapu32, labL_mapu32]))
  rintro s ⟨i, j, hij, hj, h1, h2, rfl⟩
  simp only [st30]
  repeat (first | simp only [go_sem, Nat.reduceLT, Nat.reduceEqDiff, reduceIte, Int.reduceEq, Int.reduceLE, Int.reduceLT, Nat.reduceMul, Nat.reduceAdd, Nat.reduceSub, Int.reduceNeg, Int.reduceAdd, Int.reduceMul, Int.reduceSub, Int.reduceToNat, Nat.reduceLeDiff, Nat.reduceDiv, Int.reduceDiv, reduceCtorEq, Option.some.injEq, exists_eq_left'] | refine AW.seq ?_ | refine AW.block ?_ | refine AW.scope ?_ | refine AW.cond_tt rfl ?_ | refine AW.cond_ff rfl ?_ | refine AW.label ?_ | refine AW.skip ?_ | refine AW.ret ?_ | refine AW.exit ?_ | refine AW.region ?_ | refine AW.draw (by kernel_rfl) (by decide +kernel) ?_ | refine AW.drawN (by kernel_rfl) (by decide +kernel) ?_ | ((with_reducible refine And.intro ?_ ?_); (focus ((repeat' (with_reducible apply And.intro)) <;> first | (with_reducible exact OrdAt.of (by kernel_rfl)) | (with_reducible exact OrdT.of (by kernel_rfl)) | exact True.intro | (with_reducible assumption) | omega | rfl | exact Nat.le_of_ble_eq_true rfl | exact Or.inl trivial | (unfold inI; omega)))))
  refine AW.cond_dec rfl (fun h3 => ?_) (fun h3 => ?_)
  · have hm2 : (((i + j) / 2 : Nat) : Int) = ((i : Int) + j) / 2 := by omega
    obtain ⟨h, hh⟩ : ∃ h, h = (i + j) / 2 := ⟨_, rfl⟩
    have hlt : h < d.length := by omega
    have eshr : binO Tryd.prog 71 BinOp.shr (AV.v (Value.int IntKind.u64 (((i : Int) + j) % 18446744073709551616))) (AV.v (Value.int IntKind.u64 1)) = (True, AV.v (Value.int IntKind.u64 (h : Int))) := by
      rw [bin_shr]
      have e1 : ((i : Int) + j) % 18446744073709551616 = (i : Int) + j := by omega
      have e2 : ((i : Int) + j).fdiv (2 ^ min (1 : Int).toNat IntKind.u64.bits) = (h : Int) := by
        show ((i : Int) + j).fdiv 2 = (h : Int)
        rw [Int.fdiv_eq_ediv_of_nonneg _ (by decide), hh, hm2]
      rw [e1, e2]
      simp
    have ew : IntKind.i64.wrap (h : Int) = (h : Int) := wrap_inI (by unfold inI; omega)
    have el := el_f hd hlt
    have hx := getD_64 hd hlt
    have hb : h * 64 + 64 ≤ d.length * 64 := by omega
    have hfl := flat_len hd
    have h64 : 64 ≤ d.length * 64 - h * 64 := by omega
    repeat (first | simp only [go_sem, Nat.reduceLT, Nat.reduceEqDiff, reduceIte, Int.reduceEq, Int.reduceLE, Int.reduceLT, Nat.reduceMul, Nat.reduceAdd, Nat.reduceSub, Int.reduceNeg, Int.reduceAdd, Int.reduceMul, Int.reduceSub, Int.reduceToNat, Nat.reduceLeDiff, Nat.reduceDiv, Int.reduceDiv, reduceCtorEq, Option.some.injEq, exists_eq_left', eshr, ew, List.length_map, List.length_set, List.length_replicate, List.length_drop, List.length_take, List.length_append, List.drop_zero, List.take_of_length_le, Nat.le_refl, Nat.sub_zero, splice_all, row_u8, splice_u8, wrap_u64c, hk, el, hfl, h64, Array.size_empty, List.size_toArray, List.length_nil, and_self, if_true] | refine AW.seq ?_ | refine AW.block ?_ | refine AW.scope ?_ | refine AW.cond_tt rfl ?_ | refine AW.cond_ff rfl ?_ | refine AW.label ?_ | refine AW.skip ?_ | refine AW.ret ?_ | refine AW.exit ?_ | refine AW.region ?_ | refine AW.draw (by kernel_rfl) (by decide +kernel) ?_ | refine AW.drawN (by kernel_rfl) (by decide +kernel) ?_ | ((with_reducible refine And.intro ?_ ?_); (focus ((repeat' (with_reducible apply And.intro)) <;> first | (with_reducible exact OrdAt.of (by kernel_rfl)) | (with_reducible exact OrdT.of (by kernel_rfl)) | exact True.intro | (with_reducible assumption) | omega | rfl | exact Nat.le_of_ble_eq_true rfl | exact Or.inl trivial | (unfold inI; omega)))))
    (first | refine CallE.flat (f31 (d.getD h []) hx k hk) (by first | rfl | (simp only [List.map_cons, List.map_nil, frz_sl, frz_agg8, frz_agb, frz_agg32, frz_vv, frz_hv]; done) | (simp only [List.map_cons, List.map_nil, frz_sl, frz_agg8, frz_agb, frz_agg32, frz_vv, frz_hv]; rfl)) (by rfl) (by rfl) ?_ | refine CallXE.flat (f31 (d.getD h []) hx k hk) (by first | rfl | (simp only [List.map_cons, List.map_nil, frz_sl, frz_agg8, frz_agb, frz_agg32, frz_vv, frz_hv]; done) | (simp only [List.map_cons, List.map_nil, frz_sl, frz_agg8, frz_agb, frz_agg32, frz_vv, frz_hv]; rfl)) (by rfl) (by rfl) ?_)
    repeat (first | simp only [go_sem, Nat.reduceLT, Nat.reduceEqDiff, reduceIte, Int.reduceEq, Int.reduceLE, Int.reduceLT, Nat.reduceMul, Nat.reduceAdd, Nat.reduceSub, Int.reduceNeg, Int.reduceAdd, Int.reduceMul, Int.reduceSub, Int.reduceToNat, Nat.reduceLeDiff, Nat.reduceDiv, Int.reduceDiv, reduceCtorEq, Option.some.injEq, exists_eq_left'] | refine AW.seq ?_ | refine AW.block ?_ | refine AW.scope ?_ | refine AW.cond_tt rfl ?_ | refine AW.cond_ff rfl ?_ | refine AW.label ?_ | refine AW.skip ?_ | refine AW.ret ?_ | refine AW.exit ?_ | refine AW.region ?_ | refine AW.draw (by kernel_rfl) (by decide +kernel) ?_ | refine AW.drawN (by kernel_rfl) (by decide +kernel) ?_ | ((with_reducible refine And.intro ?_ ?_); (focus ((repeat' (with_reducible apply And.intro)) <;> first | (with_reducible exact OrdAt.of (by kernel_rfl)) | (with_reducible exact OrdT.of (by kernel_rfl)) | exact True.intro | (with_reducible assumption) | omega | rfl | exact Nat.le_of_ble_eq_true rfl | exact Or.inl trivial | (unfold inI; omega)))))
    refine AW.cond_dec rfl (fun h5 => ?_) (fun h5 => ?_)
    · repeat (first | simp only [go_sem, Nat.reduceLT, Nat.reduceEqDiff, reduceIte, Int.reduceEq, Int.reduceLE, Int.reduceLT, Nat.reduceMul, Nat.reduceAdd, Nat.reduceSub, Int.reduceNeg, Int.reduceAdd, Int.reduceMul, Int.reduceSub, Int.reduceToNat, Nat.reduceLeDiff, Nat.reduceDiv, Int.reduceDiv, reduceCtorEq, Option.some.injEq, exists_eq_left'] | refine AW.seq ?_ | refine AW.block ?_ | refine AW.scope ?_ | refine AW.cond_tt rfl ?_ | refine AW.cond_ff rfl ?_ | refine AW.label ?_ | refine AW.skip ?_ | refine AW.ret ?_ | refine AW.exit ?_ | refine AW.region ?_ | refine AW.draw (by kernel_rfl) (by decide +kernel) ?_ | refine AW.drawN (by kernel_rfl) (by decide +kernel) ?_ | ((with_reducible refine And.intro ?_ ?_); (focus ((repeat' (with_reducible apply And.intro)) <;> first | (with_reducible exact OrdAt.of (by kernel_rfl)) | (with_reducible exact OrdT.of (by kernel_rfl)) | exact True.intro | (with_reducible assumption) | omega | rfl | exact Nat.le_of_ble_eq_true rfl | exact Or.inl trivial | (unfold inI; omega)))))
      rw [Qof_lp]
      refine ⟨st30 d k (h + 1) j, ?_, ⟨h + 1, j, by omega, hj, fun p hp => ?_, h2, rfl⟩, ?_⟩
      · simp only [st30]; exact (Sub.same (by first | exact Nat.zero_le _ | exact Nat.le_refl _ | decide | omega) rfl rfl (by simp) (by simp [lab, labL, ren, renL, look_cons, renL_bys, labL_bys, renL_mapu8, labL_mapu8, renL_mapu32, labL_mapu32]) (by simp [labO, renO, lab, labL, ren, renL, look_cons, renL_bys, labL_bys, renL_mapu8, labL_mapu8, renL_mapu32, labL_mapu32]))
      · by_cases e : p = h
        · subst e; exact h5
        · exact hm p h (by omega) hlt h5
      · simp [slotN, st30, look_cons]; omega
    · repeat (first | simp only [go_sem, Nat.reduceLT, Nat.reduceEqDiff, reduceIte, Int.reduceEq, Int.reduceLE, Int.reduceLT, Nat.reduceMul, Nat.reduceAdd, Nat.reduceSub, Int.reduceNeg, Int.reduceAdd, Int.reduceMul, Int.reduceSub, Int.reduceToNat, Nat.reduceLeDiff, Nat.reduceDiv, Int.reduceDiv, reduceCtorEq, Option.some.injEq, exists_eq_left'] | refine AW.seq ?_ | refine AW.block ?_ | refine AW.scope ?_ | refine AW.cond_tt rfl ?_ | refine AW.cond_ff rfl ?_ | refine AW.label ?_ | refine AW.skip ?_ | refine AW.ret ?_ | refine AW.exit ?_ | refine AW.region ?_ | refine AW.draw (by kernel_rfl) (by decide +kernel) ?_ | refine AW.drawN (by kernel_rfl) (by decide +kernel) ?_ | ((with_reducible refine And.intro ?_ ?_); (focus ((repeat' (with_reducible apply And.intro)) <;> first | (with_reducible exact OrdAt.of (by kernel_rfl)) | (with_reducible exact OrdT.of (by kernel_rfl)) | exact True.intro | (with_reducible assumption) | omega | rfl | exact Nat.le_of_ble_eq_true rfl | exact Or.inl trivial | (unfold inI; omega)))))
      rw [Qof_lp]
      refine ⟨st30 d k i h, ?_, ⟨i, h, by omega, by omega, h1, fun _ => h5, rfl⟩, ?_⟩
      · simp only [st30]; exact (Sub.same (by first | exact Nat.zero_le _ | exact Nat.le_refl _ | decide | omega) rfl rfl (by simp) (by simp [lab, labL, ren, renL, look_cons, renL_bys, labL_bys, renL_mapu8, labL_mapu8, renL_mapu32, labL_mapu32]) (by simp [labO, renO, lab, labL, ren, renL, look_cons, renL_bys, labL_bys, renL_mapu8, labL_mapu8, renL_mapu32, labL_mapu32]))
      · simp [slotN, st30, look_cons]; omega
  · have hij' : i = j := by omega
    subst hij'
    have hp := posOf_eq hj h1 h2
    repeat (first | simp only [go_sem, Nat.reduceLT, Nat.reduceEqDiff, reduceIte, Int.reduceEq, Int.reduceLE, Int.reduceLT, Nat.reduceMul, Nat.reduceAdd, Nat.reduceSub, Int.reduceNeg, Int.reduceAdd, Int.reduceMul, Int.reduceSub, Int.reduceToNat, Nat.reduceLeDiff, Nat.reduceDiv, Int.reduceDiv, reduceCtorEq, Option.some.injEq, exists_eq_left'] | refine AW.seq ?_ | refine AW.block ?_ | refine AW.scope ?_ | refine AW.cond_tt rfl ?_ | refine AW.cond_ff rfl ?_ | refine AW.label ?_ | refine AW.skip ?_ | refine AW.ret ?_ | refine AW.exit ?_ | refine AW.region ?_ | refine AW.draw (by kernel_rfl) (by decide +kernel) ?_ | refine AW.drawN (by kernel_rfl) (by decide +kernel) ?_ | ((with_reducible refine And.intro ?_ ?_); (focus ((repeat' (with_reducible apply And.intro)) <;> first | (with_reducible exact OrdAt.of (by kernel_rfl)) | (with_reducible exact OrdT.of (by kernel_rfl)) | exact True.intro | (with_reducible assumption) | omega | rfl | exact Nat.le_of_ble_eq_true rfl | exact Or.inl trivial | (unfold inI; omega)))))
    refine drG_dec (fun h4 => ?_) (fun h4 => ?_)
    · have hlt : i < d.length := by omega
      have el := el_f hd hlt
      have hx := getD_64 hd hlt
      have hb : i * 64 + 64 ≤ d.length * 64 := by omega
      have hfl := flat_len hd
      have h64 : 64 ≤ d.length * 64 - i * 64 := by omega
      repeat (first | simp only [go_sem, Nat.reduceLT, Nat.reduceEqDiff, reduceIte, Int.reduceEq, Int.reduceLE, Int.reduceLT, Nat.reduceMul, Nat.reduceAdd, Nat.reduceSub, Int.reduceNeg, Int.reduceAdd, Int.reduceMul, Int.reduceSub, Int.reduceToNat, Nat.reduceLeDiff, Nat.reduceDiv, Int.reduceDiv, reduceCtorEq, Option.some.injEq, exists_eq_left', List.length_map, List.length_set, List.length_replicate, List.length_drop, List.length_take, List.length_append, List.drop_zero, List.take_of_length_le, Nat.le_refl, Nat.sub_zero, splice_all, row_u8, splice_u8, wrap_u64c, hk, el, hfl, h64, Array.size_empty, List.size_toArray, List.length_nil, and_self, if_true] | refine AW.seq ?_ | refine AW.block ?_ | refine AW.scope ?_ | refine AW.cond_tt rfl ?_ | refine AW.cond_ff rfl ?_ | refine AW.label ?_ | refine AW.skip ?_ | refine AW.ret ?_ | refine AW.exit ?_ | refine AW.region ?_ | refine AW.draw (by kernel_rfl) (by decide +kernel) ?_ | refine AW.drawN (by kernel_rfl) (by decide +kernel) ?_ | ((with_reducible refine And.intro ?_ ?_); (focus ((repeat' (with_reducible apply And.intro)) <;> first | (with_reducible exact OrdAt.of (by kernel_rfl)) | (with_reducible exact OrdT.of (by kernel_rfl)) | exact True.intro | (with_reducible assumption) | omega | rfl | exact Nat.le_of_ble_eq_true rfl | exact Or.inl trivial | (unfold inI; omega)))))
      (first | refine CallE.flat (f31 (d.getD i []) hx k hk) (by first | rfl | (simp only [List.map_cons, List.map_nil, frz_sl, frz_agg8, frz_agb, frz_agg32, frz_vv, frz_hv]; done) | (simp only [List.map_cons, List.map_nil, frz_sl, frz_agg8, frz_agb, frz_agg32, frz_vv, frz_hv]; rfl)) (by rfl) (by rfl) ?_ | refine CallXE.flat (f31 (d.getD i []) hx k hk) (by first | rfl | (simp only [List.map_cons, List.map_nil, frz_sl, frz_agg8, frz_agb, frz_agg32, frz_vv, frz_hv]; done) | (simp only [List.map_cons, List.map_nil, frz_sl, frz_agg8, frz_agb, frz_agg32, frz_vv, frz_hv]; rfl)) (by rfl) (by rfl) ?_)
      repeat (first | simp only [go_sem, Nat.reduceLT, Nat.reduceEqDiff, reduceIte, Int.reduceEq, Int.reduceLE, Int.reduceLT, Nat.reduceMul, Nat.reduceAdd, Nat.reduceSub, Int.reduceNeg, Int.reduceAdd, Int.reduceMul, Int.reduceSub, Int.reduceToNat, Nat.reduceLeDiff, Nat.reduceDiv, Int.reduceDiv, reduceCtorEq, Option.some.injEq, exists_eq_left'] | refine AW.seq ?_ | refine AW.block ?_ | refine AW.scope ?_ | refine AW.cond_tt rfl ?_ | refine AW.cond_ff rfl ?_ | refine AW.label ?_ | refine AW.skip ?_ | refine AW.ret ?_ | refine AW.exit ?_ | refine AW.region ?_ | refine AW.draw (by kernel_rfl) (by decide +kernel) ?_ | refine AW.drawN (by kernel_rfl) (by decide +kernel) ?_ | ((with_reducible refine And.intro ?_ ?_); (focus ((repeat' (with_reducible apply And.intro)) <;> first | (with_reducible exact OrdAt.of (by kernel_rfl)) | (with_reducible exact OrdT.of (by kernel_rfl)) | exact True.intro | (with_reducible assumption) | omega | rfl | exact Nat.le_of_ble_eq_true rfl | exact Or.inl trivial | (unfold inI; omega)))))
      simp [thereOf, hp, hlt]
    · repeat (first | simp only [go_sem, Nat.reduceLT, Nat.reduceEqDiff, reduceIte, Int.reduceEq, Int.reduceLE, Int.reduceLT, Nat.reduceMul, Nat.reduceAdd, Nat.reduceSub, Int.reduceNeg, Int.reduceAdd, Int.reduceMul, Int.reduceSub, Int.reduceToNat, Nat.reduceLeDiff, Nat.reduceDiv, Int.reduceDiv, reduceCtorEq, Option.some.injEq, exists_eq_left'] | refine AW.seq ?_ | refine AW.block ?_ | refine AW.scope ?_ | refine AW.cond_tt rfl ?_ | refine AW.cond_ff rfl ?_ | refine AW.label ?_ | refine AW.skip ?_ | refine AW.ret ?_ | refine AW.exit ?_ | refine AW.region ?_ | refine AW.draw (by kernel_rfl) (by decide +kernel) ?_ | refine AW.drawN (by kernel_rfl) (by decide +kernel) ?_ | ((with_reducible refine And.intro ?_ ?_); (focus ((repeat' (with_reducible apply And.intro)) <;> first | (with_reducible exact OrdAt.of (by kernel_rfl)) | (with_reducible exact OrdT.of (by kernel_rfl)) | exact True.intro | (with_reducible assumption) | omega | rfl | exact Nat.le_of_ble_eq_true rfl | exact Or.inl trivial | (unfold inI; omega)))))
      simp [thereOf, hp]
      omega
end Go.Proofs.YtpknjecfloglgaaDoor

namespace Go.Proofs.YtpknjecfloglgaaDoor
open Go Go.Eng Go.Proofs
set_option maxRecDepth 100000
set_option maxHeartbeats 1000000
set_option linter.unusedSimpArgs false
set_option linter.unusedVariables false
@[go_sem] theorem agg_bys (b : List UInt8) : AV.agg (bys b) = AV.agg (b.map u8) := rfl
theorem el_k {d : List Lf} (hd : all64 d) {i : Nat} (h : i < d.length) : (d.flatten.drop (i * 64)).take 32 = key (d.getD i []) := by
  rw [key, ← el_f hd h, List.take_take]; rfl
theorem el_v {d : List Lf} (hd : all64 d) {i : Nat} (h : i < d.length) : (d.flatten.drop (i * 64 + 32)).take 32 = vl (d.getD i []) := by
  rw [vl, ← el_f hd h, List.drop_take, List.drop_drop]
theorem key_len {d : List Lf} (hd : all64 d) {i : Nat} (h : i < d.length) : (key (d.getD i [])).length = 32 := by rw [key, List.length_take, getD_64 hd h]; rfl
theorem vl_len {d : List Lf} (hd : all64 d) {i : Nat} (h : i < d.length) : (vl (d.getD i [])).length = 32 := by rw [vl, List.length_drop, getD_64 hd h]
def upTo (d : List Lf) (m : Nat) : Prop := ∀ p, p < m → p + 1 < d.length → cmpK (d.getD p []) (key (d.getD (p + 1) [])) < 0
instance (d : List Lf) (m : Nat) : Decidable (upTo d m) := by unfold upTo; infer_instance
def chk (d : List Lf) : Bool := decide (d.length ≤ 400 ∧ upTo d d.length)
def st14 (d : List Lf) (i : Nat) : S := ⟨[(3, int i), (2, boo false), (0, lsl d)], 26, [], 0, []⟩
theorem f14 (d : List Lf) (hd : all64 d) (hn : d.length ≤ 1000) : AFun Tryd.prog 14 [lsl d] (boo (chk d)) := by
  refine AFun.enter Tryd.func14 rfl Tryd.call14 (by simp [Tryd.ntmps14]) fun γ1 => ?_
  simp only [frameOf, Tryd.ntmps14]
  repeat (first | simp only [go_sem, Nat.reduceLT, Nat.reduceEqDiff, reduceIte, Int.reduceEq, Int.reduceLE, Int.reduceLT, Nat.reduceMul, Nat.reduceAdd, Nat.reduceSub, Int.reduceNeg, Int.reduceAdd, Int.reduceMul, Int.reduceSub, Int.reduceToNat, Nat.reduceLeDiff, Nat.reduceDiv, Int.reduceDiv, reduceCtorEq, Option.some.injEq, exists_eq_left'] | refine AW.seq ?_ | refine AW.block ?_ | refine AW.scope ?_ | refine AW.cond_tt rfl ?_ | refine AW.cond_ff rfl ?_ | refine AW.label ?_ | refine AW.skip ?_ | refine AW.ret ?_ | refine AW.exit ?_ | refine AW.region ?_ | refine AW.draw (by kernel_rfl) (by decide +kernel) ?_ | refine AW.drawN (by kernel_rfl) (by decide +kernel) ?_ | ((with_reducible refine And.intro ?_ ?_); (focus ((repeat' (with_reducible apply And.intro)) <;> first | (with_reducible exact OrdAt.of (by kernel_rfl)) | (with_reducible exact OrdT.of (by kernel_rfl)) | exact True.intro | (with_reducible assumption) | omega | rfl | exact Nat.le_of_ble_eq_true rfl | exact Or.inl trivial | (unfold inI; omega)))))
  refine AW.cond_dec rfl (fun h1 => ?_) (fun h1 => ?_)
  · repeat (first | simp only [go_sem, Nat.reduceLT, Nat.reduceEqDiff, reduceIte, Int.reduceEq, Int.reduceLE, Int.reduceLT, Nat.reduceMul, Nat.reduceAdd, Nat.reduceSub, Int.reduceNeg, Int.reduceAdd, Int.reduceMul, Int.reduceSub, Int.reduceToNat, Nat.reduceLeDiff, Nat.reduceDiv, Int.reduceDiv, reduceCtorEq, Option.some.injEq, exists_eq_left'] | refine AW.seq ?_ | refine AW.block ?_ | refine AW.scope ?_ | refine AW.cond_tt rfl ?_ | refine AW.cond_ff rfl ?_ | refine AW.label ?_ | refine AW.skip ?_ | refine AW.ret ?_ | refine AW.exit ?_ | refine AW.region ?_ | refine AW.draw (by kernel_rfl) (by decide +kernel) ?_ | refine AW.drawN (by kernel_rfl) (by decide +kernel) ?_ | ((with_reducible refine And.intro ?_ ?_); (focus ((repeat' (with_reducible apply And.intro)) <;> first | (with_reducible exact OrdAt.of (by kernel_rfl)) | (with_reducible exact OrdT.of (by kernel_rfl)) | exact True.intro | (with_reducible assumption) | omega | rfl | exact Nat.le_of_ble_eq_true rfl | exact Or.inl trivial | (unfold inI; omega)))))
    simp [chk]; omega
  repeat (first | simp only [go_sem, Nat.reduceLT, Nat.reduceEqDiff, reduceIte, Int.reduceEq, Int.reduceLE, Int.reduceLT, Nat.reduceMul, Nat.reduceAdd, Nat.reduceSub, Int.reduceNeg, Int.reduceAdd, Int.reduceMul, Int.reduceSub, Int.reduceToNat, Nat.reduceLeDiff, Nat.reduceDiv, Int.reduceDiv, reduceCtorEq, Option.some.injEq, exists_eq_left'] | refine AW.seq ?_ | refine AW.block ?_ | refine AW.scope ?_ | refine AW.cond_tt rfl ?_ | refine AW.cond_ff rfl ?_ | refine AW.label ?_ | refine AW.skip ?_ | refine AW.ret ?_ | refine AW.exit ?_ | refine AW.region ?_ | refine AW.draw (by kernel_rfl) (by decide +kernel) ?_ | refine AW.drawN (by kernel_rfl) (by decide +kernel) ?_ | ((with_reducible refine And.intro ?_ ?_); (focus ((repeat' (with_reducible apply And.intro)) <;> first | (with_reducible exact OrdAt.of (by kernel_rfl)) | (with_reducible exact OrdT.of (by kernel_rfl)) | exact True.intro | (with_reducible assumption) | omega | rfl | exact Nat.le_of_ble_eq_true rfl | exact Or.inl trivial | (unfold inI; omega)))))
  refine AW.loop (fun s => ∃ i : Nat, 1 ≤ i ∧ upTo d (i - 1) ∧ s = st14 d i) (fun s => (d.length - slotN s 3).toNat) (s0 := st14 d 1) ?_ ⟨1, by omega, fun p hp => by omega, rfl⟩ ?_
  · simp only [st14]; exact (Sub.same (by first | exact Nat.zero_le _ | exact Nat.le_refl _ | decide | omega) rfl rfl (by simp) (by simp [lab, labL, ren, renL, look_cons, renL_bys, labL_bys, renL_mapu8, labL_mapu8, renL_mapu32, labL_mapu32]) (by simp [labO, renO, lab, labL, ren, renL, look_cons, renL_bys, labL_bys, renL_mapu8, labL_mapu8, renL_mapu32, labL_mapu32]))
  rintro s ⟨i, hi, hu, rfl⟩
  simp only [st14]
  repeat (first | simp only [go_sem, Nat.reduceLT, Nat.reduceEqDiff, reduceIte, Int.reduceEq, Int.reduceLE, Int.reduceLT, Nat.reduceMul, Nat.reduceAdd, Nat.reduceSub, Int.reduceNeg, Int.reduceAdd, Int.reduceMul, Int.reduceSub, Int.reduceToNat, Nat.reduceLeDiff, Nat.reduceDiv, Int.reduceDiv, reduceCtorEq, Option.some.injEq, exists_eq_left'] | refine AW.seq ?_ | refine AW.block ?_ | refine AW.scope ?_ | refine AW.cond_tt rfl ?_ | refine AW.cond_ff rfl ?_ | refine AW.label ?_ | refine AW.skip ?_ | refine AW.ret ?_ | refine AW.exit ?_ | refine AW.region ?_ | refine AW.draw (by kernel_rfl) (by decide +kernel) ?_ | refine AW.drawN (by kernel_rfl) (by decide +kernel) ?_ | ((with_reducible refine And.intro ?_ ?_); (focus ((repeat' (with_reducible apply And.intro)) <;> first | (with_reducible exact OrdAt.of (by kernel_rfl)) | (with_reducible exact OrdT.of (by kernel_rfl)) | exact True.intro | (with_reducible assumption) | omega | rfl | exact Nat.le_of_ble_eq_true rfl | exact Or.inl trivial | (unfold inI; omega)))))
  refine AW.cond_dec rfl (fun h2 => ?_) (fun h2 => ?_)
  · have hlt : i < d.length := by omega
    have hlt' : i - 1 < d.length := by omega
    have ek := el_k hd hlt
    have ek' := el_k hd hlt'
    have hfl := flat_len hd
    have ei : ((i : Int) - 1) = ((i - 1 : Nat) : Int) := by omega
    have h64 : 32 ≤ d.length * 64 - i * 64 := by omega
    have h64' : 32 ≤ d.length * 64 - (i - 1) * 64 := by omega
    repeat (first | simp only [go_sem, Nat.reduceLT, Nat.reduceEqDiff, reduceIte, Int.reduceEq, Int.reduceLE, Int.reduceLT, Nat.reduceMul, Nat.reduceAdd, Nat.reduceSub, Int.reduceNeg, Int.reduceAdd, Int.reduceMul, Int.reduceSub, Int.reduceToNat, Nat.reduceLeDiff, Nat.reduceDiv, Int.reduceDiv, reduceCtorEq, Option.some.injEq, exists_eq_left', List.length_map, List.length_set, List.length_replicate, List.length_drop, List.length_take, List.length_append, List.drop_zero, List.take_of_length_le, Nat.le_refl, Nat.sub_zero, splice_all, row_u8, splice_u8, wrap_u64c, ek, ek', hfl, h64, h64', ei] | refine AW.seq ?_ | refine AW.block ?_ | refine AW.scope ?_ | refine AW.cond_tt rfl ?_ | refine AW.cond_ff rfl ?_ | refine AW.label ?_ | refine AW.skip ?_ | refine AW.ret ?_ | refine AW.exit ?_ | refine AW.region ?_ | refine AW.draw (by kernel_rfl) (by decide +kernel) ?_ | refine AW.drawN (by kernel_rfl) (by decide +kernel) ?_ | ((with_reducible refine And.intro ?_ ?_); (focus ((repeat' (with_reducible apply And.intro)) <;> first | (with_reducible exact OrdAt.of (by kernel_rfl)) | (with_reducible exact OrdT.of (by kernel_rfl)) | exact True.intro | (with_reducible assumption) | omega | rfl | exact Nat.le_of_ble_eq_true rfl | exact Or.inl trivial | (unfold inI; omega)))))
    (first | refine CallE.flat (f32 (key (d.getD (i - 1) [])) (key (d.getD i [])) (key_len hd hlt') (key_len hd hlt)) (by first | rfl | (simp only [List.map_cons, List.map_nil, frz_sl, frz_agg8, frz_agb, frz_agg32, frz_vv, frz_hv]; done) | (simp only [List.map_cons, List.map_nil, frz_sl, frz_agg8, frz_agb, frz_agg32, frz_vv, frz_hv]; rfl)) (by rfl) (by rfl) ?_ | refine CallXE.flat (f32 (key (d.getD (i - 1) [])) (key (d.getD i [])) (key_len hd hlt') (key_len hd hlt)) (by first | rfl | (simp only [List.map_cons, List.map_nil, frz_sl, frz_agg8, frz_agb, frz_agg32, frz_vv, frz_hv]; done) | (simp only [List.map_cons, List.map_nil, frz_sl, frz_agg8, frz_agb, frz_agg32, frz_vv, frz_hv]; rfl)) (by rfl) (by rfl) ?_)
    repeat (first | simp only [go_sem, Nat.reduceLT, Nat.reduceEqDiff, reduceIte, Int.reduceEq, Int.reduceLE, Int.reduceLT, Nat.reduceMul, Nat.reduceAdd, Nat.reduceSub, Int.reduceNeg, Int.reduceAdd, Int.reduceMul, Int.reduceSub, Int.reduceToNat, Nat.reduceLeDiff, Nat.reduceDiv, Int.reduceDiv, reduceCtorEq, Option.some.injEq, exists_eq_left'] | refine AW.seq ?_ | refine AW.block ?_ | refine AW.scope ?_ | refine AW.cond_tt rfl ?_ | refine AW.cond_ff rfl ?_ | refine AW.label ?_ | refine AW.skip ?_ | refine AW.ret ?_ | refine AW.exit ?_ | refine AW.region ?_ | refine AW.draw (by kernel_rfl) (by decide +kernel) ?_ | refine AW.drawN (by kernel_rfl) (by decide +kernel) ?_ | ((with_reducible refine And.intro ?_ ?_); (focus ((repeat' (with_reducible apply And.intro)) <;> first | (with_reducible exact OrdAt.of (by kernel_rfl)) | (with_reducible exact OrdT.of (by kernel_rfl)) | exact True.intro | (with_reducible assumption) | omega | rfl | exact Nat.le_of_ble_eq_true rfl | exact Or.inl trivial | (unfold inI; omega)))))
    refine AW.cond_dec rfl (fun h3 => ?_) (fun h3 => ?_)
    · repeat (first | simp only [go_sem, Nat.reduceLT, Nat.reduceEqDiff, reduceIte, Int.reduceEq, Int.reduceLE, Int.reduceLT, Nat.reduceMul, Nat.reduceAdd, Nat.reduceSub, Int.reduceNeg, Int.reduceAdd, Int.reduceMul, Int.reduceSub, Int.reduceToNat, Nat.reduceLeDiff, Nat.reduceDiv, Int.reduceDiv, reduceCtorEq, Option.some.injEq, exists_eq_left'] | refine AW.seq ?_ | refine AW.block ?_ | refine AW.scope ?_ | refine AW.cond_tt rfl ?_ | refine AW.cond_ff rfl ?_ | refine AW.label ?_ | refine AW.skip ?_ | refine AW.ret ?_ | refine AW.exit ?_ | refine AW.region ?_ | refine AW.draw (by kernel_rfl) (by decide +kernel) ?_ | refine AW.drawN (by kernel_rfl) (by decide +kernel) ?_ | ((with_reducible refine And.intro ?_ ?_); (focus ((repeat' (with_reducible apply And.intro)) <;> first | (with_reducible exact OrdAt.of (by kernel_rfl)) | (with_reducible exact OrdT.of (by kernel_rfl)) | exact True.intro | (with_reducible assumption) | omega | rfl | exact Nat.le_of_ble_eq_true rfl | exact Or.inl trivial | (unfold inI; omega)))))
      have : ¬ upTo d d.length := by
        intro h
        have := h (i - 1) hlt' (by omega)
        rw [show i - 1 + 1 = i by omega] at this
        unfold cmpK at this
        omega
      simp [chk, this]
    · repeat (first | simp only [go_sem, Nat.reduceLT, Nat.reduceEqDiff, reduceIte, Int.reduceEq, Int.reduceLE, Int.reduceLT, Nat.reduceMul, Nat.reduceAdd, Nat.reduceSub, Int.reduceNeg, Int.reduceAdd, Int.reduceMul, Int.reduceSub, Int.reduceToNat, Nat.reduceLeDiff, Nat.reduceDiv, Int.reduceDiv, reduceCtorEq, Option.some.injEq, exists_eq_left'] | refine AW.seq ?_ | refine AW.block ?_ | refine AW.scope ?_ | refine AW.cond_tt rfl ?_ | refine AW.cond_ff rfl ?_ | refine AW.label ?_ | refine AW.skip ?_ | refine AW.ret ?_ | refine AW.exit ?_ | refine AW.region ?_ | refine AW.draw (by kernel_rfl) (by decide +kernel) ?_ | refine AW.drawN (by kernel_rfl) (by decide +kernel) ?_ | ((with_reducible refine And.intro ?_ ?_); (focus ((repeat' (with_reducible apply And.intro)) <;> first | (with_reducible exact OrdAt.of (by kernel_rfl)) | (with_reducible exact OrdT.of (by kernel_rfl)) | exact True.intro | (with_reducible assumption) | omega | rfl | exact Nat.le_of_ble_eq_true rfl | exact Or.inl trivial | (unfold inI; omega)))))
      rw [Qof_lp]
      refine ⟨st14 d (i + 1), ?_, ⟨i + 1, by omega, fun p hp hp2 => ?_, rfl⟩, ?_⟩
      · simp only [st14]; exact (Sub.same (by first | exact Nat.zero_le _ | exact Nat.le_refl _ | decide | omega) rfl rfl (by simp) (by simp [lab, labL, ren, renL, look_cons, renL_bys, labL_bys, renL_mapu8, labL_mapu8, renL_mapu32, labL_mapu32]) (by simp [labO, renO, lab, labL, ren, renL, look_cons, renL_bys, labL_bys, renL_mapu8, labL_mapu8, renL_mapu32, labL_mapu32]))
      · by_cases e : p = i - 1
        · subst e
          rw [show i - 1 + 1 = i by omega]
          unfold cmpK
          omega
        · exact hu p (by omega) hp2
      · simp [slotN, st14, look_cons]; omega
  · repeat (first | simp only [go_sem, Nat.reduceLT, Nat.reduceEqDiff, reduceIte, Int.reduceEq, Int.reduceLE, Int.reduceLT, Nat.reduceMul, Nat.reduceAdd, Nat.reduceSub, Int.reduceNeg, Int.reduceAdd, Int.reduceMul, Int.reduceSub, Int.reduceToNat, Nat.reduceLeDiff, Nat.reduceDiv, Int.reduceDiv, reduceCtorEq, Option.some.injEq, exists_eq_left'] | refine AW.seq ?_ | refine AW.block ?_ | refine AW.scope ?_ | refine AW.cond_tt rfl ?_ | refine AW.cond_ff rfl ?_ | refine AW.label ?_ | refine AW.skip ?_ | refine AW.ret ?_ | refine AW.exit ?_ | refine AW.region ?_ | refine AW.draw (by kernel_rfl) (by decide +kernel) ?_ | refine AW.drawN (by kernel_rfl) (by decide +kernel) ?_ | ((with_reducible refine And.intro ?_ ?_); (focus ((repeat' (with_reducible apply And.intro)) <;> first | (with_reducible exact OrdAt.of (by kernel_rfl)) | (with_reducible exact OrdT.of (by kernel_rfl)) | exact True.intro | (with_reducible assumption) | omega | rfl | exact Nat.le_of_ble_eq_true rfl | exact Or.inl trivial | (unfold inI; omega)))))
    have : upTo d d.length := fun p hp hp2 => hu p (by omega) hp2
    simp [chk, this]
    omega
end Go.Proofs.YtpknjecfloglgaaDoor

namespace Go.Proofs.YtpknjecfloglgaaDoor
open Go Go.Eng Go.Proofs
set_option maxRecDepth 100000
set_option maxHeartbeats 1000000
set_option linter.unusedSimpArgs false
set_option linter.unusedVariables false
def st15 (d : List Lf) (i : Nat) : S := ⟨[(3, int i), (2, boo false), (0, lsl d)], 26, [], 0, []⟩
theorem f15 (d : List Lf) (hd : all64 d) (hn : d.length ≤ 1000) : AFun Tryd.prog 15 [lsl d] (boo (chk d)) := by
  refine AFun.enter Tryd.func15 rfl Tryd.call15 (by simp [Tryd.ntmps15]) fun γ1 => ?_
  simp only [frameOf, Tryd.ntmps15]
  repeat (first | simp only [go_sem, Nat.reduceLT, Nat.reduceEqDiff, reduceIte, Int.reduceEq, Int.reduceLE, Int.reduceLT, Nat.reduceMul, Nat.reduceAdd, Nat.reduceSub, Int.reduceNeg, Int.reduceAdd, Int.reduceMul, Int.reduceSub, Int.reduceToNat, Nat.reduceLeDiff, Nat.reduceDiv, Int.reduceDiv, reduceCtorEq, Option.some.injEq, exists_eq_left'] | refine AW.seq ?_ | refine AW.block ?_ | refine AW.scope ?_ | refine AW.cond_tt rfl ?_ | refine AW.cond_ff rfl ?_ | refine AW.label ?_ | refine AW.skip ?_ | refine AW.ret ?_ | refine AW.exit ?_ | refine AW.region ?_ | refine AW.draw (by kernel_rfl) (by decide +kernel) ?_ | refine AW.drawN (by kernel_rfl) (by decide +kernel) ?_ | ((with_reducible refine And.intro ?_ ?_); (focus ((repeat' (with_reducible apply And.intro)) <;> first | (with_reducible exact OrdAt.of (by kernel_rfl)) | (with_reducible exact OrdT.of (by kernel_rfl)) | exact True.intro | (with_reducible assumption) | omega | rfl | exact Nat.le_of_ble_eq_true rfl | exact Or.inl trivial | (unfold inI; omega)))))
  refine AW.loop (fun s => ∃ i : Nat, 1 ≤ i ∧ upTo d (i - 1) ∧ s = st15 d i) (fun s => (d.length - slotN s 3).toNat) (s0 := st15 d 1) ?_ ⟨1, by omega, fun p hp => by omega, rfl⟩ ?_
  · simp only [st15]; exact (Sub.same (by first | exact Nat.zero_le _ | exact Nat.le_refl _ | decide | omega) rfl rfl (by simp) (by simp [lab, labL, ren, renL, look_cons, renL_bys, labL_bys, renL_mapu8, labL_mapu8, renL_mapu32, labL_mapu32]) (by simp [labO, renO, lab, labL, ren, renL, look_cons, renL_bys, labL_bys, renL_mapu8, labL_mapu8, renL_mapu32, labL_mapu32]))
  rintro s ⟨i, hi, hu, rfl⟩
  simp only [st15]
  repeat (first | simp only [go_sem, Nat.reduceLT, Nat.reduceEqDiff, reduceIte, Int.reduceEq, Int.reduceLE, Int.reduceLT, Nat.reduceMul, Nat.reduceAdd, Nat.reduceSub, Int.reduceNeg, Int.reduceAdd, Int.reduceMul, Int.reduceSub, Int.reduceToNat, Nat.reduceLeDiff, Nat.reduceDiv, Int.reduceDiv, reduceCtorEq, Option.some.injEq, exists_eq_left'] | refine AW.seq ?_ | refine AW.block ?_ | refine AW.scope ?_ | refine AW.cond_tt rfl ?_ | refine AW.cond_ff rfl ?_ | refine AW.label ?_ | refine AW.skip ?_ | refine AW.ret ?_ | refine AW.exit ?_ | refine AW.region ?_ | refine AW.draw (by kernel_rfl) (by decide +kernel) ?_ | refine AW.drawN (by kernel_rfl) (by decide +kernel) ?_ | ((with_reducible refine And.intro ?_ ?_); (focus ((repeat' (with_reducible apply And.intro)) <;> first | (with_reducible exact OrdAt.of (by kernel_rfl)) | (with_reducible exact OrdT.of (by kernel_rfl)) | exact True.intro | (with_reducible assumption) | omega | rfl | exact Nat.le_of_ble_eq_true rfl | exact Or.inl trivial | (unfold inI; omega)))))
  refine AW.cond_dec rfl (fun h2 => ?_) (fun h2 => ?_)
  · have hlt : i < d.length := by omega
    have hlt' : i - 1 < d.length := by omega
    have ek := el_k hd hlt
    have ek' := el_k hd hlt'
    have hfl := flat_len hd
    have ei : ((i : Int) - 1) = ((i - 1 : Nat) : Int) := by omega
    have h64 : 32 ≤ d.length * 64 - i * 64 := by omega
    have h64' : 32 ≤ d.length * 64 - (i - 1) * 64 := by omega
    repeat (first | simp only [go_sem, Nat.reduceLT, Nat.reduceEqDiff, reduceIte, Int.reduceEq, Int.reduceLE, Int.reduceLT, Nat.reduceMul, Nat.reduceAdd, Nat.reduceSub, Int.reduceNeg, Int.reduceAdd, Int.reduceMul, Int.reduceSub, Int.reduceToNat, Nat.reduceLeDiff, Nat.reduceDiv, Int.reduceDiv, reduceCtorEq, Option.some.injEq, exists_eq_left', List.length_map, List.length_set, List.length_replicate, List.length_drop, List.length_take, List.length_append, List.drop_zero, List.take_of_length_le, Nat.le_refl, Nat.sub_zero, splice_all, row_u8, splice_u8, wrap_u64c, ek, ek', hfl, h64, h64', ei] | refine AW.seq ?_ | refine AW.block ?_ | refine AW.scope ?_ | refine AW.cond_tt rfl ?_ | refine AW.cond_ff rfl ?_ | refine AW.label ?_ | refine AW.skip ?_ | refine AW.ret ?_ | refine AW.exit ?_ | refine AW.region ?_ | refine AW.draw (by kernel_rfl) (by decide +kernel) ?_ | refine AW.drawN (by kernel_rfl) (by decide +kernel) ?_ | ((with_reducible refine And.intro ?_ ?_); (focus ((repeat' (with_reducible apply And.intro)) <;> first | (with_reducible exact OrdAt.of (by kernel_rfl)) | (with_reducible exact OrdT.of (by kernel_rfl)) | exact True.intro | (with_reducible assumption) | omega | rfl | exact Nat.le_of_ble_eq_true rfl | exact Or.inl trivial | (unfold inI; omega)))))
    (first | refine CallE.flat (f34 (key (d.getD (i - 1) [])) (key (d.getD i [])) (key_len hd hlt') (key_len hd hlt)) (by first | rfl | (simp only [List.map_cons, List.map_nil, frz_sl, frz_agg8, frz_agb, frz_agg32, frz_vv, frz_hv]; done) | (simp only [List.map_cons, List.map_nil, frz_sl, frz_agg8, frz_agb, frz_agg32, frz_vv, frz_hv]; rfl)) (by rfl) (by rfl) ?_ | refine CallXE.flat (f34 (key (d.getD (i - 1) [])) (key (d.getD i [])) (key_len hd hlt') (key_len hd hlt)) (by first | rfl | (simp only [List.map_cons, List.map_nil, frz_sl, frz_agg8, frz_agb, frz_agg32, frz_vv, frz_hv]; done) | (simp only [List.map_cons, List.map_nil, frz_sl, frz_agg8, frz_agb, frz_agg32, frz_vv, frz_hv]; rfl)) (by rfl) (by rfl) ?_)
    repeat (first | simp only [go_sem, Nat.reduceLT, Nat.reduceEqDiff, reduceIte, Int.reduceEq, Int.reduceLE, Int.reduceLT, Nat.reduceMul, Nat.reduceAdd, Nat.reduceSub, Int.reduceNeg, Int.reduceAdd, Int.reduceMul, Int.reduceSub, Int.reduceToNat, Nat.reduceLeDiff, Nat.reduceDiv, Int.reduceDiv, reduceCtorEq, Option.some.injEq, exists_eq_left'] | refine AW.seq ?_ | refine AW.block ?_ | refine AW.scope ?_ | refine AW.cond_tt rfl ?_ | refine AW.cond_ff rfl ?_ | refine AW.label ?_ | refine AW.skip ?_ | refine AW.ret ?_ | refine AW.exit ?_ | refine AW.region ?_ | refine AW.draw (by kernel_rfl) (by decide +kernel) ?_ | refine AW.drawN (by kernel_rfl) (by decide +kernel) ?_ | ((with_reducible refine And.intro ?_ ?_); (focus ((repeat' (with_reducible apply And.intro)) <;> first | (with_reducible exact OrdAt.of (by kernel_rfl)) | (with_reducible exact OrdT.of (by kernel_rfl)) | exact True.intro | (with_reducible assumption) | omega | rfl | exact Nat.le_of_ble_eq_true rfl | exact Or.inl trivial | (unfold inI; omega)))))
    refine AW.cond_dec rfl (fun h3 => ?_) (fun h3 => ?_)
    · repeat (first | simp only [go_sem, Nat.reduceLT, Nat.reduceEqDiff, reduceIte, Int.reduceEq, Int.reduceLE, Int.reduceLT, Nat.reduceMul, Nat.reduceAdd, Nat.reduceSub, Int.reduceNeg, Int.reduceAdd, Int.reduceMul, Int.reduceSub, Int.reduceToNat, Nat.reduceLeDiff, Nat.reduceDiv, Int.reduceDiv, reduceCtorEq, Option.some.injEq, exists_eq_left'] | refine AW.seq ?_ | refine AW.block ?_ | refine AW.scope ?_ | refine AW.cond_tt rfl ?_ | refine AW.cond_ff rfl ?_ | refine AW.label ?_ | refine AW.skip ?_ | refine AW.ret ?_ | refine AW.exit ?_ | refine AW.region ?_ | refine AW.draw (by kernel_rfl) (by decide +kernel) ?_ | refine AW.drawN (by kernel_rfl) (by decide +kernel) ?_ | ((with_reducible refine And.intro ?_ ?_); (focus ((repeat' (with_reducible apply And.intro)) <;> first | (with_reducible exact OrdAt.of (by kernel_rfl)) | (with_reducible exact OrdT.of (by kernel_rfl)) | exact True.intro | (with_reducible assumption) | omega | rfl | exact Nat.le_of_ble_eq_true rfl | exact Or.inl trivial | (unfold inI; omega)))))
      have : ¬ upTo d d.length := by
        intro h
        have := h (i - 1) hlt' (by omega)
        rw [show i - 1 + 1 = i by omega] at this
        unfold cmpK at this
        omega
      simp [chk, this]
    · repeat (first | simp only [go_sem, Nat.reduceLT, Nat.reduceEqDiff, reduceIte, Int.reduceEq, Int.reduceLE, Int.reduceLT, Nat.reduceMul, Nat.reduceAdd, Nat.reduceSub, Int.reduceNeg, Int.reduceAdd, Int.reduceMul, Int.reduceSub, Int.reduceToNat, Nat.reduceLeDiff, Nat.reduceDiv, Int.reduceDiv, reduceCtorEq, Option.some.injEq, exists_eq_left'] | refine AW.seq ?_ | refine AW.block ?_ | refine AW.scope ?_ | refine AW.cond_tt rfl ?_ | refine AW.cond_ff rfl ?_ | refine AW.label ?_ | refine AW.skip ?_ | refine AW.ret ?_ | refine AW.exit ?_ | refine AW.region ?_ | refine AW.draw (by kernel_rfl) (by decide +kernel) ?_ | refine AW.drawN (by kernel_rfl) (by decide +kernel) ?_ | ((with_reducible refine And.intro ?_ ?_); (focus ((repeat' (with_reducible apply And.intro)) <;> first | (with_reducible exact OrdAt.of (by kernel_rfl)) | (with_reducible exact OrdT.of (by kernel_rfl)) | exact True.intro | (with_reducible assumption) | omega | rfl | exact Nat.le_of_ble_eq_true rfl | exact Or.inl trivial | (unfold inI; omega)))))
      rw [Qof_lp]
      refine ⟨st15 d (i + 1), ?_, ⟨i + 1, by omega, fun p hp hp2 => ?_, rfl⟩, ?_⟩
      · simp only [st15]; exact (Sub.same (by first | exact Nat.zero_le _ | exact Nat.le_refl _ | decide | omega) rfl rfl (by simp) (by simp [lab, labL, ren, renL, look_cons, renL_bys, labL_bys, renL_mapu8, labL_mapu8, renL_mapu32, labL_mapu32]) (by simp [labO, renO, lab, labL, ren, renL, look_cons, renL_bys, labL_bys, renL_mapu8, labL_mapu8, renL_mapu32, labL_mapu32]))
      · by_cases e : p = i - 1
        · subst e
          rw [show i - 1 + 1 = i by omega]
          unfold cmpK
          omega
        · exact hu p (by omega) hp2
      · simp [slotN, st15, look_cons]; omega
  · repeat (first | simp only [go_sem, Nat.reduceLT, Nat.reduceEqDiff, reduceIte, Int.reduceEq, Int.reduceLE, Int.reduceLT, Nat.reduceMul, Nat.reduceAdd, Nat.reduceSub, Int.reduceNeg, Int.reduceAdd, Int.reduceMul, Int.reduceSub, Int.reduceToNat, Nat.reduceLeDiff, Nat.reduceDiv, Int.reduceDiv, reduceCtorEq, Option.some.injEq, exists_eq_left'] | refine AW.seq ?_ | refine AW.block ?_ | refine AW.scope ?_ | refine AW.cond_tt rfl ?_ | refine AW.cond_ff rfl ?_ | refine AW.label ?_ | refine AW.skip ?_ | refine AW.ret ?_ | refine AW.exit ?_ | refine AW.region ?_ | refine AW.draw (by kernel_rfl) (by decide +kernel) ?_ | refine AW.drawN (by kernel_rfl) (by decide +kernel) ?_ | ((with_reducible refine And.intro ?_ ?_); (focus ((repeat' (with_reducible apply And.intro)) <;> first | (with_reducible exact OrdAt.of (by kernel_rfl)) | (with_reducible exact OrdT.of (by kernel_rfl)) | exact True.intro | (with_reducible assumption) | omega | rfl | exact Nat.le_of_ble_eq_true rfl | exact Or.inl trivial | (unfold inI; omega)))))
    have : upTo d d.length := fun p hp hp2 => hu p (by omega) hp2
    simp [chk, this]
    omega

def findO (d : List Lf) (k : List UInt8) : Option Lf := d.find? fun x => decide (key x = k)
def findV (d : List Lf) (k : List UInt8) : List UInt8 := match findO d k with
  | some x => vl x
  | none => List.replicate 32 0
def findB (d : List Lf) (k : List UInt8) : Bool := (findO d k).isSome
theorem find_at {d : List Lf} {k : List UInt8} : ∀ {i : Nat}, i < d.length → (∀ p, p < i → key (d.getD p []) ≠ k) → key (d.getD i []) = k → findO d k = some (d.getD i []) := by
  induction d with
  | nil => intro i h; simp at h
  | cons x d ih =>
    intro i h h1 h2
    cases i with
    | zero => simp only [findO, List.find?_cons, List.getD_cons_zero] at h2 ⊢; simp [h2]
    | succ i =>
      have h0 := h1 0 (by omega)
      simp only [List.getD_cons_zero] at h0
      simp only [findO, List.find?_cons, h0, decide_false]
      exact ih (i := i) (by simpa using h) (fun p hp => by simpa using h1 (p + 1) (by omega)) (by simpa using h2)
theorem find_none {d : List Lf} {k : List UInt8} (h1 : ∀ p, p < d.length → key (d.getD p []) ≠ k) : findO d k = none := by
  rw [findO, List.find?_eq_none]
  intro x hx
  obtain ⟨i, hi, rfl⟩ := List.getElem_of_mem hx
  have := h1 i hi
  simpa [List.getD_eq_getElem?_getD, hi] using this
theorem z32_map : List.replicate 32 (u8 0) = (List.replicate 32 (0 : UInt8)).map u8 := by rw [List.map_replicate]
abbrev z32 : List UInt8 := List.replicate 32 0
theorem spl32 {a b : List UInt8} (ha : a.length = 32) (hb : b.length = 32) : splice (b.map u8) 0 (a.map u8) = a.map u8 := splice_all (by simp [ha, hb])
theorem dt32 {a : List UInt8} (ha : a.length = 32) : List.map dt (List.take 32 (a.map u8)) = a.map u8 := by
  rw [List.take_of_length_le (by simp [ha]), List.map_map]; rfl
def ts11 (d : List Lf) (k : List UInt8) (i : Nat) : S := ⟨[(10, int i), (9, int d.length), (8, lsl d), (5, boo false), (4, .loc 1 0), (3, .loc 0 0), (0, lsl d)], 22, [(1, .box (z32.map u8)), (0, .box (k.map u8))], 2, []⟩
theorem f11 (d : List Lf) (hd : all64 d) (hn : d.length ≤ 1000) (k : List UInt8) (hk : k.length = 32) : AFun Tryd.prog 11 [lsl d, .agg (k.map u8)] (.tup [.agg ((findV d k).map u8), boo (findB d k)]) := by
  refine AFun.enter Tryd.func11 rfl Tryd.call11 (by simp [Tryd.ntmps11]) fun γ1 => ?_
  simp only [frameOf, Tryd.ntmps11]
  repeat (first | simp only [go_sem, Nat.reduceLT, Nat.reduceEqDiff, reduceIte, Int.reduceEq, Int.reduceLE, Int.reduceLT, Nat.reduceMul, Nat.reduceAdd, Nat.reduceSub, Int.reduceNeg, Int.reduceAdd, Int.reduceMul, Int.reduceSub, Int.reduceToNat, Nat.reduceLeDiff, Nat.reduceDiv, Int.reduceDiv, reduceCtorEq, Option.some.injEq, exists_eq_left', z32_map] | refine AW.seq ?_ | refine AW.block ?_ | refine AW.scope ?_ | refine AW.cond_tt rfl ?_ | refine AW.cond_ff rfl ?_ | refine AW.label ?_ | refine AW.skip ?_ | refine AW.ret ?_ | refine AW.exit ?_ | refine AW.region ?_ | refine AW.draw (by kernel_rfl) (by decide +kernel) ?_ | refine AW.drawN (by kernel_rfl) (by decide +kernel) ?_ | ((with_reducible refine And.intro ?_ ?_); (focus ((repeat' (with_reducible apply And.intro)) <;> first | (with_reducible exact OrdAt.of (by kernel_rfl)) | (with_reducible exact OrdT.of (by kernel_rfl)) | exact True.intro | (with_reducible assumption) | omega | rfl | exact Nat.le_of_ble_eq_true rfl | exact Or.inl trivial | (unfold inI; omega)))))
  refine AW.loop (fun s => ∃ i : Nat, i ≤ d.length ∧ (∀ p, p < i → key (d.getD p []) ≠ k) ∧ s = ts11 d k i) (fun s => (d.length - slotN s 10).toNat) (s0 := ts11 d k 0) ?_ ⟨0, by omega, by omega, rfl⟩ ?_
  · simp only [ts11]; exact (Sub.same (by first | exact Nat.zero_le _ | exact Nat.le_refl _ | decide | omega) rfl rfl (by simp) (by simp [lab, labL, ren, renL, look_cons, renL_bys, labL_bys, renL_mapu8, labL_mapu8, renL_mapu32, labL_mapu32]) (by simp [labO, renO, lab, labL, ren, renL, look_cons, renL_bys, labL_bys, renL_mapu8, labL_mapu8, renL_mapu32, labL_mapu32]))
  rintro s ⟨i, hi, hu, rfl⟩
  simp only [ts11]
  repeat (first | simp only [go_sem, Nat.reduceLT, Nat.reduceEqDiff, reduceIte, Int.reduceEq, Int.reduceLE, Int.reduceLT, Nat.reduceMul, Nat.reduceAdd, Nat.reduceSub, Int.reduceNeg, Int.reduceAdd, Int.reduceMul, Int.reduceSub, Int.reduceToNat, Nat.reduceLeDiff, Nat.reduceDiv, Int.reduceDiv, reduceCtorEq, Option.some.injEq, exists_eq_left', z32_map] | refine AW.seq ?_ | refine AW.block ?_ | refine AW.scope ?_ | refine AW.cond_tt rfl ?_ | refine AW.cond_ff rfl ?_ | refine AW.label ?_ | refine AW.skip ?_ | refine AW.ret ?_ | refine AW.exit ?_ | refine AW.region ?_ | refine AW.draw (by kernel_rfl) (by decide +kernel) ?_ | refine AW.drawN (by kernel_rfl) (by decide +kernel) ?_ | ((with_reducible refine And.intro ?_ ?_); (focus ((repeat' (with_reducible apply And.intro)) <;> first | (with_reducible exact OrdAt.of (by kernel_rfl)) | (with_reducible exact OrdT.of (by kernel_rfl)) | exact True.intro | (with_reducible assumption) | omega | rfl | exact Nat.le_of_ble_eq_true rfl | exact Or.inl trivial | (unfold inI; omega)))))
  refine AW.cond_dec rfl (fun h2 => ?_) (fun h2 => ?_)
  · have hlt : i < d.length := by omega
    have el := el_f hd hlt
    have hx := getD_64 hd hlt
    have hfl := flat_len hd
    have h64 : 64 ≤ d.length * 64 - i * 64 := by omega
    have e1 : List.take 32 ((d.getD i []).map u8) = (key (d.getD i [])).map u8 := by simp
    repeat (first | simp only [go_sem, Nat.reduceLT, Nat.reduceEqDiff, reduceIte, Int.reduceEq, Int.reduceLE, Int.reduceLT, Nat.reduceMul, Nat.reduceAdd, Nat.reduceSub, Int.reduceNeg, Int.reduceAdd, Int.reduceMul, Int.reduceSub, Int.reduceToNat, Nat.reduceLeDiff, Nat.reduceDiv, Int.reduceDiv, reduceCtorEq, Option.some.injEq, exists_eq_left', List.length_map, List.length_set, List.length_replicate, List.length_drop, List.length_take, List.length_append, List.drop_zero, List.take_of_length_le, Nat.le_refl, Nat.sub_zero, splice_all, row_u8, splice_u8, wrap_u64c, el, hfl, h64, hx, hk, e1] | refine AW.seq ?_ | refine AW.block ?_ | refine AW.scope ?_ | refine AW.cond_tt rfl ?_ | refine AW.cond_ff rfl ?_ | refine AW.label ?_ | refine AW.skip ?_ | refine AW.ret ?_ | refine AW.exit ?_ | refine AW.region ?_ | refine AW.draw (by kernel_rfl) (by decide +kernel) ?_ | refine AW.drawN (by kernel_rfl) (by decide +kernel) ?_ | ((with_reducible refine And.intro ?_ ?_); (focus ((repeat' (with_reducible apply And.intro)) <;> first | (with_reducible exact OrdAt.of (by kernel_rfl)) | (with_reducible exact OrdT.of (by kernel_rfl)) | exact True.intro | (with_reducible assumption) | omega | rfl | exact Nat.le_of_ble_eq_true rfl | exact Or.inl trivial | (unfold inI; omega)))))
    refine AW.cond_dec rfl (fun h3 => ?_) (fun h3 => ?_)
    · have hf := find_at hlt hu h3
      have e2 : List.take 32 (List.drop 32 ((d.getD i []).map u8)) = (vl (d.getD i [])).map u8 := by
        rw [← List.map_drop, List.take_of_length_le (by rw [List.length_map, List.length_drop, hx]; decide)]
      have hv := vl_len hd hlt
      repeat (first | simp only [go_sem, Nat.reduceLT, Nat.reduceEqDiff, reduceIte, Int.reduceEq, Int.reduceLE, Int.reduceLT, Nat.reduceMul, Nat.reduceAdd, Nat.reduceSub, Int.reduceNeg, Int.reduceAdd, Int.reduceMul, Int.reduceSub, Int.reduceToNat, Nat.reduceLeDiff, Nat.reduceDiv, Int.reduceDiv, reduceCtorEq, Option.some.injEq, exists_eq_left', List.length_map, List.length_set, List.length_replicate, List.length_drop, List.length_take, List.length_append, List.drop_zero, List.take_of_length_le, Nat.le_refl, Nat.sub_zero, splice_all, row_u8, splice_u8, wrap_u64c, e2, hx, spl32 (b := z32) hv rfl, dt32 hv] | refine AW.seq ?_ | refine AW.block ?_ | refine AW.scope ?_ | refine AW.cond_tt rfl ?_ | refine AW.cond_ff rfl ?_ | refine AW.label ?_ | refine AW.skip ?_ | refine AW.ret ?_ | refine AW.exit ?_ | refine AW.region ?_ | refine AW.draw (by kernel_rfl) (by decide +kernel) ?_ | refine AW.drawN (by kernel_rfl) (by decide +kernel) ?_ | ((with_reducible refine And.intro ?_ ?_); (focus ((repeat' (with_reducible apply And.intro)) <;> first | (with_reducible exact OrdAt.of (by kernel_rfl)) | (with_reducible exact OrdT.of (by kernel_rfl)) | exact True.intro | (with_reducible assumption) | omega | rfl | exact Nat.le_of_ble_eq_true rfl | exact Or.inl trivial | (unfold inI; omega)))))
      simp [findV, findB, hf]
      rfl
    · repeat (first | simp only [go_sem, Nat.reduceLT, Nat.reduceEqDiff, reduceIte, Int.reduceEq, Int.reduceLE, Int.reduceLT, Nat.reduceMul, Nat.reduceAdd, Nat.reduceSub, Int.reduceNeg, Int.reduceAdd, Int.reduceMul, Int.reduceSub, Int.reduceToNat, Nat.reduceLeDiff, Nat.reduceDiv, Int.reduceDiv, reduceCtorEq, Option.some.injEq, exists_eq_left'] | refine AW.seq ?_ | refine AW.block ?_ | refine AW.scope ?_ | refine AW.cond_tt rfl ?_ | refine AW.cond_ff rfl ?_ | refine AW.label ?_ | refine AW.skip ?_ | refine AW.ret ?_ | refine AW.exit ?_ | refine AW.region ?_ | refine AW.draw (by kernel_rfl) (by decide +kernel) ?_ | refine AW.drawN (by kernel_rfl) (by decide +kernel) ?_ | ((with_reducible refine And.intro ?_ ?_); (focus ((repeat' (with_reducible apply And.intro)) <;> first | (with_reducible exact OrdAt.of (by kernel_rfl)) | (with_reducible exact OrdT.of (by kernel_rfl)) | exact True.intro | (with_reducible assumption) | omega | rfl | exact Nat.le_of_ble_eq_true rfl | exact Or.inl trivial | (unfold inI; omega)))))
      rw [Qof_lp]
      refine ⟨ts11 d k (i + 1), ?_, ⟨i + 1, by omega, fun p hp => ?_, rfl⟩, ?_⟩
      · simp only [ts11]; exact (Sub.same (by first | exact Nat.zero_le _ | exact Nat.le_refl _ | decide | omega) rfl rfl (by simp) (by simp [lab, labL, ren, renL, look_cons, renL_bys, labL_bys, renL_mapu8, labL_mapu8, renL_mapu32, labL_mapu32]) (by simp [labO, renO, lab, labL, ren, renL, look_cons, renL_bys, labL_bys, renL_mapu8, labL_mapu8, renL_mapu32, labL_mapu32]))
      · by_cases e : p = i
        · subst e; exact h3
        · exact hu p (by omega)
      · simp [slotN, ts11, look_cons]; omega
  · have hf : findO d k = none := find_none fun p hp => hu p (by omega)
    repeat (first | simp only [go_sem, Nat.reduceLT, Nat.reduceEqDiff, reduceIte, Int.reduceEq, Int.reduceLE, Int.reduceLT, Nat.reduceMul, Nat.reduceAdd, Nat.reduceSub, Int.reduceNeg, Int.reduceAdd, Int.reduceMul, Int.reduceSub, Int.reduceToNat, Nat.reduceLeDiff, Nat.reduceDiv, Int.reduceDiv, reduceCtorEq, Option.some.injEq, exists_eq_left', z32_map, spl32 (a := z32) (b := z32) rfl rfl, dt32 (a := z32) rfl] | refine AW.seq ?_ | refine AW.block ?_ | refine AW.scope ?_ | refine AW.cond_tt rfl ?_ | refine AW.cond_ff rfl ?_ | refine AW.label ?_ | refine AW.skip ?_ | refine AW.ret ?_ | refine AW.exit ?_ | refine AW.region ?_ | refine AW.draw (by kernel_rfl) (by decide +kernel) ?_ | refine AW.drawN (by kernel_rfl) (by decide +kernel) ?_ | ((with_reducible refine And.intro ?_ ?_); (focus ((repeat' (with_reducible apply And.intro)) <;> first | (with_reducible exact OrdAt.of (by kernel_rfl)) | (with_reducible exact OrdT.of (by kernel_rfl)) | exact True.intro | (with_reducible assumption) | omega | rfl | exact Nat.le_of_ble_eq_true rfl | exact Or.inl trivial | (unfold inI; omega)))))
    simp [findV, findB, hf, dt]
def ts12 (d : List Lf) (k : List UInt8) (i : Nat) : S := ⟨[(6, int i), (5, boo false), (4, .loc 1 0), (3, .loc 0 0), (0, lsl d)], 26, [(1, .box (z32.map u8)), (0, .box (k.map u8))], 2, []⟩
theorem f12 (d : List Lf) (hd : all64 d) (hn : d.length ≤ 1000) (k : List UInt8) (hk : k.length = 32) : AFun Tryd.prog 12 [lsl d, .agg (k.map u8)] (.tup [.agg ((findV d k).map u8), boo (findB d k)]) := by
  refine AFun.enter Tryd.func12 rfl Tryd.call12 (by simp [Tryd.ntmps12]) fun γ1 => ?_
  simp only [frameOf, Tryd.ntmps12]
  repeat (first | simp only [go_sem, Nat.reduceLT, Nat.reduceEqDiff, reduceIte, Int.reduceEq, Int.reduceLE, Int.reduceLT, Nat.reduceMul, Nat.reduceAdd, Nat.reduceSub, Int.reduceNeg, Int.reduceAdd, Int.reduceMul, Int.reduceSub, Int.reduceToNat, Nat.reduceLeDiff, Nat.reduceDiv, Int.reduceDiv, reduceCtorEq, Option.some.injEq, exists_eq_left', z32_map] | refine AW.seq ?_ | refine AW.block ?_ | refine AW.scope ?_ | refine AW.cond_tt rfl ?_ | refine AW.cond_ff rfl ?_ | refine AW.label ?_ | refine AW.skip ?_ | refine AW.ret ?_ | refine AW.exit ?_ | refine AW.region ?_ | refine AW.draw (by kernel_rfl) (by decide +kernel) ?_ | refine AW.drawN (by kernel_rfl) (by decide +kernel) ?_ | ((with_reducible refine And.intro ?_ ?_); (focus ((repeat' (with_reducible apply And.intro)) <;> first | (with_reducible exact OrdAt.of (by kernel_rfl)) | (with_reducible exact OrdT.of (by kernel_rfl)) | exact True.intro | (with_reducible assumption) | omega | rfl | exact Nat.le_of_ble_eq_true rfl | exact Or.inl trivial | (unfold inI; omega)))))
  refine AW.loop (fun s => ∃ i : Nat, i ≤ d.length ∧ (∀ p, p < i → key (d.getD p []) ≠ k) ∧ s = ts12 d k i) (fun s => (d.length - slotN s 6).toNat) (s0 := ts12 d k 0) ?_ ⟨0, by omega, by omega, rfl⟩ ?_
  · simp only [ts12]; exact (Sub.same (by first | exact Nat.zero_le _ | exact Nat.le_refl _ | decide | omega) rfl rfl (by simp) (by simp [lab, labL, ren, renL, look_cons, renL_bys, labL_bys, renL_mapu8, labL_mapu8, renL_mapu32, labL_mapu32]) (by simp [labO, renO, lab, labL, ren, renL, look_cons, renL_bys, labL_bys, renL_mapu8, labL_mapu8, renL_mapu32, labL_mapu32]))
  rintro s ⟨i, hi, hu, rfl⟩
  simp only [ts12]
  repeat (first | simp only [go_sem, Nat.reduceLT, Nat.reduceEqDiff, reduceIte, Int.reduceEq, Int.reduceLE, Int.reduceLT, Nat.reduceMul, Nat.reduceAdd, Nat.reduceSub, Int.reduceNeg, Int.reduceAdd, Int.reduceMul, Int.reduceSub, Int.reduceToNat, Nat.reduceLeDiff, Nat.reduceDiv, Int.reduceDiv, reduceCtorEq, Option.some.injEq, exists_eq_left', z32_map] | refine AW.seq ?_ | refine AW.block ?_ | refine AW.scope ?_ | refine AW.cond_tt rfl ?_ | refine AW.cond_ff rfl ?_ | refine AW.label ?_ | refine AW.skip ?_ | refine AW.ret ?_ | refine AW.exit ?_ | refine AW.region ?_ | refine AW.draw (by kernel_rfl) (by decide +kernel) ?_ | refine AW.drawN (by kernel_rfl) (by decide +kernel) ?_ | ((with_reducible refine And.intro ?_ ?_); (focus ((repeat' (with_reducible apply And.intro)) <;> first | (with_reducible exact OrdAt.of (by kernel_rfl)) | (with_reducible exact OrdT.of (by kernel_rfl)) | exact True.intro | (with_reducible assumption) | omega | rfl | exact Nat.le_of_ble_eq_true rfl | exact Or.inl trivial | (unfold inI; omega)))))
  refine AW.cond_dec rfl (fun h2 => ?_) (fun h2 => ?_)
  · have hlt : i < d.length := by omega
    have ek := el_k hd hlt
    have ev := el_v hd hlt
    have hx := getD_64 hd hlt
    have hfl := flat_len hd
    have h64 : 32 ≤ d.length * 64 - i * 64 := by omega
    have h64' : 32 ≤ d.length * 64 - (i * 64 + 32) := by omega
    have hkl := key_len hd hlt
    repeat (first | simp only [go_sem, Nat.reduceLT, Nat.reduceEqDiff, reduceIte, Int.reduceEq, Int.reduceLE, Int.reduceLT, Nat.reduceMul, Nat.reduceAdd, Nat.reduceSub, Int.reduceNeg, Int.reduceAdd, Int.reduceMul, Int.reduceSub, Int.reduceToNat, Nat.reduceLeDiff, Nat.reduceDiv, Int.reduceDiv, reduceCtorEq, Option.some.injEq, exists_eq_left', List.length_map, List.length_set, List.length_replicate, List.length_drop, List.length_take, List.length_append, List.drop_zero, List.take_of_length_le, Nat.le_refl, Nat.sub_zero, splice_all, row_u8, splice_u8, wrap_u64c, ek, hfl, h64, hkl, hk] | refine AW.seq ?_ | refine AW.block ?_ | refine AW.scope ?_ | refine AW.cond_tt rfl ?_ | refine AW.cond_ff rfl ?_ | refine AW.label ?_ | refine AW.skip ?_ | refine AW.ret ?_ | refine AW.exit ?_ | refine AW.region ?_ | refine AW.draw (by kernel_rfl) (by decide +kernel) ?_ | refine AW.drawN (by kernel_rfl) (by decide +kernel) ?_ | ((with_reducible refine And.intro ?_ ?_); (focus ((repeat' (with_reducible apply And.intro)) <;> first | (with_reducible exact OrdAt.of (by kernel_rfl)) | (with_reducible exact OrdT.of (by kernel_rfl)) | exact True.intro | (with_reducible assumption) | omega | rfl | exact Nat.le_of_ble_eq_true rfl | exact Or.inl trivial | (unfold inI; omega)))))
    refine AW.cond_dec rfl (fun h3 => ?_) (fun h3 => ?_)
    · have hf := find_at hlt hu h3
      have hv := vl_len hd hlt
      repeat (first | simp only [go_sem, Nat.reduceLT, Nat.reduceEqDiff, reduceIte, Int.reduceEq, Int.reduceLE, Int.reduceLT, Nat.reduceMul, Nat.reduceAdd, Nat.reduceSub, Int.reduceNeg, Int.reduceAdd, Int.reduceMul, Int.reduceSub, Int.reduceToNat, Nat.reduceLeDiff, Nat.reduceDiv, Int.reduceDiv, reduceCtorEq, Option.some.injEq, exists_eq_left', List.length_map, List.length_set, List.length_replicate, List.length_drop, List.length_take, List.length_append, List.drop_zero, List.take_of_length_le, Nat.le_refl, Nat.sub_zero, splice_all, row_u8, splice_u8, wrap_u64c, ev, List.drop_drop, hfl, h64', hv, spl32 (b := z32) hv rfl, dt32 hv] | refine AW.seq ?_ | refine AW.block ?_ | refine AW.scope ?_ | refine AW.cond_tt rfl ?_ | refine AW.cond_ff rfl ?_ | refine AW.label ?_ | refine AW.skip ?_ | refine AW.ret ?_ | refine AW.exit ?_ | refine AW.region ?_ | refine AW.draw (by kernel_rfl) (by decide +kernel) ?_ | refine AW.drawN (by kernel_rfl) (by decide +kernel) ?_ | ((with_reducible refine And.intro ?_ ?_); (focus ((repeat' (with_reducible apply And.intro)) <;> first | (with_reducible exact OrdAt.of (by kernel_rfl)) | (with_reducible exact OrdT.of (by kernel_rfl)) | exact True.intro | (with_reducible assumption) | omega | rfl | exact Nat.le_of_ble_eq_true rfl | exact Or.inl trivial | (unfold inI; omega)))))
      simp [findV, findB, hf]
      try rfl
    · repeat (first | simp only [go_sem, Nat.reduceLT, Nat.reduceEqDiff, reduceIte, Int.reduceEq, Int.reduceLE, Int.reduceLT, Nat.reduceMul, Nat.reduceAdd, Nat.reduceSub, Int.reduceNeg, Int.reduceAdd, Int.reduceMul, Int.reduceSub, Int.reduceToNat, Nat.reduceLeDiff, Nat.reduceDiv, Int.reduceDiv, reduceCtorEq, Option.some.injEq, exists_eq_left'] | refine AW.seq ?_ | refine AW.block ?_ | refine AW.scope ?_ | refine AW.cond_tt rfl ?_ | refine AW.cond_ff rfl ?_ | refine AW.label ?_ | refine AW.skip ?_ | refine AW.ret ?_ | refine AW.exit ?_ | refine AW.region ?_ | refine AW.draw (by kernel_rfl) (by decide +kernel) ?_ | refine AW.drawN (by kernel_rfl) (by decide +kernel) ?_ | ((with_reducible refine And.intro ?_ ?_); (focus ((repeat' (with_reducible apply And.intro)) <;> first | (with_reducible exact OrdAt.of (by kernel_rfl)) | (with_reducible exact OrdT.of (by kernel_rfl)) | exact True.intro | (with_reducible assumption) | omega | rfl | exact Nat.le_of_ble_eq_true rfl | exact Or.inl trivial | (unfold inI; omega)))))
      rw [Qof_lp]
      refine ⟨ts12 d k (i + 1), ?_, ⟨i + 1, by omega, fun p hp => ?_, rfl⟩, ?_⟩
      · simp only [ts12]; exact (Sub.same (by first | exact Nat.zero_le _ | exact Nat.le_refl _ | decide | omega) rfl rfl (by simp) (by simp [lab, labL, ren, renL, look_cons, renL_bys, labL_bys, renL_mapu8, labL_mapu8, renL_mapu32, labL_mapu32]) (by simp [labO, renO, lab, labL, ren, renL, look_cons, renL_bys, labL_bys, renL_mapu8, labL_mapu8, renL_mapu32, labL_mapu32]))
      · by_cases e : p = i
        · subst e; exact h3
        · exact hu p (by omega)
      · simp [slotN, ts12, look_cons]; omega
  · have hf : findO d k = none := find_none fun p hp => hu p (by omega)
    repeat (first | simp only [go_sem, Nat.reduceLT, Nat.reduceEqDiff, reduceIte, Int.reduceEq, Int.reduceLE, Int.reduceLT, Nat.reduceMul, Nat.reduceAdd, Nat.reduceSub, Int.reduceNeg, Int.reduceAdd, Int.reduceMul, Int.reduceSub, Int.reduceToNat, Nat.reduceLeDiff, Nat.reduceDiv, Int.reduceDiv, reduceCtorEq, Option.some.injEq, exists_eq_left', z32_map, spl32 (a := z32) (b := z32) rfl rfl, dt32 (a := z32) rfl] | refine AW.seq ?_ | refine AW.block ?_ | refine AW.scope ?_ | refine AW.cond_tt rfl ?_ | refine AW.cond_ff rfl ?_ | refine AW.label ?_ | refine AW.skip ?_ | refine AW.ret ?_ | refine AW.exit ?_ | refine AW.region ?_ | refine AW.draw (by kernel_rfl) (by decide +kernel) ?_ | refine AW.drawN (by kernel_rfl) (by decide +kernel) ?_ | ((with_reducible refine And.intro ?_ ?_); (focus ((repeat' (with_reducible apply And.intro)) <;> first | (with_reducible exact OrdAt.of (by kernel_rfl)) | (with_reducible exact OrdT.of (by kernel_rfl)) | exact True.intro | (with_reducible assumption) | omega | rfl | exact Nat.le_of_ble_eq_true rfl | exact Or.inl trivial | (unfold inI; omega)))))
    simp [findV, findB, hf, dt]
def ts13 (d e : List Lf) (i : Nat) : S := ⟨[(5, int i), (4, boo false), (0, lsl d), (1, lsl e)], 26, [], 0, []⟩
theorem f13 (d e : List Lf) (hd : all64 d) (he : all64 e) (hn : d.length ≤ 1000) : AFun Tryd.prog 13 [lsl d, lsl e] (boo (decide (d = e))) := by
  refine AFun.enter Tryd.func13 rfl Tryd.call13 (by simp [Tryd.ntmps13]) fun γ1 => ?_
  simp only [frameOf, Tryd.ntmps13]
  repeat (first | simp only [go_sem, Nat.reduceLT, Nat.reduceEqDiff, reduceIte, Int.reduceEq, Int.reduceLE, Int.reduceLT, Nat.reduceMul, Nat.reduceAdd, Nat.reduceSub, Int.reduceNeg, Int.reduceAdd, Int.reduceMul, Int.reduceSub, Int.reduceToNat, Nat.reduceLeDiff, Nat.reduceDiv, Int.reduceDiv, reduceCtorEq, Option.some.injEq, exists_eq_left'] | refine AW.seq ?_ | refine AW.block ?_ | refine AW.scope ?_ | refine AW.cond_tt rfl ?_ | refine AW.cond_ff rfl ?_ | refine AW.label ?_ | refine AW.skip ?_ | refine AW.ret ?_ | refine AW.exit ?_ | refine AW.region ?_ | refine AW.draw (by kernel_rfl) (by decide +kernel) ?_ | refine AW.drawN (by kernel_rfl) (by decide +kernel) ?_ | ((with_reducible refine And.intro ?_ ?_); (focus ((repeat' (with_reducible apply And.intro)) <;> first | (with_reducible exact OrdAt.of (by kernel_rfl)) | (with_reducible exact OrdT.of (by kernel_rfl)) | exact True.intro | (with_reducible assumption) | omega | rfl | exact Nat.le_of_ble_eq_true rfl | exact Or.inl trivial | (unfold inI; omega)))))
  refine AW.cond_dec rfl (fun h1 => ?_) (fun h1 => ?_)
  · repeat (first | simp only [go_sem, Nat.reduceLT, Nat.reduceEqDiff, reduceIte, Int.reduceEq, Int.reduceLE, Int.reduceLT, Nat.reduceMul, Nat.reduceAdd, Nat.reduceSub, Int.reduceNeg, Int.reduceAdd, Int.reduceMul, Int.reduceSub, Int.reduceToNat, Nat.reduceLeDiff, Nat.reduceDiv, Int.reduceDiv, reduceCtorEq, Option.some.injEq, exists_eq_left'] | refine AW.seq ?_ | refine AW.block ?_ | refine AW.scope ?_ | refine AW.cond_tt rfl ?_ | refine AW.cond_ff rfl ?_ | refine AW.label ?_ | refine AW.skip ?_ | refine AW.ret ?_ | refine AW.exit ?_ | refine AW.region ?_ | refine AW.draw (by kernel_rfl) (by decide +kernel) ?_ | refine AW.drawN (by kernel_rfl) (by decide +kernel) ?_ | ((with_reducible refine And.intro ?_ ?_); (focus ((repeat' (with_reducible apply And.intro)) <;> first | (with_reducible exact OrdAt.of (by kernel_rfl)) | (with_reducible exact OrdT.of (by kernel_rfl)) | exact True.intro | (with_reducible assumption) | omega | rfl | exact Nat.le_of_ble_eq_true rfl | exact Or.inl trivial | (unfold inI; omega)))))
    simp
    intro h
    subst h
    exact h1 rfl
  have hl : d.length = e.length := by omega
  repeat (first | simp only [go_sem, Nat.reduceLT, Nat.reduceEqDiff, reduceIte, Int.reduceEq, Int.reduceLE, Int.reduceLT, Nat.reduceMul, Nat.reduceAdd, Nat.reduceSub, Int.reduceNeg, Int.reduceAdd, Int.reduceMul, Int.reduceSub, Int.reduceToNat, Nat.reduceLeDiff, Nat.reduceDiv, Int.reduceDiv, reduceCtorEq, Option.some.injEq, exists_eq_left'] | refine AW.seq ?_ | refine AW.block ?_ | refine AW.scope ?_ | refine AW.cond_tt rfl ?_ | refine AW.cond_ff rfl ?_ | refine AW.label ?_ | refine AW.skip ?_ | refine AW.ret ?_ | refine AW.exit ?_ | refine AW.region ?_ | refine AW.draw (by kernel_rfl) (by decide +kernel) ?_ | refine AW.drawN (by kernel_rfl) (by decide +kernel) ?_ | ((with_reducible refine And.intro ?_ ?_); (focus ((repeat' (with_reducible apply And.intro)) <;> first | (with_reducible exact OrdAt.of (by kernel_rfl)) | (with_reducible exact OrdT.of (by kernel_rfl)) | exact True.intro | (with_reducible assumption) | omega | rfl | exact Nat.le_of_ble_eq_true rfl | exact Or.inl trivial | (unfold inI; omega)))))
  refine AW.loop (fun s => ∃ i : Nat, i ≤ d.length ∧ (∀ p, p < i → d.getD p [] = e.getD p []) ∧ s = ts13 d e i) (fun s => (d.length - slotN s 5).toNat) (s0 := ts13 d e 0) ?_ ⟨0, by omega, by omega, rfl⟩ ?_
  · simp only [ts13]; exact (Sub.same (by first | exact Nat.zero_le _ | exact Nat.le_refl _ | decide | omega) rfl rfl (by simp) (by simp [lab, labL, ren, renL, look_cons, renL_bys, labL_bys, renL_mapu8, labL_mapu8, renL_mapu32, labL_mapu32]) (by simp [labO, renO, lab, labL, ren, renL, look_cons, renL_bys, labL_bys, renL_mapu8, labL_mapu8, renL_mapu32, labL_mapu32]))
  rintro s ⟨i, hi, hu, rfl⟩
  simp only [ts13]
  repeat (first | simp only [go_sem, Nat.reduceLT, Nat.reduceEqDiff, reduceIte, Int.reduceEq, Int.reduceLE, Int.reduceLT, Nat.reduceMul, Nat.reduceAdd, Nat.reduceSub, Int.reduceNeg, Int.reduceAdd, Int.reduceMul, Int.reduceSub, Int.reduceToNat, Nat.reduceLeDiff, Nat.reduceDiv, Int.reduceDiv, reduceCtorEq, Option.some.injEq, exists_eq_left'] | refine AW.seq ?_ | refine AW.block ?_ | refine AW.scope ?_ | refine AW.cond_tt rfl ?_ | refine AW.cond_ff rfl ?_ | refine AW.label ?_ | refine AW.skip ?_ | refine AW.ret ?_ | refine AW.exit ?_ | refine AW.region ?_ | refine AW.draw (by kernel_rfl) (by decide +kernel) ?_ | refine AW.drawN (by kernel_rfl) (by decide +kernel) ?_ | ((with_reducible refine And.intro ?_ ?_); (focus ((repeat' (with_reducible apply And.intro)) <;> first | (with_reducible exact OrdAt.of (by kernel_rfl)) | (with_reducible exact OrdT.of (by kernel_rfl)) | exact True.intro | (with_reducible assumption) | omega | rfl | exact Nat.le_of_ble_eq_true rfl | exact Or.inl trivial | (unfold inI; omega)))))
  refine AW.cond_dec rfl (fun h2 => ?_) (fun h2 => ?_)
  · have hlt : i < d.length := by omega
    have hlt' : i < e.length := by omega
    have el := el_f hd hlt
    have el' := el_f he hlt'
    have hx := getD_64 hd hlt
    have hx' := getD_64 he hlt'
    have hfl := flat_len hd
    have hfl' := flat_len he
    have h64 : 64 ≤ d.length * 64 - i * 64 := by omega
    have h64' : 64 ≤ e.length * 64 - i * 64 := by omega
    repeat (first | simp only [go_sem, Nat.reduceLT, Nat.reduceEqDiff, reduceIte, Int.reduceEq, Int.reduceLE, Int.reduceLT, Nat.reduceMul, Nat.reduceAdd, Nat.reduceSub, Int.reduceNeg, Int.reduceAdd, Int.reduceMul, Int.reduceSub, Int.reduceToNat, Nat.reduceLeDiff, Nat.reduceDiv, Int.reduceDiv, reduceCtorEq, Option.some.injEq, exists_eq_left', List.length_map, List.length_set, List.length_replicate, List.length_drop, List.length_take, List.length_append, List.drop_zero, List.take_of_length_le, Nat.le_refl, Nat.sub_zero, splice_all, row_u8, splice_u8, wrap_u64c, el, el', hfl, hfl', h64, h64', hx, hx'] | refine AW.seq ?_ | refine AW.block ?_ | refine AW.scope ?_ | refine AW.cond_tt rfl ?_ | refine AW.cond_ff rfl ?_ | refine AW.label ?_ | refine AW.skip ?_ | refine AW.ret ?_ | refine AW.exit ?_ | refine AW.region ?_ | refine AW.draw (by kernel_rfl) (by decide +kernel) ?_ | refine AW.drawN (by kernel_rfl) (by decide +kernel) ?_ | ((with_reducible refine And.intro ?_ ?_); (focus ((repeat' (with_reducible apply And.intro)) <;> first | (with_reducible exact OrdAt.of (by kernel_rfl)) | (with_reducible exact OrdT.of (by kernel_rfl)) | exact True.intro | (with_reducible assumption) | omega | rfl | exact Nat.le_of_ble_eq_true rfl | exact Or.inl trivial | (unfold inI; omega)))))
    refine AW.cond_dec rfl (fun h3 => ?_) (fun h3 => ?_)
    · repeat (first | simp only [go_sem, Nat.reduceLT, Nat.reduceEqDiff, reduceIte, Int.reduceEq, Int.reduceLE, Int.reduceLT, Nat.reduceMul, Nat.reduceAdd, Nat.reduceSub, Int.reduceNeg, Int.reduceAdd, Int.reduceMul, Int.reduceSub, Int.reduceToNat, Nat.reduceLeDiff, Nat.reduceDiv, Int.reduceDiv, reduceCtorEq, Option.some.injEq, exists_eq_left'] | refine AW.seq ?_ | refine AW.block ?_ | refine AW.scope ?_ | refine AW.cond_tt rfl ?_ | refine AW.cond_ff rfl ?_ | refine AW.label ?_ | refine AW.skip ?_ | refine AW.ret ?_ | refine AW.exit ?_ | refine AW.region ?_ | refine AW.draw (by kernel_rfl) (by decide +kernel) ?_ | refine AW.drawN (by kernel_rfl) (by decide +kernel) ?_ | ((with_reducible refine And.intro ?_ ?_); (focus ((repeat' (with_reducible apply And.intro)) <;> first | (with_reducible exact OrdAt.of (by kernel_rfl)) | (with_reducible exact OrdT.of (by kernel_rfl)) | exact True.intro | (with_reducible assumption) | omega | rfl | exact Nat.le_of_ble_eq_true rfl | exact Or.inl trivial | (unfold inI; omega)))))
      simp
      rintro rfl
      exact h3 rfl
    · repeat (first | simp only [go_sem, Nat.reduceLT, Nat.reduceEqDiff, reduceIte, Int.reduceEq, Int.reduceLE, Int.reduceLT, Nat.reduceMul, Nat.reduceAdd, Nat.reduceSub, Int.reduceNeg, Int.reduceAdd, Int.reduceMul, Int.reduceSub, Int.reduceToNat, Nat.reduceLeDiff, Nat.reduceDiv, Int.reduceDiv, reduceCtorEq, Option.some.injEq, exists_eq_left'] | refine AW.seq ?_ | refine AW.block ?_ | refine AW.scope ?_ | refine AW.cond_tt rfl ?_ | refine AW.cond_ff rfl ?_ | refine AW.label ?_ | refine AW.skip ?_ | refine AW.ret ?_ | refine AW.exit ?_ | refine AW.region ?_ | refine AW.draw (by kernel_rfl) (by decide +kernel) ?_ | refine AW.drawN (by kernel_rfl) (by decide +kernel) ?_ | ((with_reducible refine And.intro ?_ ?_); (focus ((repeat' (with_reducible apply And.intro)) <;> first | (with_reducible exact OrdAt.of (by kernel_rfl)) | (with_reducible exact OrdT.of (by kernel_rfl)) | exact True.intro | (with_reducible assumption) | omega | rfl | exact Nat.le_of_ble_eq_true rfl | exact Or.inl trivial | (unfold inI; omega)))))
      rw [Qof_lp]
      refine ⟨ts13 d e (i + 1), ?_, ⟨i + 1, by omega, fun p hp => ?_, rfl⟩, ?_⟩
      · simp only [ts13]; exact (Sub.same (by first | exact Nat.zero_le _ | exact Nat.le_refl _ | decide | omega) rfl rfl (by simp) (by simp [lab, labL, ren, renL, look_cons, renL_bys, labL_bys, renL_mapu8, labL_mapu8, renL_mapu32, labL_mapu32]) (by simp [labO, renO, lab, labL, ren, renL, look_cons, renL_bys, labL_bys, renL_mapu8, labL_mapu8, renL_mapu32, labL_mapu32]))
      · by_cases e : p = i
        · subst e; exact Decidable.not_not.1 h3
        · exact hu p (by omega)
      · simp [slotN, ts13, look_cons]; omega
  · repeat (first | simp only [go_sem, Nat.reduceLT, Nat.reduceEqDiff, reduceIte, Int.reduceEq, Int.reduceLE, Int.reduceLT, Nat.reduceMul, Nat.reduceAdd, Nat.reduceSub, Int.reduceNeg, Int.reduceAdd, Int.reduceMul, Int.reduceSub, Int.reduceToNat, Nat.reduceLeDiff, Nat.reduceDiv, Int.reduceDiv, reduceCtorEq, Option.some.injEq, exists_eq_left'] | refine AW.seq ?_ | refine AW.block ?_ | refine AW.scope ?_ | refine AW.cond_tt rfl ?_ | refine AW.cond_ff rfl ?_ | refine AW.label ?_ | refine AW.skip ?_ | refine AW.ret ?_ | refine AW.exit ?_ | refine AW.region ?_ | refine AW.draw (by kernel_rfl) (by decide +kernel) ?_ | refine AW.drawN (by kernel_rfl) (by decide +kernel) ?_ | ((with_reducible refine And.intro ?_ ?_); (focus ((repeat' (with_reducible apply And.intro)) <;> first | (with_reducible exact OrdAt.of (by kernel_rfl)) | (with_reducible exact OrdT.of (by kernel_rfl)) | exact True.intro | (with_reducible assumption) | omega | rfl | exact Nat.le_of_ble_eq_true rfl | exact Or.inl trivial | (unfold inI; omega)))))
    have : d = e := by
      refine List.ext_getElem hl fun p h1 h2 => ?_
      have := hu p (by omega)
      simpa [List.getD_eq_getElem?_getD, h1, h2] using this
    simp [this]
end Go.Proofs.YtpknjecfloglgaaDoor

namespace Go.Proofs.YtpknjecfloglgaaDoor
open Go Go.Eng Go.Proofs
set_option maxRecDepth 100000
set_option linter.unusedSimpArgs false
set_option linter.unusedVariables false
theorem shr8_toNat (x : UInt8) (n : Nat) : (shr8 x n).toNat = x.toNat / 2 ^ n := by
  show (x.toBitVec >>> n).toNat = _
  rw [BitVec.toNat_ushiftRight, Nat.shiftRight_eq_div_pow]; rfl
theorem and1 : ∀ n : Nat, n < 256 → bits .and .i64 (n : Int) 1 = ((n % 2 : Nat) : Int) := by
  decide +kernel
def bitN (k : List UInt8) (i : Nat) : Nat := (k.getD (i / 8) 0).toNat / 2 ^ (7 - i % 8) % 2
theorem bitS_nat (k : List UInt8) (i : Nat) (h : i < 256) : bitS k i = (bitN k i : Nat) := by
  have e1 : ((i : Int) / 8).toNat = i / 8 := by omega
  have e2 : (7 - (i : Int) % 8).toNat = 7 - i % 8 := by omega
  rw [bitS, if_neg (by omega), e1, e2, and1 _ (UInt8.toNat_lt _), shr8_toNat]
  rfl
open Lib in
theorem cmp_anti : ∀ (a b : List UInt8), compareBytes b a = - compareBytes a b
  | [], [] => rfl
  | [], _ :: _ => rfl
  | _ :: _, [] => rfl
  | x :: a, y :: b => by
    simp only [compareBytes]
    by_cases h : x < y
    · have h2 : ¬ y < x := UInt8.lt_asymm h
      simp [h, h2]
    · by_cases h2 : y < x
      · simp [h, h2]
      · simp only [h, h2, if_false]; exact cmp_anti a b
open Lib in
theorem cmp_zero : ∀ (a b : List UInt8), compareBytes a b = 0 ↔ a = b
  | [], [] => by simp [compareBytes]
  | [], _ :: _ => by simp [compareBytes]
  | _ :: _, [] => by simp [compareBytes]
  | x :: a, y :: b => by
    simp only [compareBytes]
    by_cases h : x < y
    · have : x ≠ y := by rintro rfl; exact UInt8.lt_irrefl _ h
      simp [h, this]
    · by_cases h2 : y < x
      · have : x ≠ y := by rintro rfl; exact UInt8.lt_irrefl _ h2
        simp [h, h2, this]
      · have : x = y := UInt8.le_antisymm (UInt8.not_lt.1 h2) (UInt8.not_lt.1 h)
        subst this
        simp only [h, if_false, List.cons.injEq, true_and]
        exact cmp_zero a b
open Lib in
theorem cmp_trans : ∀ (a b c : List UInt8), compareBytes a b ≤ 0 → compareBytes b c ≤ 0 → compareBytes a c ≤ 0
  | [], _, [], _, _ => by simp [compareBytes]
  | [], _, _ :: _, _, _ => by simp [compareBytes]
  | _ :: _, [], _, h, _ => by simp [compareBytes] at h
  | _ :: _, _ :: _, [], _, h => by simp [compareBytes] at h
  | x :: a, y :: b, z :: c, h, h' => by
    simp only [compareBytes] at h h' ⊢
    by_cases h1 : x < y
    · by_cases h2 : y < z
      · simp [UInt8.lt_trans h1 h2]
      · by_cases h3 : z < y
        · simp [h2, h3] at h'
        · have : y = z := UInt8.le_antisymm (UInt8.not_lt.1 h3) (UInt8.not_lt.1 h2)
          subst this; simp [h1]
    · by_cases h2 : y < x
      · simp [h1, h2] at h
      · have : x = y := UInt8.le_antisymm (UInt8.not_lt.1 h2) (UInt8.not_lt.1 h1)
        subst this
        by_cases h3 : x < z
        · simp [h3]
        · by_cases h4 : z < x
          · simp [h3, h4] at h'
          · simp only [h3, h4, h1, if_false] at h h' ⊢
            exact cmp_trans a b c h h'
theorem hi_bits {x y : Nat} (hx : x < 256) (hy : y < 256) : ∀ r, r ≤ 8 → (∀ k, k < r → x / 2 ^ (7 - k) % 2 = y / 2 ^ (7 - k) % 2) → x / 2 ^ (8 - r) = y / 2 ^ (8 - r)
  | 0, _, _ => by rw [Nat.div_eq_of_lt (by simpa using hx), Nat.div_eq_of_lt (by simpa using hy)]
  | r + 1, h, hk => by
    have ih := hi_bits hx hy r (by omega) fun k hk' => hk k (by omega)
    have e := hk r (by omega)
    have e1 : 8 - (r + 1) = 7 - r := by omega
    have e2 : 2 ^ (8 - r) = 2 ^ (7 - r) * 2 := by rw [← Nat.pow_succ]; congr 1; omega
    rw [e1]
    rw [e2, ← Nat.div_div_eq_div_mul, ← Nat.div_div_eq_div_mul] at ih
    omega
theorem bit_lt {x y : Nat} (hx : x < 256) (hy : y < 256) (r : Nat) (hr : r < 8) (hk : ∀ k, k < r → x / 2 ^ (7 - k) % 2 = y / 2 ^ (7 - k) % 2) (hd : x / 2 ^ (7 - r) % 2 ≠ y / 2 ^ (7 - r) % 2) : x ≠ y ∧ (x < y ↔ x / 2 ^ (7 - r) % 2 = 0) := by
  have e := hi_bits hx hy r (by omega) hk
  have e2 : 2 ^ (8 - r) = 2 ^ (7 - r) * 2 := by rw [← Nat.pow_succ]; congr 1; omega
  rw [e2, ← Nat.div_div_eq_div_mul, ← Nat.div_div_eq_div_mul] at e
  have h1 : x ≤ y → x / 2 ^ (7 - r) ≤ y / 2 ^ (7 - r) := fun h => Nat.div_le_div_right h
  have h2 : y ≤ x → y / 2 ^ (7 - r) ≤ x / 2 ^ (7 - r) := fun h => Nat.div_le_div_right h
  refine ⟨by rintro rfl; exact hd rfl, ?_⟩
  constructor
  · intro h; have := h1 (by omega); omega
  · intro h
    rcases Nat.lt_or_ge x y with h' | h'
    · exact h'
    · have := h2 h'; omega
open Lib in
theorem cmp_drop (a b : List UInt8) (hl : a.length = b.length) : ∀ q, q ≤ a.length → (∀ j, j < q → a.getD j 0 = b.getD j 0) → compareBytes a b = compareBytes (a.drop q) (b.drop q)
  | 0, _, _ => rfl
  | q + 1, h, hk => by
    rw [cmp_drop a b hl q (by omega) fun j hj => hk j (by omega), cmp_step a b q (by omega) (by omega)]
    have := hk q (by omega)
    simp only [this, UInt8.lt_irrefl, if_false]
theorem bytes_eq {a b : List UInt8} {q : Nat} (h : ∀ k, k < 8 → bitN a (8 * q + k) = bitN b (8 * q + k)) : a.getD q 0 = b.getD q 0 := by
  have := hi_bits (UInt8.toNat_lt (a.getD q 0)) (UInt8.toNat_lt (b.getD q 0)) 8 (Nat.le_refl _) fun k hk => by
    have := h k hk
    simp only [bitN, show (8 * q + k) / 8 = q by omega, show (8 * q + k) % 8 = k by omega] at this
    exact this
  simp only [Nat.sub_self, Nat.pow_zero, Nat.div_one] at this
  exact UInt8.toNat_inj.1 this
theorem all_bits {a b : List UInt8} (ha : a.length = 32) (hb : b.length = 32) (h : ∀ j, j < 256 → bitN a j = bitN b j) : a = b := by
  apply List.ext_getElem (by omega)
  intro q h1 h2
  have := bytes_eq (a := a) (b := b) (q := q) fun k hk => h _ (by omega)
  simpa [List.getD_eq_getElem?_getD, h1, h2] using this
theorem first_bit {a b : List UInt8} (ha : a.length = 32) (hb : b.length = 32) {j : Nat} (hj : j < 256) (h : ∀ k, k < j → bitN a k = bitN b k) (hd : bitN a j ≠ bitN b j) :
    Lib.compareBytes a b ≠ 0 ∧ (Lib.compareBytes a b < 0 ↔ bitN a j = 0) := by
  have hpre : ∀ q, q < j / 8 → a.getD q 0 = b.getD q 0 := fun q hq => bytes_eq fun k hk => h _ (by omega)
  rw [cmp_drop a b (by omega) (j / 8) (by omega) hpre, cmp_step a b (j / 8) (by omega) (by omega)]
  obtain ⟨h1, h2⟩ := bit_lt (UInt8.toNat_lt (a.getD (j / 8) 0)) (UInt8.toNat_lt (b.getD (j / 8) 0)) (j % 8) (by omega) (fun k hk => by
    have := h (8 * (j / 8) + k) (by omega)
    simp only [bitN, show (8 * (j / 8) + k) / 8 = j / 8 by omega, show (8 * (j / 8) + k) % 8 = k by omega] at this
    exact this) hd
  have e1 : (a.getD (j / 8) 0 < b.getD (j / 8) 0) ↔ ((a.getD (j / 8) 0).toNat < (b.getD (j / 8) 0).toNat) := UInt8.lt_iff_toNat_lt
  have e2 : (b.getD (j / 8) 0 < a.getD (j / 8) 0) ↔ ((b.getD (j / 8) 0).toNat < (a.getD (j / 8) 0).toNat) := UInt8.lt_iff_toNat_lt
  by_cases hlt : (a.getD (j / 8) 0).toNat < (b.getD (j / 8) 0).toNat
  · rw [if_pos (e1.2 hlt)]
    exact ⟨by decide, by constructor; · intro _; exact h2.1 hlt
                         · intro _; decide⟩
  · rw [if_neg (fun h => hlt (e1.1 h)), if_pos (e2.2 (by omega))]
    exact ⟨by decide, by constructor; · intro h; exact absurd h (by decide)
                         · intro h; exact absurd (h2.2 h) hlt⟩
theorem byte_turn : ∀ n, n < 256 → ∀ r, r < 8 → ∀ s, s < 8 → ((UInt8.ofNat n ^^^ shr8 (UInt8.ofNat 128) r).toNat / 2 ^ (7 - s) % 2 ≠ n / 2 ^ (7 - s) % 2 ↔ s = r) := by
  decide +kernel
theorem turn_bit {a : List UInt8} (ha : a.length = 32) {i k : Nat} (hi : i < 256) (hk : k < 256) : bitN (turnS a i) k ≠ bitN a k ↔ k = i := by
  have e1 : ((i : Int) / 8).toNat = i / 8 := by omega
  have e2 : ((i : Int) % 8).toNat = i % 8 := by omega
  rw [turnS, if_pos (by omega), e1, e2]
  unfold bitN
  by_cases h : k / 8 = i / 8
  · have hg : (a.set (i / 8) (a.getD (i / 8) 0 ^^^ shr8 (UInt8.ofNat 128) (i % 8))).getD (k / 8) 0 = a.getD (i / 8) 0 ^^^ shr8 (UInt8.ofNat 128) (i % 8) := by
      rw [h]; simp [List.getD_eq_getElem?_getD, show i / 8 < a.length by omega]
    have := byte_turn (a.getD (i / 8) 0).toNat (UInt8.toNat_lt _) (i % 8) (by omega) (k % 8) (by omega)
    rw [UInt8.ofNat_toNat] at this
    rw [hg, h, this]
    omega
  · have hg : (a.set (i / 8) (a.getD (i / 8) 0 ^^^ shr8 (UInt8.ofNat 128) (i % 8))).getD (k / 8) 0 = a.getD (k / 8) 0 := by
      simp [List.getD_eq_getElem?_getD, List.getElem?_set, Ne.symm h]
    rw [hg]
    constructor
    · intro h'; exact absurd rfl h'
    · rintro rfl; exact absurd rfl h
end Go.Proofs.YtpknjecfloglgaaDoor

namespace Go.Proofs.YtpknjecfloglgaaDoor
open Go Go.Eng Go.Proofs
set_option maxRecDepth 100000
set_option maxHeartbeats 1000000
set_option linter.unusedSimpArgs false
set_option linter.unusedVariables false
theorem mem_tw {α : Type} {p : α → Bool} {x : α} : ∀ {l : List α}, x ∈ l.takeWhile p → p x = true
  | [], h => by simp at h
  | y :: l, h => by
    rw [List.takeWhile_cons] at h
    split at h
    · rename_i hy
      rcases List.mem_cons.1 h with rfl | h
      · exact hy
      · exact mem_tw h
    · simp at h
theorem cmp_lt_trans {a b c : List UInt8} (h : Lib.compareBytes a b < 0) (h' : Lib.compareBytes b c < 0) : Lib.compareBytes a c < 0 := by
  have h1 := cmp_trans a b c (by omega) (by omega)
  by_cases e : Lib.compareBytes a c = 0
  · have := (cmp_zero a c).1 e
    subst this
    have := cmp_anti a b
    omega
  · omega
abbrev Srt (d : List Lf) : Prop := d.Pairwise fun x y => cmpK x (key y) < 0
theorem srt_upTo {d : List Lf} : upTo d d.length ↔ Srt d := by
  constructor
  · intro h
    have key' : ∀ n p, p + 1 + n < d.length → cmpK (d.getD p []) (key (d.getD (p + 1 + n) [])) < 0 := by
      intro n
      induction n with
      | zero => intro p hp; exact h p (by omega) hp
      | succ n ih =>
        intro p hp
        have h1 := ih p (by omega)
        have h2 := h (p + 1 + n) (by omega) (by omega)
        exact cmp_lt_trans h1 h2
    rw [Srt, List.pairwise_iff_getElem]
    intro i j hi hj hij
    have := key' (j - (i + 1)) i (by omega)
    rw [show i + 1 + (j - (i + 1)) = j by omega] at this
    simpa [List.getD_eq_getElem?_getD, hi, hj] using this
  · intro h p _ hp
    have := List.pairwise_iff_getElem.1 h p (p + 1) (by omega) hp (by omega)
    simpa [List.getD_eq_getElem?_getD, hp, show p < d.length by omega] using this
theorem chk_eq (d : List Lf) : chk d = true ↔ d.length ≤ 400 ∧ Srt d := by
  unfold chk
  rw [decide_eq_true_iff, srt_upTo]
theorem srt_get {d : List Lf} (h : Srt d) {p q : Nat} (hpq : p < q) (hq : q < d.length) : cmpK (d.getD p []) (key (d.getD q [])) < 0 := by
  have := List.pairwise_iff_getElem.1 h p q (by omega) hq hpq
  simpa [List.getD_eq_getElem?_getD, hq, show p < d.length by omega] using this
theorem srt_mono {d : List Lf} (h : Srt d) (k : List UInt8) : mono d k := by
  intro p q hpq hq hlt
  by_cases e : p = q
  · subst e; exact hlt
  · exact cmp_lt_trans (srt_get h (by omega) hq) hlt
theorem pos_le (d : List Lf) (k : List UInt8) : posOf d k ≤ d.length := List.IsPrefix.length_le (List.takeWhile_prefix _)
def insK (d : List Lf) (x : Lf) : List Lf := insAt d (posOf d (key x)) x
theorem insK_eq (d : List Lf) (x : Lf) : insK d x = (d.takeWhile fun y => decide (cmpK y (key x) < 0)) ++ x :: (d.dropWhile fun y => decide (cmpK y (key x) < 0)) := by
  unfold insK insAt posOf
  have h := List.takeWhile_append_dropWhile (p := fun y => decide (cmpK y (key x) < 0)) (l := d)
  have h1 : d.take (d.takeWhile fun y => decide (cmpK y (key x) < 0)).length = d.takeWhile fun y => decide (cmpK y (key x) < 0) := by
    conv => lhs; arg 2; rw [← h]
    exact List.take_left
  have h2 : d.drop (d.takeWhile fun y => decide (cmpK y (key x) < 0)).length = d.dropWhile fun y => decide (cmpK y (key x) < 0) := by
    conv => lhs; arg 2; rw [← h]
    exact List.drop_left
  rw [h1, h2]
theorem insK_64 {d : List Lf} (h : all64 d) {x : Lf} (hx : x.length = 64) : all64 (insK d x) := by
  intro y hy
  rcases List.mem_append.1 hy with hy | hy
  · exact h y (List.mem_of_mem_take hy)
  · rcases List.mem_cons.1 hy with rfl | hy
    · exact hx
    · exact h y (List.mem_of_mem_drop hy)
theorem insK_len (d : List Lf) (x : Lf) : (insK d x).length = d.length + 1 := insAt_len (pos_le d _) x
/-- behind the place there is nothing less -/
theorem srt_drop {d : List Lf} (h : Srt d) (k : List UInt8) : ∀ y ∈ d.dropWhile (fun y => decide (cmpK y k < 0)), ¬ cmpK y k < 0 := by
  induction d with
  | nil => intro y hy; simp at hy
  | cons x d ih =>
    rw [Srt, List.pairwise_cons] at h
    intro y hy
    rw [List.dropWhile_cons] at hy
    split at hy
    · exact ih h.2 y hy
    · rename_i hx
      have hx' : ¬ cmpK x k < 0 := by simpa using hx
      rcases List.mem_cons.1 hy with rfl | hy
      · exact hx'
      · intro hlt
        exact hx' (cmp_lt_trans (h.1 y hy) hlt)
theorem there_eq {d : List Lf} (h : Srt d) (k : List UInt8) : thereOf d k = findB d k := by
  rw [Bool.eq_iff_iff, thereOf, decide_eq_true_iff, findB, findO, List.find?_isSome]
  constructor
  · rintro ⟨h1, h2⟩
    exact ⟨_, getD_mem h1, by simpa using (cmp_zero _ _).1 h2⟩
  · rintro ⟨x, hx, hk⟩
    have hk' : key x = k := by simpa using hk
    have hx0 : cmpK x k = 0 := (cmp_zero _ _).2 hk'
    have hs := List.takeWhile_append_dropWhile (p := fun y => decide (cmpK y k < 0)) (l := d)
    have hxd : x ∈ d.dropWhile (fun y => decide (cmpK y k < 0)) := by
      rw [← hs] at hx
      rcases List.mem_append.1 hx with hx | hx
      · have := mem_tw hx
        simp [hx0] at this
      · exact hx
    have hl : posOf d k < d.length := by
      have := congrArg List.length hs
      rw [List.length_append] at this
      have := List.length_pos_of_mem hxd
      unfold posOf; omega
    refine ⟨hl, ?_⟩
    -- the first behind the place is x
    have hsd := h
    rw [← hs, Srt, List.pairwise_append] at hsd
    cases hD : d.dropWhile (fun y => decide (cmpK y k < 0)) with
    | nil => rw [hD] at hxd; simp at hxd
    | cons z r =>
      have hz : d.getD (posOf d k) [] = z := by
        have e : d = d.takeWhile (fun y => decide (cmpK y k < 0)) ++ z :: r := by rw [← hD, hs]
        unfold posOf
        rw [List.getD_eq_getElem?_getD]
        conv => lhs; arg 1; arg 1; rw [e]
        simp
      rw [hz]
      rw [hD] at hxd hsd
      rcases List.mem_cons.1 hxd with rfl | hr
      · exact hx0
      · have h1 := (List.pairwise_cons.1 hsd.2.1).1 x hr
        have h2 := srt_drop h k z (by rw [hD]; simp)
        rw [hk'] at h1
        exact absurd h1 h2
theorem insK_srt {d : List Lf} (h : Srt d) {x : Lf} (hn : findB d (key x) = false) : Srt (insK d x) := by
  have hs := List.takeWhile_append_dropWhile (p := fun y => decide (cmpK y (key x) < 0)) (l := d)
  have hsd := h
  rw [← hs, Srt, List.pairwise_append] at hsd
  rw [insK_eq, Srt, List.pairwise_append, List.pairwise_cons]
  have hnf : ∀ y ∈ d, key y ≠ key x := by
    intro y hy e
    have : findB d (key x) = true := by rw [findB, findO, List.find?_isSome]; exact ⟨y, hy, by simpa using e⟩
    rw [this] at hn; cases hn
  have hA : ∀ y ∈ d.takeWhile (fun y => decide (cmpK y (key x) < 0)), cmpK y (key x) < 0 := fun y hy => by simpa using mem_tw hy
  have hB : ∀ y ∈ d.dropWhile (fun y => decide (cmpK y (key x) < 0)), cmpK x (key y) < 0 := by
    intro y hy
    have h1 := srt_drop h _ y hy
    have h2 : y ∈ d := by rw [← hs]; exact List.mem_append_right _ hy
    have h3 : cmpK y (key x) ≠ 0 := fun e => hnf y h2 ((cmp_zero _ _).1 e)
    unfold cmpK at *
    rw [cmp_anti]
    omega
  refine ⟨hsd.1, ⟨hB, hsd.2.1⟩, fun a ha b hb => ?_⟩
  rcases List.mem_cons.1 hb with rfl | hb
  · exact hA a ha
  · exact hsd.2.2 a ha b hb
def tpG (d : List Lf) : List Lf → Except Int (List Lf)
  | [] => .ok d
  | x :: r => if findB d (key x) then .error 131 else if 400 ≤ d.length then .error 130 else tpG (insK d x) r
def tpD (l more : List Lf) : List Lf := if chk l then (match tpG l more with | .ok d => d | .error _ => l) else l
def tpE (l more : List Lf) : Int := if chk l then (match tpG l more with | .ok _ => 0 | .error e => e) else 130
end Go.Proofs.YtpknjecfloglgaaDoor

namespace Go.Proofs.YtpknjecfloglgaaDoor
open Go Go.Eng Go.Proofs
set_option maxRecDepth 100000
set_option maxHeartbeats 1000000
set_option linter.unusedSimpArgs false
set_option linter.unusedVariables false
@[simp] theorem renL_bxr (σ : Nat → Nat) (d : List Lf) (c : Nat) : renL σ (bxr d c) = bxr d c := by rw [bxr, renL_bys]
@[simp] theorem labL_bxr (n : Nat) (d : List Lf) (c : Nat) : labL n (bxr d c) = True := by rw [bxr, labL_bys]
theorem WkF.csl0 {z id off c : Nat} : WkF (.csl z id off 0 c) (.sl z [] 0 none) := fun γ v h => by
  simp only [R] at h ⊢
  obtain ⟨_, _, b, _, rfl, _, hm⟩ := h
  exact ⟨_, c, rfl, Nat.zero_le _, hm, by simp, (fun e => by cases e), .inl trivial, fun k e => by cases e⟩
theorem Sub.drop {C : Cx} {fr fr' : List (Nat × AV)} {sz nx : Nat} {hp : List (Nat × Ob)} {df : List Nat} {s0 : S} (hs : Eng.Sub C ⟨fr', sz, hp, nx, df⟩ s0) (h : ∀ p ∈ fr', Eng.look fr p.1 = some p.2) : Eng.Sub C ⟨fr, sz, hp, nx, df⟩ s0 :=
  fun γ a hl hr => hs γ a hl ⟨⟨fun t x hx => hr.fr t x (h (t, x) (look_mem hx)), hr.sz, hr.hr, hr.df, hr.bs⟩, hr.nx⟩
theorem AW.loopE {P : Program} {C : Cx} {fin : Exit → S → Prop} {k : List It} {s : S} {c : Code} (I : S → Prop) (m : S → Nat) (h : ∃ s0, Sub C s s0 ∧ I s0) (round : ∀ s, I s → AW P C c (Qof P C fin (.lp I m (m s) :: k)) s) : AW P C (.loop c) (Qof P C fin k) s := by
  obtain ⟨s0, hs, h0⟩ := h
  exact AW.loop I m hs h0 round
theorem frz_csl {d : List Lf} (hd : all64 d) {c : Nat} (hc : d.length ≤ c) (hp : List (Nat × Ob)) (id : Nat) (h : Eng.look hp id = some (.box (bxr d c))) (h0 : d ≠ []) : frz hp (.csl 64 id 0 d.length c) = lsl d := by
  have hl := bxr_len hd hc
  have hrow : rowOf hp id = bxr d c := by unfold rowOf; rw [h]
  have h1 := List.length_pos_iff.2 h0
  have h2 := take_bxr hd (Nat.le_refl d.length) c
  rw [List.take_length] at h2
  simp only [frz, hrow, List.drop_zero, h2]
  rw [if_pos (by omega)]
  have : (bys d.flatten).map dt = bys d.flatten := map_dt_u8 _
  rw [this]
theorem k30 (d : List Lf) (hd : all64 d) (hn : d.length ≤ 1000) (c : Nat) (hc : d.length ≤ c) (k : List UInt8) (hk : k.length = 32) (hm : mono d k) {hp : List (Nat × Ob)} {nx : Nat} {id : Nat} (h : Eng.look hp id = some (.box (bxr d c))) {K : AV → List (Nat × Ob) → Nat → Prop}
    (hK : K (.tup [int (posOf d k), boo (thereOf d k)]) hp nx) : CallK Tryd.prog 30 [.csl 64 id 0 d.length c, .agg (k.map u8), fn31] hp nx K := by
  by_cases h0 : d = []
  · subst h0
    refine CallK.args (as' := [lsl [], .agg (k.map u8), fn31]) (CallK.flat (f30 [] hd hn k hk hm) (by simp only [List.map_cons, List.map_nil, frz_agg8, frz_vv]; rfl) rfl hK) ?_
    exact WkFL.cons WkF.csl0 (WkFL.refl _)
  · exact CallK.flat (f30 d hd hn k hk hm) (by simp only [List.map_cons, List.map_nil, frz_csl hd hc hp id h h0, frz_agg8, frz_vv]) rfl hK
theorem k30n (k : List UInt8) (hk : k.length = 32) {hp : List (Nat × Ob)} {nx : Nat} {K : AV → List (Nat × Ob) → Nat → Prop}
    (hK : K (.tup [int 0, boo false]) hp nx) : CallK Tryd.prog 30 [nilS, .agg (k.map u8), fn31] hp nx K := by
  have hd : all64 [] := fun x hx => by simp at hx
  have e : AV.tup [int (posOf [] k), boo (thereOf [] k)] = .tup [int 0, boo false] := rfl
  refine CallK.args (as' := [lsl [], .agg (k.map u8), fn31]) (CallK.flat (f30 [] hd (by simp) k hk (fun p q _ hq => by simp at hq)) (by simp only [List.map_cons, List.map_nil, frz_agg8, frz_vv]; rfl) rfl (by rw [e]; exact hK)) ?_
  exact WkFL.cons (WkF.nil rfl rfl) (WkFL.refl _)
abbrev row9 (l more : List Lf) (m : Nat) (o : AV) : List (Nat × AV) := [(20, int m), (19, int more.length), (18, lsl more), (6, o), (5, int 0), (4, nilS), (0, lsl l), (1, lsl more)]
def ts9 (l more : List Lf) (m : Nat) (d : List Lf) (c : Nat) : S := ⟨row9 l more m (.csl 64 0 0 d.length c), 46, [(0, .box (bxr d c))], 1, []⟩
def ts9n (l more : List Lf) (m : Nat) : S := ⟨row9 l more m nilS, 46, [], 0, []⟩
theorem f9 (l more : List Lf) (hl : all64 l) (hm : all64 more) (hn : l.length ≤ 1000) (hn' : more.length ≤ 1000) : AFun Tryd.prog 9 [lsl l, lsl more] (.tup [lsl (tpD l more), int (tpE l more)]) := by
  refine AFun.enterW Tryd.func9 rfl Tryd.call9 (by simp [Tryd.ntmps9]) fun γ1 => ?_
  simp only [frameOf, Tryd.ntmps9]
  repeat (first | simp only [go_sem, Nat.reduceLT, Nat.reduceEqDiff, reduceIte, Int.reduceEq, Int.reduceLE, Int.reduceLT, Nat.reduceMul, Nat.reduceAdd, Nat.reduceSub, Int.reduceNeg, Int.reduceAdd, Int.reduceMul, Int.reduceSub, Int.reduceToNat, Nat.reduceLeDiff, Nat.reduceDiv, Int.reduceDiv, reduceCtorEq, Option.some.injEq, exists_eq_left'] | refine AW.seq ?_ | refine AW.block ?_ | refine AW.scope ?_ | refine AW.cond_tt rfl ?_ | refine AW.cond_ff rfl ?_ | refine AW.label ?_ | refine AW.skip ?_ | refine AW.ret ?_ | refine AW.exit ?_ | refine AW.regionN (by rfl) ?_ | refine AW.draw (by kernel_rfl) (by decide +kernel) ?_ | refine AW.drawN (by kernel_rfl) (by decide +kernel) ?_ | ((with_reducible refine And.intro ?_ ?_); (focus ((repeat' (with_reducible apply And.intro)) <;> first | (with_reducible exact OrdAt.of (by kernel_rfl)) | (with_reducible exact OrdT.of (by kernel_rfl)) | exact True.intro | (with_reducible assumption) | omega | rfl | exact Nat.le_of_ble_eq_true rfl | exact Or.inl trivial | (unfold inI; omega)))))
  (first | refine CallE.flat (f14 l hl hn) (by first | rfl | (simp only [List.map_cons, List.map_nil, frz_sl, frz_agg8, frz_agb, frz_agg32, frz_vv, frz_hv]; done) | (simp only [List.map_cons, List.map_nil, frz_sl, frz_agg8, frz_agb, frz_agg32, frz_vv, frz_hv]; rfl)) (by rfl) (by rfl) ?_ | refine CallXE.flat (f14 l hl hn) (by first | rfl | (simp only [List.map_cons, List.map_nil, frz_sl, frz_agg8, frz_agb, frz_agg32, frz_vv, frz_hv]; done) | (simp only [List.map_cons, List.map_nil, frz_sl, frz_agg8, frz_agb, frz_agg32, frz_vv, frz_hv]; rfl)) (by rfl) (by rfl) ?_)
  repeat (first | simp only [go_sem, Nat.reduceLT, Nat.reduceEqDiff, reduceIte, Int.reduceEq, Int.reduceLE, Int.reduceLT, Nat.reduceMul, Nat.reduceAdd, Nat.reduceSub, Int.reduceNeg, Int.reduceAdd, Int.reduceMul, Int.reduceSub, Int.reduceToNat, Nat.reduceLeDiff, Nat.reduceDiv, Int.reduceDiv, reduceCtorEq, Option.some.injEq, exists_eq_left'] | refine AW.seq ?_ | refine AW.block ?_ | refine AW.scope ?_ | refine AW.cond_tt rfl ?_ | refine AW.cond_ff rfl ?_ | refine AW.label ?_ | refine AW.skip ?_ | refine AW.ret ?_ | refine AW.exit ?_ | refine AW.regionN (by rfl) ?_ | refine AW.draw (by kernel_rfl) (by decide +kernel) ?_ | refine AW.drawN (by kernel_rfl) (by decide +kernel) ?_ | ((with_reducible refine And.intro ?_ ?_); (focus ((repeat' (with_reducible apply And.intro)) <;> first | (with_reducible exact OrdAt.of (by kernel_rfl)) | (with_reducible exact OrdT.of (by kernel_rfl)) | exact True.intro | (with_reducible assumption) | omega | rfl | exact Nat.le_of_ble_eq_true rfl | exact Or.inl trivial | (unfold inI; omega)))))
  by_cases hck : chk l = true
  · simp only [hck, Bool.not_true]
    repeat (first | simp only [go_sem, Nat.reduceLT, Nat.reduceEqDiff, reduceIte, Int.reduceEq, Int.reduceLE, Int.reduceLT, Nat.reduceMul, Nat.reduceAdd, Nat.reduceSub, Int.reduceNeg, Int.reduceAdd, Int.reduceMul, Int.reduceSub, Int.reduceToNat, Nat.reduceLeDiff, Nat.reduceDiv, Int.reduceDiv, reduceCtorEq, Option.some.injEq, exists_eq_left'] | refine AW.seq ?_ | refine AW.block ?_ | refine AW.scope ?_ | refine AW.cond_tt rfl ?_ | refine AW.cond_ff rfl ?_ | refine AW.label ?_ | refine AW.skip ?_ | refine AW.ret ?_ | refine AW.exit ?_ | refine AW.regionN (by rfl) ?_ | refine AW.draw (by kernel_rfl) (by decide +kernel) ?_ | refine AW.drawN (by kernel_rfl) (by decide +kernel) ?_ | ((with_reducible refine And.intro ?_ ?_); (focus ((repeat' (with_reducible apply And.intro)) <;> first | (with_reducible exact OrdAt.of (by kernel_rfl)) | (with_reducible exact OrdT.of (by kernel_rfl)) | exact True.intro | (with_reducible assumption) | omega | rfl | exact Nat.le_of_ble_eq_true rfl | exact Or.inl trivial | (unfold inI; omega)))))
    have hc := (chk_eq l).1 hck
    refine ⟨rfl, CallK.mono (K := fun x hp nx => ∃ s0, Sub ⟨none, γ1, 0⟩ ⟨row9 l more 0 x, 46, hp, nx, []⟩ s0 ∧ ((l = [] ∧ s0 = ts9n l more 0) ∨ ∃ c, l.length ≤ c ∧ c ≤ maxLen ∧ s0 = ts9 l more 0 l c)) ?_ ?_⟩
    · refine k29 l hl (by omega) (fun h0 => ?_) (fun h0 => ?_) (fun h0 c h1 h2 => ?_)
      · refine ⟨ts9n l more 0, ?_, .inl ⟨h0, rfl⟩⟩
        simp only [ts9n, row9]; exact (Sub.same (by first | exact Nat.zero_le _ | exact Nat.le_refl _ | decide | omega) rfl rfl (by simp) (by simp [lab, labL, ren, renL, look_cons, renL_bys, labL_bys, renL_mapu8, labL_mapu8, renL_mapu32, labL_mapu32]) (by simp [labO, renO, lab, labL, ren, renL, look_cons, renL_bys, labL_bys, renL_mapu8, labL_mapu8, renL_mapu32, labL_mapu32]))
      · refine ⟨ts9 l more 0 l 0, ?_, .inr ⟨0, by simp [h0], by simp [maxLen], rfl⟩⟩
        have e : bxr l 0 = [] := by simp [h0, bxr, bys]
        have e2 : l.length = 0 := by simp [h0]
        simp only [ts9, row9, e, e2]; exact (Sub.same (by first | exact Nat.zero_le _ | exact Nat.le_refl _ | decide | omega) rfl rfl (by simp) (by simp [lab, labL, ren, renL, look_cons, renL_bys, labL_bys, renL_mapu8, labL_mapu8, renL_mapu32, labL_mapu32]) (by simp [labO, renO, lab, labL, ren, renL, look_cons, renL_bys, labL_bys, renL_mapu8, labL_mapu8, renL_mapu32, labL_mapu32]))
      · refine ⟨ts9 l more 0 l c, ?_, .inr ⟨c, h1, h2, rfl⟩⟩
        simp only [ts9, row9]
        refine Sub.of (fun l => if l = 0 then 1 else l + 5) (fun l h => absurd h (Nat.not_lt_zero l)) (by intro l l' h h' e; dsimp only at *; split at e <;> split at e <;> omega) (Nat.zero_le _) rfl rfl (by simp) ?_ ?_
        · simp [lab, labL, ren, renL, look_cons, renL_bys, labL_bys]
        · simp [labO, renO, look_cons]
    rintro x hp nx ⟨s0, hsub, hs0⟩
    repeat (first | simp only [go_sem, Nat.reduceLT, Nat.reduceEqDiff, reduceIte, Int.reduceEq, Int.reduceLE, Int.reduceLT, Nat.reduceMul, Nat.reduceAdd, Nat.reduceSub, Int.reduceNeg, Int.reduceAdd, Int.reduceMul, Int.reduceSub, Int.reduceToNat, Nat.reduceLeDiff, Nat.reduceDiv, Int.reduceDiv, reduceCtorEq, Option.some.injEq, exists_eq_left'] | refine AW.seq ?_ | refine AW.block ?_ | refine AW.scope ?_ | refine AW.cond_tt rfl ?_ | refine AW.cond_ff rfl ?_ | refine AW.label ?_ | refine AW.skip ?_ | refine AW.ret ?_ | refine AW.exit ?_ | refine AW.regionN (by rfl) ?_ | refine AW.draw (by kernel_rfl) (by decide +kernel) ?_ | refine AW.drawN (by kernel_rfl) (by decide +kernel) ?_ | ((with_reducible refine And.intro ?_ ?_); (focus ((repeat' (with_reducible apply And.intro)) <;> first | (with_reducible exact OrdAt.of (by kernel_rfl)) | (with_reducible exact OrdT.of (by kernel_rfl)) | exact True.intro | (with_reducible assumption) | omega | rfl | exact Nat.le_of_ble_eq_true rfl | exact Or.inl trivial | (unfold inI; omega)))))
    refine AW.loopE (fun s => ∃ (m : Nat) (d : List Lf), m ≤ more.length ∧ all64 d ∧ Srt d ∧ d.length ≤ 400 ∧ tpG l more = tpG d (more.drop m) ∧ ((d = [] ∧ s = ts9n l more m) ∨ ∃ c, d.length ≤ c ∧ c ≤ maxLen ∧ s = ts9 l more m d c)) (fun s => (more.length - slotN s 20).toNat) ?_ ?_
    · refine ⟨s0, Sub.drop hsub (by simp [row9, look_cons]), ?_⟩
      rcases hs0 with ⟨h0, rfl⟩ | ⟨c, h1, h2, rfl⟩
      · exact ⟨0, [], by omega, fun x hx => by simp at hx, List.Pairwise.nil, by simp, by simp [h0], .inl ⟨rfl, rfl⟩⟩
      · exact ⟨0, l, by omega, hl, hc.2, hc.1, by simp, .inr ⟨c, h1, h2, rfl⟩⟩
    rintro s ⟨m, d, hmm, hd, hsr, hd4, hg, ⟨rfl, rfl⟩ | ⟨c, hc1, hc2, rfl⟩⟩
    · simp only [ts9n, row9]
      repeat (first | simp only [go_sem, Nat.reduceLT, Nat.reduceEqDiff, reduceIte, Int.reduceEq, Int.reduceLE, Int.reduceLT, Nat.reduceMul, Nat.reduceAdd, Nat.reduceSub, Int.reduceNeg, Int.reduceAdd, Int.reduceMul, Int.reduceSub, Int.reduceToNat, Nat.reduceLeDiff, Nat.reduceDiv, Int.reduceDiv, reduceCtorEq, Option.some.injEq, exists_eq_left'] | refine AW.seq ?_ | refine AW.block ?_ | refine AW.scope ?_ | refine AW.cond_tt rfl ?_ | refine AW.cond_ff rfl ?_ | refine AW.label ?_ | refine AW.skip ?_ | refine AW.ret ?_ | refine AW.exit ?_ | refine AW.regionN (by rfl) ?_ | refine AW.draw (by kernel_rfl) (by decide +kernel) ?_ | refine AW.drawN (by kernel_rfl) (by decide +kernel) ?_ | ((with_reducible refine And.intro ?_ ?_); (focus ((repeat' (with_reducible apply And.intro)) <;> first | (with_reducible exact OrdAt.of (by kernel_rfl)) | (with_reducible exact OrdT.of (by kernel_rfl)) | exact True.intro | (with_reducible assumption) | omega | rfl | exact Nat.le_of_ble_eq_true rfl | exact Or.inl trivial | (unfold inI; omega)))))
      refine AW.cond_dec rfl (fun h2 => ?_) (fun h2 => ?_)
      · have hlt : m < more.length := by omega
        have el := el_f hm hlt
        have hx := getD_64 hm hlt
        have hfl := flat_len hm
        have h64 : 64 ≤ more.length * 64 - m * 64 := by omega
        have hdr : more.drop m = more.getD m [] :: more.drop (m + 1) := by rw [List.drop_eq_getElem_cons hlt]; simp [List.getD_eq_getElem?_getD, hlt]
        obtain ⟨x, hxx⟩ : ∃ x, x = more.getD m [] := ⟨_, rfl⟩
        rw [← hxx] at el hx hdr
        have e1 : List.take 32 (x.map u8) = (key x).map u8 := by simp
        have hk1 : (key x).length = 32 := by simp [hx]
        repeat (first | simp only [go_sem, Nat.reduceLT, Nat.reduceEqDiff, reduceIte, Int.reduceEq, Int.reduceLE, Int.reduceLT, Nat.reduceMul, Nat.reduceAdd, Nat.reduceSub, Int.reduceNeg, Int.reduceAdd, Int.reduceMul, Int.reduceSub, Int.reduceToNat, Nat.reduceLeDiff, Nat.reduceDiv, Int.reduceDiv, reduceCtorEq, Option.some.injEq, exists_eq_left', List.length_map, List.length_set, List.length_replicate, List.length_drop, List.length_take, List.length_append, List.drop_zero, List.take_of_length_le, Nat.le_refl, Nat.sub_zero, splice_all, row_u8, splice_u8, wrap_u64c, el, hfl, h64, hx, e1] | refine AW.seq ?_ | refine AW.block ?_ | refine AW.scope ?_ | refine AW.cond_tt rfl ?_ | refine AW.cond_ff rfl ?_ | refine AW.label ?_ | refine AW.skip ?_ | refine AW.ret ?_ | refine AW.exit ?_ | refine AW.regionN (by rfl) ?_ | refine AW.draw (by kernel_rfl) (by decide +kernel) ?_ | refine AW.drawN (by kernel_rfl) (by decide +kernel) ?_ | ((with_reducible refine And.intro ?_ ?_); (focus ((repeat' (with_reducible apply And.intro)) <;> first | (with_reducible exact OrdAt.of (by kernel_rfl)) | (with_reducible exact OrdT.of (by kernel_rfl)) | exact True.intro | (with_reducible assumption) | omega | rfl | exact Nat.le_of_ble_eq_true rfl | exact Or.inl trivial | (unfold inI; omega)))))
        refine ⟨rfl, k30n (key x) hk1 ?_⟩
        repeat (first | simp only [go_sem, Nat.reduceLT, Nat.reduceEqDiff, reduceIte, Int.reduceEq, Int.reduceLE, Int.reduceLT, Nat.reduceMul, Nat.reduceAdd, Nat.reduceSub, Int.reduceNeg, Int.reduceAdd, Int.reduceMul, Int.reduceSub, Int.reduceToNat, Nat.reduceLeDiff, Nat.reduceDiv, Int.reduceDiv, reduceCtorEq, Option.some.injEq, exists_eq_left', List.length_map, List.length_set, List.length_replicate, List.length_drop, List.length_take, List.length_append, List.drop_zero, List.take_of_length_le, Nat.le_refl, Nat.sub_zero, splice_all, row_u8, splice_u8, wrap_u64c, el, hfl, h64, hx, e1] | refine AW.seq ?_ | refine AW.block ?_ | refine AW.scope ?_ | refine AW.cond_tt rfl ?_ | refine AW.cond_ff rfl ?_ | refine AW.label ?_ | refine AW.skip ?_ | refine AW.ret ?_ | refine AW.exit ?_ | refine AW.regionN (by rfl) ?_ | refine AW.draw (by kernel_rfl) (by decide +kernel) ?_ | refine AW.drawN (by kernel_rfl) (by decide +kernel) ?_ | ((with_reducible refine And.intro ?_ ?_); (focus ((repeat' (with_reducible apply And.intro)) <;> first | (with_reducible exact OrdAt.of (by kernel_rfl)) | (with_reducible exact OrdT.of (by kernel_rfl)) | exact True.intro | (with_reducible assumption) | omega | rfl | exact Nat.le_of_ble_eq_true rfl | exact Or.inl trivial | (unfold inI; omega)))))
        refine ⟨rfl, k33n x hx (fun c h1 h3 => ?_) _⟩
        repeat (first | simp only [go_sem, Nat.reduceLT, Nat.reduceEqDiff, reduceIte, Int.reduceEq, Int.reduceLE, Int.reduceLT, Nat.reduceMul, Nat.reduceAdd, Nat.reduceSub, Int.reduceNeg, Int.reduceAdd, Int.reduceMul, Int.reduceSub, Int.reduceToNat, Nat.reduceLeDiff, Nat.reduceDiv, Int.reduceDiv, reduceCtorEq, Option.some.injEq, exists_eq_left'] | refine AW.seq ?_ | refine AW.block ?_ | refine AW.scope ?_ | refine AW.cond_tt rfl ?_ | refine AW.cond_ff rfl ?_ | refine AW.label ?_ | refine AW.skip ?_ | refine AW.ret ?_ | refine AW.exit ?_ | refine AW.regionN (by rfl) ?_ | refine AW.draw (by kernel_rfl) (by decide +kernel) ?_ | refine AW.drawN (by kernel_rfl) (by decide +kernel) ?_ | ((with_reducible refine And.intro ?_ ?_); (focus ((repeat' (with_reducible apply And.intro)) <;> first | (with_reducible exact OrdAt.of (by kernel_rfl)) | (with_reducible exact OrdT.of (by kernel_rfl)) | exact True.intro | (with_reducible assumption) | omega | rfl | exact Nat.le_of_ble_eq_true rfl | exact Or.inl trivial | (unfold inI; omega)))))
        rw [Qof_lp]
        refine ⟨ts9 l more (m + 1) [x] c, ?_, ⟨m + 1, [x], by omega, fun y hy => by simp at hy; rw [hy]; exact hx, List.pairwise_singleton _ _, by simp, by rw [hg, hdr]; rfl, .inr ⟨c, h1, h3, rfl⟩⟩, ?_⟩
        · simp only [ts9, row9]
          refine Sub.of (fun l => if l = 0 then 2 else l + 5) (fun l h => absurd h (Nat.not_lt_zero l)) (by intro l l' h h' e; dsimp only at *; split at e <;> split at e <;> omega) (Nat.zero_le _) rfl rfl (by simp) ?_ ?_
          · simp [lab, labL, ren, renL, look_cons, renL_bys, labL_bys]
          · simp [labO, renO, look_cons]
        · simp [slotN, ts9, look_cons]; omega
      · have hdr : more.drop m = [] := List.drop_eq_nil_of_le (by omega)
        rw [hdr] at hg
        simp only [tpG] at hg
        repeat (first | simp only [go_sem, Nat.reduceLT, Nat.reduceEqDiff, reduceIte, Int.reduceEq, Int.reduceLE, Int.reduceLT, Nat.reduceMul, Nat.reduceAdd, Nat.reduceSub, Int.reduceNeg, Int.reduceAdd, Int.reduceMul, Int.reduceSub, Int.reduceToNat, Nat.reduceLeDiff, Nat.reduceDiv, Int.reduceDiv, reduceCtorEq, Option.some.injEq, exists_eq_left'] | refine AW.seq ?_ | refine AW.block ?_ | refine AW.scope ?_ | refine AW.cond_tt rfl ?_ | refine AW.cond_ff rfl ?_ | refine AW.label ?_ | refine AW.skip ?_ | refine AW.ret ?_ | refine AW.exit ?_ | refine AW.regionN (by rfl) ?_ | refine AW.draw (by kernel_rfl) (by decide +kernel) ?_ | refine AW.drawN (by kernel_rfl) (by decide +kernel) ?_ | ((with_reducible refine And.intro ?_ ?_); (focus ((repeat' (with_reducible apply And.intro)) <;> first | (with_reducible exact OrdAt.of (by kernel_rfl)) | (with_reducible exact OrdT.of (by kernel_rfl)) | exact True.intro | (with_reducible assumption) | omega | rfl | exact Nat.le_of_ble_eq_true rfl | exact Or.inl trivial | (unfold inI; omega)))))
        simp only [tpD, tpE, hck, if_true, hg]
        exact Wk.tup ⟨Wk.nil rfl rfl, Wk.refl _, trivial⟩
    · simp only [ts9, row9]
      repeat (first | simp only [go_sem, Nat.reduceLT, Nat.reduceEqDiff, reduceIte, Int.reduceEq, Int.reduceLE, Int.reduceLT, Nat.reduceMul, Nat.reduceAdd, Nat.reduceSub, Int.reduceNeg, Int.reduceAdd, Int.reduceMul, Int.reduceSub, Int.reduceToNat, Nat.reduceLeDiff, Nat.reduceDiv, Int.reduceDiv, reduceCtorEq, Option.some.injEq, exists_eq_left'] | refine AW.seq ?_ | refine AW.block ?_ | refine AW.scope ?_ | refine AW.cond_tt rfl ?_ | refine AW.cond_ff rfl ?_ | refine AW.label ?_ | refine AW.skip ?_ | refine AW.ret ?_ | refine AW.exit ?_ | refine AW.regionN (by rfl) ?_ | refine AW.draw (by kernel_rfl) (by decide +kernel) ?_ | refine AW.drawN (by kernel_rfl) (by decide +kernel) ?_ | ((with_reducible refine And.intro ?_ ?_); (focus ((repeat' (with_reducible apply And.intro)) <;> first | (with_reducible exact OrdAt.of (by kernel_rfl)) | (with_reducible exact OrdT.of (by kernel_rfl)) | exact True.intro | (with_reducible assumption) | omega | rfl | exact Nat.le_of_ble_eq_true rfl | exact Or.inl trivial | (unfold inI; omega)))))
      refine AW.cond_dec rfl (fun h2 => ?_) (fun h2 => ?_)
      · have hlt : m < more.length := by omega
        have el := el_f hm hlt
        have hx := getD_64 hm hlt
        have hfl := flat_len hm
        have h64 : 64 ≤ more.length * 64 - m * 64 := by omega
        have hdr : more.drop m = more.getD m [] :: more.drop (m + 1) := by rw [List.drop_eq_getElem_cons hlt]; simp [List.getD_eq_getElem?_getD, hlt]
        obtain ⟨x, hxx⟩ : ∃ x, x = more.getD m [] := ⟨_, rfl⟩
        rw [← hxx] at el hx hdr
        have e1 : List.take 32 (x.map u8) = (key x).map u8 := by simp
        have hk1 : (key x).length = 32 := by simp [hx]
        have hth := there_eq hsr (key x)
        rw [hdr] at hg
        simp only [tpG] at hg
        have hdl : d.length ≤ 1000 := by omega
        repeat (first | simp only [go_sem, Nat.reduceLT, Nat.reduceEqDiff, reduceIte, Int.reduceEq, Int.reduceLE, Int.reduceLT, Nat.reduceMul, Nat.reduceAdd, Nat.reduceSub, Int.reduceNeg, Int.reduceAdd, Int.reduceMul, Int.reduceSub, Int.reduceToNat, Nat.reduceLeDiff, Nat.reduceDiv, Int.reduceDiv, reduceCtorEq, Option.some.injEq, exists_eq_left', List.length_map, List.length_set, List.length_replicate, List.length_drop, List.length_take, List.length_append, List.drop_zero, List.take_of_length_le, Nat.le_refl, Nat.sub_zero, splice_all, row_u8, splice_u8, wrap_u64c, el, hfl, h64, hx, e1] | refine AW.seq ?_ | refine AW.block ?_ | refine AW.scope ?_ | refine AW.cond_tt rfl ?_ | refine AW.cond_ff rfl ?_ | refine AW.label ?_ | refine AW.skip ?_ | refine AW.ret ?_ | refine AW.exit ?_ | refine AW.regionN (by rfl) ?_ | refine AW.draw (by kernel_rfl) (by decide +kernel) ?_ | refine AW.drawN (by kernel_rfl) (by decide +kernel) ?_ | ((with_reducible refine And.intro ?_ ?_); (focus ((repeat' (with_reducible apply And.intro)) <;> first | (with_reducible exact OrdAt.of (by kernel_rfl)) | (with_reducible exact OrdT.of (by kernel_rfl)) | exact True.intro | (with_reducible assumption) | omega | rfl | exact Nat.le_of_ble_eq_true rfl | exact Or.inl trivial | (unfold inI; omega)))))
        refine ⟨rfl, k30 d hd hdl c hc1 (key x) hk1 (srt_mono hsr _) rfl ?_⟩
        repeat (first | simp only [go_sem, Nat.reduceLT, Nat.reduceEqDiff, reduceIte, Int.reduceEq, Int.reduceLE, Int.reduceLT, Nat.reduceMul, Nat.reduceAdd, Nat.reduceSub, Int.reduceNeg, Int.reduceAdd, Int.reduceMul, Int.reduceSub, Int.reduceToNat, Nat.reduceLeDiff, Nat.reduceDiv, Int.reduceDiv, reduceCtorEq, Option.some.injEq, exists_eq_left', List.length_map, List.length_set, List.length_replicate, List.length_drop, List.length_take, List.length_append, List.drop_zero, List.take_of_length_le, Nat.le_refl, Nat.sub_zero, splice_all, row_u8, splice_u8, wrap_u64c, el, hfl, h64, hx, e1] | refine AW.seq ?_ | refine AW.block ?_ | refine AW.scope ?_ | refine AW.cond_tt rfl ?_ | refine AW.cond_ff rfl ?_ | refine AW.label ?_ | refine AW.skip ?_ | refine AW.ret ?_ | refine AW.exit ?_ | refine AW.regionN (by rfl) ?_ | refine AW.draw (by kernel_rfl) (by decide +kernel) ?_ | refine AW.drawN (by kernel_rfl) (by decide +kernel) ?_ | ((with_reducible refine And.intro ?_ ?_); (focus ((repeat' (with_reducible apply And.intro)) <;> first | (with_reducible exact OrdAt.of (by kernel_rfl)) | (with_reducible exact OrdT.of (by kernel_rfl)) | exact True.intro | (with_reducible assumption) | omega | rfl | exact Nat.le_of_ble_eq_true rfl | exact Or.inl trivial | (unfold inI; omega)))))
        cases hf : findB d (key x)
        · rw [hf] at hth hg
          simp only [hth]
          simp only [Bool.false_eq_true, if_false] at hg
          repeat (first | simp only [go_sem, Nat.reduceLT, Nat.reduceEqDiff, reduceIte, Int.reduceEq, Int.reduceLE, Int.reduceLT, Nat.reduceMul, Nat.reduceAdd, Nat.reduceSub, Int.reduceNeg, Int.reduceAdd, Int.reduceMul, Int.reduceSub, Int.reduceToNat, Nat.reduceLeDiff, Nat.reduceDiv, Int.reduceDiv, reduceCtorEq, Option.some.injEq, exists_eq_left'] | refine AW.seq ?_ | refine AW.block ?_ | refine AW.scope ?_ | refine AW.cond_tt rfl ?_ | refine AW.cond_ff rfl ?_ | refine AW.label ?_ | refine AW.skip ?_ | refine AW.ret ?_ | refine AW.exit ?_ | refine AW.regionN (by rfl) ?_ | refine AW.draw (by kernel_rfl) (by decide +kernel) ?_ | refine AW.drawN (by kernel_rfl) (by decide +kernel) ?_ | ((with_reducible refine And.intro ?_ ?_); (focus ((repeat' (with_reducible apply And.intro)) <;> first | (with_reducible exact OrdAt.of (by kernel_rfl)) | (with_reducible exact OrdT.of (by kernel_rfl)) | exact True.intro | (with_reducible assumption) | omega | rfl | exact Nat.le_of_ble_eq_true rfl | exact Or.inl trivial | (unfold inI; omega)))))
          refine AW.cond_dec rfl (fun h3 => ?_) (fun h3 => ?_)
          · rw [if_pos (by omega)] at hg
            repeat (first | simp only [go_sem, Nat.reduceLT, Nat.reduceEqDiff, reduceIte, Int.reduceEq, Int.reduceLE, Int.reduceLT, Nat.reduceMul, Nat.reduceAdd, Nat.reduceSub, Int.reduceNeg, Int.reduceAdd, Int.reduceMul, Int.reduceSub, Int.reduceToNat, Nat.reduceLeDiff, Nat.reduceDiv, Int.reduceDiv, reduceCtorEq, Option.some.injEq, exists_eq_left'] | refine AW.seq ?_ | refine AW.block ?_ | refine AW.scope ?_ | refine AW.cond_tt rfl ?_ | refine AW.cond_ff rfl ?_ | refine AW.label ?_ | refine AW.skip ?_ | refine AW.ret ?_ | refine AW.exit ?_ | refine AW.regionN (by rfl) ?_ | refine AW.draw (by kernel_rfl) (by decide +kernel) ?_ | refine AW.drawN (by kernel_rfl) (by decide +kernel) ?_ | ((with_reducible refine And.intro ?_ ?_); (focus ((repeat' (with_reducible apply And.intro)) <;> first | (with_reducible exact OrdAt.of (by kernel_rfl)) | (with_reducible exact OrdT.of (by kernel_rfl)) | exact True.intro | (with_reducible assumption) | omega | rfl | exact Nat.le_of_ble_eq_true rfl | exact Or.inl trivial | (unfold inI; omega)))))
            (first | refine CallE.mem (f29 l hl (by omega)) (by first | rfl | (simp only [List.map_cons, List.map_nil, frz_sl, frz_agg8, frz_agb, frz_agg32, frz_vv, frz_hv]; done) | (simp only [List.map_cons, List.map_nil, frz_sl, frz_agg8, frz_agb, frz_agg32, frz_vv, frz_hv]; rfl)) (by simp [bor, look_cons, isBox]) (by rfl) ?_ | refine CallXE.mem (f29 l hl (by omega)) (by first | rfl | (simp only [List.map_cons, List.map_nil, frz_sl, frz_agg8, frz_agb, frz_agg32, frz_vv, frz_hv]; done) | (simp only [List.map_cons, List.map_nil, frz_sl, frz_agg8, frz_agb, frz_agg32, frz_vv, frz_hv]; rfl)) (by simp [bor, look_cons, isBox]) (by rfl) ?_)
            repeat (first | simp only [go_sem, Nat.reduceLT, Nat.reduceEqDiff, reduceIte, Int.reduceEq, Int.reduceLE, Int.reduceLT, Nat.reduceMul, Nat.reduceAdd, Nat.reduceSub, Int.reduceNeg, Int.reduceAdd, Int.reduceMul, Int.reduceSub, Int.reduceToNat, Nat.reduceLeDiff, Nat.reduceDiv, Int.reduceDiv, reduceCtorEq, Option.some.injEq, exists_eq_left'] | refine AW.seq ?_ | refine AW.block ?_ | refine AW.scope ?_ | refine AW.cond_tt rfl ?_ | refine AW.cond_ff rfl ?_ | refine AW.label ?_ | refine AW.skip ?_ | refine AW.ret ?_ | refine AW.exit ?_ | refine AW.regionN (by rfl) ?_ | refine AW.draw (by kernel_rfl) (by decide +kernel) ?_ | refine AW.drawN (by kernel_rfl) (by decide +kernel) ?_ | ((with_reducible refine And.intro ?_ ?_); (focus ((repeat' (with_reducible apply And.intro)) <;> first | (with_reducible exact OrdAt.of (by kernel_rfl)) | (with_reducible exact OrdT.of (by kernel_rfl)) | exact True.intro | (with_reducible assumption) | omega | rfl | exact Nat.le_of_ble_eq_true rfl | exact Or.inl trivial | (unfold inI; omega)))))
            simp only [tpD, tpE, hck, if_true, hg]
            exact Wk.refl _
          · rw [if_neg (by omega)] at hg
            repeat (first | simp only [go_sem, Nat.reduceLT, Nat.reduceEqDiff, reduceIte, Int.reduceEq, Int.reduceLE, Int.reduceLT, Nat.reduceMul, Nat.reduceAdd, Nat.reduceSub, Int.reduceNeg, Int.reduceAdd, Int.reduceMul, Int.reduceSub, Int.reduceToNat, Nat.reduceLeDiff, Nat.reduceDiv, Int.reduceDiv, reduceCtorEq, Option.some.injEq, exists_eq_left', List.length_map, List.length_set, List.length_replicate, List.length_drop, List.length_take, List.length_append, List.drop_zero, List.take_of_length_le, Nat.le_refl, Nat.sub_zero, splice_all, row_u8, splice_u8, wrap_u64c, hx] | refine AW.seq ?_ | refine AW.block ?_ | refine AW.scope ?_ | refine AW.cond_tt rfl ?_ | refine AW.cond_ff rfl ?_ | refine AW.label ?_ | refine AW.skip ?_ | refine AW.ret ?_ | refine AW.exit ?_ | refine AW.regionN (by rfl) ?_ | refine AW.draw (by kernel_rfl) (by decide +kernel) ?_ | refine AW.drawN (by kernel_rfl) (by decide +kernel) ?_ | ((with_reducible refine And.intro ?_ ?_); (focus ((repeat' (with_reducible apply And.intro)) <;> first | (with_reducible exact OrdAt.of (by kernel_rfl)) | (with_reducible exact OrdT.of (by kernel_rfl)) | exact True.intro | (with_reducible assumption) | omega | rfl | exact Nat.le_of_ble_eq_true rfl | exact Or.inl trivial | (unfold inI; omega)))))
            have h64' : all64 (insK d x) := insK_64 hd hx
            have hsr' : Srt (insK d x) := insK_srt hsr hf
            have hil := insK_len d x
            refine ⟨rfl, k33 d hd hdl c hc1 hc2 (posOf d (key x)) (pos_le _ _) x hx (x.map u8) (fun h4 => ?_) (fun h4 c' h5 h6 => ?_)⟩
            · repeat (first | simp only [go_sem, Nat.reduceLT, Nat.reduceEqDiff, reduceIte, Int.reduceEq, Int.reduceLE, Int.reduceLT, Nat.reduceMul, Nat.reduceAdd, Nat.reduceSub, Int.reduceNeg, Int.reduceAdd, Int.reduceMul, Int.reduceSub, Int.reduceToNat, Nat.reduceLeDiff, Nat.reduceDiv, Int.reduceDiv, reduceCtorEq, Option.some.injEq, exists_eq_left'] | refine AW.seq ?_ | refine AW.block ?_ | refine AW.scope ?_ | refine AW.cond_tt rfl ?_ | refine AW.cond_ff rfl ?_ | refine AW.label ?_ | refine AW.skip ?_ | refine AW.ret ?_ | refine AW.exit ?_ | refine AW.regionN (by rfl) ?_ | refine AW.draw (by kernel_rfl) (by decide +kernel) ?_ | refine AW.drawN (by kernel_rfl) (by decide +kernel) ?_ | ((with_reducible refine And.intro ?_ ?_); (focus ((repeat' (with_reducible apply And.intro)) <;> first | (with_reducible exact OrdAt.of (by kernel_rfl)) | (with_reducible exact OrdT.of (by kernel_rfl)) | exact True.intro | (with_reducible assumption) | omega | rfl | exact Nat.le_of_ble_eq_true rfl | exact Or.inl trivial | (unfold inI; omega)))))
              rw [Qof_lp]
              refine ⟨ts9 l more (m + 1) (insK d x) c, ?_, ⟨m + 1, insK d x, by omega, h64', hsr', by omega, hg, .inr ⟨c, by omega, hc2, rfl⟩⟩, ?_⟩
              · rw [show insAt d (posOf d (key x)) x = insK d x from rfl]
                simp only [ts9, row9, hil]
                exact (Sub.same (by first | exact Nat.zero_le _ | exact Nat.le_refl _ | decide | omega) rfl rfl (by simp) (by simp [lab, labL, ren, renL, look_cons, renL_bys, labL_bys, renL_mapu8, labL_mapu8, renL_mapu32, labL_mapu32]) (by simp [labO, renO, lab, labL, ren, renL, look_cons, renL_bys, labL_bys, renL_mapu8, labL_mapu8, renL_mapu32, labL_mapu32]))
              · simp [slotN, ts9, look_cons]; omega
            · repeat (first | simp only [go_sem, Nat.reduceLT, Nat.reduceEqDiff, reduceIte, Int.reduceEq, Int.reduceLE, Int.reduceLT, Nat.reduceMul, Nat.reduceAdd, Nat.reduceSub, Int.reduceNeg, Int.reduceAdd, Int.reduceMul, Int.reduceSub, Int.reduceToNat, Nat.reduceLeDiff, Nat.reduceDiv, Int.reduceDiv, reduceCtorEq, Option.some.injEq, exists_eq_left'] | refine AW.seq ?_ | refine AW.block ?_ | refine AW.scope ?_ | refine AW.cond_tt rfl ?_ | refine AW.cond_ff rfl ?_ | refine AW.label ?_ | refine AW.skip ?_ | refine AW.ret ?_ | refine AW.exit ?_ | refine AW.regionN (by rfl) ?_ | refine AW.draw (by kernel_rfl) (by decide +kernel) ?_ | refine AW.drawN (by kernel_rfl) (by decide +kernel) ?_ | ((with_reducible refine And.intro ?_ ?_); (focus ((repeat' (with_reducible apply And.intro)) <;> first | (with_reducible exact OrdAt.of (by kernel_rfl)) | (with_reducible exact OrdT.of (by kernel_rfl)) | exact True.intro | (with_reducible assumption) | omega | rfl | exact Nat.le_of_ble_eq_true rfl | exact Or.inl trivial | (unfold inI; omega)))))
              rw [Qof_lp]
              refine ⟨ts9 l more (m + 1) (insK d x) c', ?_, ⟨m + 1, insK d x, by omega, h64', hsr', by omega, hg, .inr ⟨c', by omega, h6, rfl⟩⟩, ?_⟩
              · simp only [ts9, row9, hil]
                refine Sub.of (fun l => if l = 0 then 3 else l + 5) (fun l h => absurd h (Nat.not_lt_zero l)) (by intro l l' h h' e; dsimp only at *; split at e <;> split at e <;> omega) (Nat.zero_le _) rfl rfl (by simp) ?_ ?_
                · simp [lab, labL, ren, renL, look_cons, renL_bys, labL_bys]
                · simp [labO, renO, look_cons]; rfl
              · simp [slotN, ts9, look_cons]; omega
        · rw [hf] at hth hg
          simp only [hth]
          rw [if_pos rfl] at hg
          repeat (first | simp only [go_sem, Nat.reduceLT, Nat.reduceEqDiff, reduceIte, Int.reduceEq, Int.reduceLE, Int.reduceLT, Nat.reduceMul, Nat.reduceAdd, Nat.reduceSub, Int.reduceNeg, Int.reduceAdd, Int.reduceMul, Int.reduceSub, Int.reduceToNat, Nat.reduceLeDiff, Nat.reduceDiv, Int.reduceDiv, reduceCtorEq, Option.some.injEq, exists_eq_left'] | refine AW.seq ?_ | refine AW.block ?_ | refine AW.scope ?_ | refine AW.cond_tt rfl ?_ | refine AW.cond_ff rfl ?_ | refine AW.label ?_ | refine AW.skip ?_ | refine AW.ret ?_ | refine AW.exit ?_ | refine AW.regionN (by rfl) ?_ | refine AW.draw (by kernel_rfl) (by decide +kernel) ?_ | refine AW.drawN (by kernel_rfl) (by decide +kernel) ?_ | ((with_reducible refine And.intro ?_ ?_); (focus ((repeat' (with_reducible apply And.intro)) <;> first | (with_reducible exact OrdAt.of (by kernel_rfl)) | (with_reducible exact OrdT.of (by kernel_rfl)) | exact True.intro | (with_reducible assumption) | omega | rfl | exact Nat.le_of_ble_eq_true rfl | exact Or.inl trivial | (unfold inI; omega)))))
          (first | refine CallE.mem (f29 l hl (by omega)) (by first | rfl | (simp only [List.map_cons, List.map_nil, frz_sl, frz_agg8, frz_agb, frz_agg32, frz_vv, frz_hv]; done) | (simp only [List.map_cons, List.map_nil, frz_sl, frz_agg8, frz_agb, frz_agg32, frz_vv, frz_hv]; rfl)) (by simp [bor, look_cons, isBox]) (by rfl) ?_ | refine CallXE.mem (f29 l hl (by omega)) (by first | rfl | (simp only [List.map_cons, List.map_nil, frz_sl, frz_agg8, frz_agb, frz_agg32, frz_vv, frz_hv]; done) | (simp only [List.map_cons, List.map_nil, frz_sl, frz_agg8, frz_agb, frz_agg32, frz_vv, frz_hv]; rfl)) (by simp [bor, look_cons, isBox]) (by rfl) ?_)
          repeat (first | simp only [go_sem, Nat.reduceLT, Nat.reduceEqDiff, reduceIte, Int.reduceEq, Int.reduceLE, Int.reduceLT, Nat.reduceMul, Nat.reduceAdd, Nat.reduceSub, Int.reduceNeg, Int.reduceAdd, Int.reduceMul, Int.reduceSub, Int.reduceToNat, Nat.reduceLeDiff, Nat.reduceDiv, Int.reduceDiv, reduceCtorEq, Option.some.injEq, exists_eq_left'] | refine AW.seq ?_ | refine AW.block ?_ | refine AW.scope ?_ | refine AW.cond_tt rfl ?_ | refine AW.cond_ff rfl ?_ | refine AW.label ?_ | refine AW.skip ?_ | refine AW.ret ?_ | refine AW.exit ?_ | refine AW.regionN (by rfl) ?_ | refine AW.draw (by kernel_rfl) (by decide +kernel) ?_ | refine AW.drawN (by kernel_rfl) (by decide +kernel) ?_ | ((with_reducible refine And.intro ?_ ?_); (focus ((repeat' (with_reducible apply And.intro)) <;> first | (with_reducible exact OrdAt.of (by kernel_rfl)) | (with_reducible exact OrdT.of (by kernel_rfl)) | exact True.intro | (with_reducible assumption) | omega | rfl | exact Nat.le_of_ble_eq_true rfl | exact Or.inl trivial | (unfold inI; omega)))))
          simp only [tpD, tpE, hck, if_true, hg]
          exact Wk.refl _
      · have hdr : more.drop m = [] := List.drop_eq_nil_of_le (by omega)
        rw [hdr] at hg
        simp only [tpG] at hg
        by_cases h0 : d = []
        · subst h0
          refine AW.sub (s' := ⟨row9 l more m (.sl 64 [] 0 none), 46, [], 1, []⟩) (Sub.wk (Nat.zero_le _) rfl rfl (by simp) ?_ (by simp)) ?_
          · simp [row9, look_cons, lab, labL, labL_bys, WkF_self, eq_true WkF.csl0]
          repeat (first | simp only [go_sem, Nat.reduceLT, Nat.reduceEqDiff, reduceIte, Int.reduceEq, Int.reduceLE, Int.reduceLT, Nat.reduceMul, Nat.reduceAdd, Nat.reduceSub, Int.reduceNeg, Int.reduceAdd, Int.reduceMul, Int.reduceSub, Int.reduceToNat, Nat.reduceLeDiff, Nat.reduceDiv, Int.reduceDiv, reduceCtorEq, Option.some.injEq, exists_eq_left'] | refine AW.seq ?_ | refine AW.block ?_ | refine AW.scope ?_ | refine AW.cond_tt rfl ?_ | refine AW.cond_ff rfl ?_ | refine AW.label ?_ | refine AW.skip ?_ | refine AW.ret ?_ | refine AW.exit ?_ | refine AW.regionN (by rfl) ?_ | refine AW.draw (by kernel_rfl) (by decide +kernel) ?_ | refine AW.drawN (by kernel_rfl) (by decide +kernel) ?_ | ((with_reducible refine And.intro ?_ ?_); (focus ((repeat' (with_reducible apply And.intro)) <;> first | (with_reducible exact OrdAt.of (by kernel_rfl)) | (with_reducible exact OrdT.of (by kernel_rfl)) | exact True.intro | (with_reducible assumption) | omega | rfl | exact Nat.le_of_ble_eq_true rfl | exact Or.inl trivial | (unfold inI; omega)))))
          simp only [tpD, tpE, hck, if_true, hg]
          exact Wk.refl _
        · have h1 := List.length_pos_iff.2 h0
          have hbl := bxr_len hd hc1
          have h3 := take_bxr hd (Nat.le_refl d.length) c
          rw [List.take_length] at h3
          have h5 : (bys d.flatten).map dt = bys d.flatten := map_dt_u8 _
          repeat (first | simp only [go_sem, Nat.reduceLT, Nat.reduceEqDiff, reduceIte, Int.reduceEq, Int.reduceLE, Int.reduceLT, Nat.reduceMul, Nat.reduceAdd, Nat.reduceSub, Int.reduceNeg, Int.reduceAdd, Int.reduceMul, Int.reduceSub, Int.reduceToNat, Nat.reduceLeDiff, Nat.reduceDiv, Int.reduceDiv, reduceCtorEq, Option.some.injEq, exists_eq_left', h3, h5] | refine AW.seq ?_ | refine AW.block ?_ | refine AW.scope ?_ | refine AW.cond_tt rfl ?_ | refine AW.cond_ff rfl ?_ | refine AW.label ?_ | refine AW.skip ?_ | refine AW.ret ?_ | refine AW.exit ?_ | refine AW.regionN (by rfl) ?_ | refine AW.draw (by kernel_rfl) (by decide +kernel) ?_ | refine AW.drawN (by kernel_rfl) (by decide +kernel) ?_ | ((with_reducible refine And.intro ?_ ?_); (focus ((repeat' (with_reducible apply And.intro)) <;> first | (with_reducible exact OrdAt.of (by kernel_rfl)) | (with_reducible exact OrdT.of (by kernel_rfl)) | exact True.intro | (with_reducible assumption) | omega | rfl | exact Nat.le_of_ble_eq_true rfl | exact Or.inl trivial | (unfold inI; omega)))))
          rw [if_pos (by omega)]
          simp only [tpD, tpE, hck, if_true, hg]
          exact Wk.refl _
  · have hck' : chk l = false := by simpa using hck
    simp only [hck', Bool.not_false]
    repeat (first | simp only [go_sem, Nat.reduceLT, Nat.reduceEqDiff, reduceIte, Int.reduceEq, Int.reduceLE, Int.reduceLT, Nat.reduceMul, Nat.reduceAdd, Nat.reduceSub, Int.reduceNeg, Int.reduceAdd, Int.reduceMul, Int.reduceSub, Int.reduceToNat, Nat.reduceLeDiff, Nat.reduceDiv, Int.reduceDiv, reduceCtorEq, Option.some.injEq, exists_eq_left'] | refine AW.seq ?_ | refine AW.block ?_ | refine AW.scope ?_ | refine AW.cond_tt rfl ?_ | refine AW.cond_ff rfl ?_ | refine AW.label ?_ | refine AW.skip ?_ | refine AW.ret ?_ | refine AW.exit ?_ | refine AW.regionN (by rfl) ?_ | refine AW.draw (by kernel_rfl) (by decide +kernel) ?_ | refine AW.drawN (by kernel_rfl) (by decide +kernel) ?_ | ((with_reducible refine And.intro ?_ ?_); (focus ((repeat' (with_reducible apply And.intro)) <;> first | (with_reducible exact OrdAt.of (by kernel_rfl)) | (with_reducible exact OrdT.of (by kernel_rfl)) | exact True.intro | (with_reducible assumption) | omega | rfl | exact Nat.le_of_ble_eq_true rfl | exact Or.inl trivial | (unfold inI; omega)))))
    (first | refine CallE.mem (f29 l hl (by omega)) (by first | rfl | (simp only [List.map_cons, List.map_nil, frz_sl, frz_agg8, frz_agb, frz_agg32, frz_vv, frz_hv]; done) | (simp only [List.map_cons, List.map_nil, frz_sl, frz_agg8, frz_agb, frz_agg32, frz_vv, frz_hv]; rfl)) (by simp [bor, look_cons, isBox]) (by rfl) ?_ | refine CallXE.mem (f29 l hl (by omega)) (by first | rfl | (simp only [List.map_cons, List.map_nil, frz_sl, frz_agg8, frz_agb, frz_agg32, frz_vv, frz_hv]; done) | (simp only [List.map_cons, List.map_nil, frz_sl, frz_agg8, frz_agb, frz_agg32, frz_vv, frz_hv]; rfl)) (by simp [bor, look_cons, isBox]) (by rfl) ?_)
    repeat (first | simp only [go_sem, Nat.reduceLT, Nat.reduceEqDiff, reduceIte, Int.reduceEq, Int.reduceLE, Int.reduceLT, Nat.reduceMul, Nat.reduceAdd, Nat.reduceSub, Int.reduceNeg, Int.reduceAdd, Int.reduceMul, Int.reduceSub, Int.reduceToNat, Nat.reduceLeDiff, Nat.reduceDiv, Int.reduceDiv, reduceCtorEq, Option.some.injEq, exists_eq_left'] | refine AW.seq ?_ | refine AW.block ?_ | refine AW.scope ?_ | refine AW.cond_tt rfl ?_ | refine AW.cond_ff rfl ?_ | refine AW.label ?_ | refine AW.skip ?_ | refine AW.ret ?_ | refine AW.exit ?_ | refine AW.regionN (by rfl) ?_ | refine AW.draw (by kernel_rfl) (by decide +kernel) ?_ | refine AW.drawN (by kernel_rfl) (by decide +kernel) ?_ | ((with_reducible refine And.intro ?_ ?_); (focus ((repeat' (with_reducible apply And.intro)) <;> first | (with_reducible exact OrdAt.of (by kernel_rfl)) | (with_reducible exact OrdT.of (by kernel_rfl)) | exact True.intro | (with_reducible assumption) | omega | rfl | exact Nat.le_of_ble_eq_true rfl | exact Or.inl trivial | (unfold inI; omega)))))
    simp only [tpD, tpE, hck', Bool.false_eq_true, if_false]
    exact Wk.refl _
end Go.Proofs.YtpknjecfloglgaaDoor

namespace Go.Proofs.YtpknjecfloglgaaDoor
open Go Go.Eng Go.Proofs
set_option maxRecDepth 100000
set_option maxHeartbeats 1000000
set_option linter.unusedSimpArgs false
set_option linter.unusedVariables false
theorem findV_len {d : List Lf} (hd : all64 d) (k : List UInt8) : (findV d k).length = 32 := by
  unfold findV
  cases h : findO d k with
  | none => simp
  | some x => have := hd x (List.mem_of_find?_eq_some h); simp [this]
def ts10 (l more : List Lf) (m : Nat) (d : List Lf) : S := ⟨[(8, int m), (7, .sl 64 (bys d.flatten) d.length (some 0)), (5, int 0), (4, nilS), (0, lsl l), (1, lsl more)], 80, [(0, .tok)], 1, []⟩
def ts10i (l more : List Lf) (m : Nat) (d : List Lf) (j : Nat) : S := ⟨[(11, int j), (8, int m), (7, .sl 64 (bys d.flatten) d.length (some 0)), (5, int 0), (4, nilS), (0, lsl l), (1, lsl more)], 80, [(0, .tok)], 1, []⟩
theorem f10 (l more : List Lf) (hl : all64 l) (hm : all64 more) (hn : l.length ≤ 1000) (hn' : more.length ≤ 1000) : AFun Tryd.prog 10 [lsl l, lsl more] (.tup [lsl (tpD l more), int (tpE l more)]) := by
  refine AFun.enterW Tryd.func10 rfl Tryd.call10 (by simp [Tryd.ntmps10]) fun γ1 => ?_
  simp only [frameOf, Tryd.ntmps10]
  repeat (first | simp only [go_sem, Nat.reduceLT, Nat.reduceEqDiff, reduceIte, Int.reduceEq, Int.reduceLE, Int.reduceLT, Nat.reduceMul, Nat.reduceAdd, Nat.reduceSub, Int.reduceNeg, Int.reduceAdd, Int.reduceMul, Int.reduceSub, Int.reduceToNat, Nat.reduceLeDiff, Nat.reduceDiv, Int.reduceDiv, reduceCtorEq, Option.some.injEq, exists_eq_left'] | refine AW.seq ?_ | refine AW.block ?_ | refine AW.scope ?_ | refine AW.cond_tt rfl ?_ | refine AW.cond_ff rfl ?_ | refine AW.label ?_ | refine AW.skip ?_ | refine AW.ret ?_ | refine AW.exit ?_ | refine AW.region ?_ | refine AW.draw (by kernel_rfl) (by decide +kernel) ?_ | refine AW.drawN (by kernel_rfl) (by decide +kernel) ?_ | ((with_reducible refine And.intro ?_ ?_); (focus ((repeat' (with_reducible apply And.intro)) <;> first | (with_reducible exact OrdAt.of (by kernel_rfl)) | (with_reducible exact OrdT.of (by kernel_rfl)) | exact True.intro | (with_reducible assumption) | omega | rfl | exact Nat.le_of_ble_eq_true rfl | exact Or.inl trivial | (unfold inI; omega)))))
  (first | refine CallE.flat (f15 l hl hn) (by first | rfl | (simp only [List.map_cons, List.map_nil, frz_sl, frz_agg8, frz_agb, frz_agg32, frz_vv, frz_hv]; done) | (simp only [List.map_cons, List.map_nil, frz_sl, frz_agg8, frz_agb, frz_agg32, frz_vv, frz_hv]; rfl)) (by rfl) (by rfl) ?_ | refine CallXE.flat (f15 l hl hn) (by first | rfl | (simp only [List.map_cons, List.map_nil, frz_sl, frz_agg8, frz_agb, frz_agg32, frz_vv, frz_hv]; done) | (simp only [List.map_cons, List.map_nil, frz_sl, frz_agg8, frz_agb, frz_agg32, frz_vv, frz_hv]; rfl)) (by rfl) (by rfl) ?_)
  repeat (first | simp only [go_sem, Nat.reduceLT, Nat.reduceEqDiff, reduceIte, Int.reduceEq, Int.reduceLE, Int.reduceLT, Nat.reduceMul, Nat.reduceAdd, Nat.reduceSub, Int.reduceNeg, Int.reduceAdd, Int.reduceMul, Int.reduceSub, Int.reduceToNat, Nat.reduceLeDiff, Nat.reduceDiv, Int.reduceDiv, reduceCtorEq, Option.some.injEq, exists_eq_left'] | refine AW.seq ?_ | refine AW.block ?_ | refine AW.scope ?_ | refine AW.cond_tt rfl ?_ | refine AW.cond_ff rfl ?_ | refine AW.label ?_ | refine AW.skip ?_ | refine AW.ret ?_ | refine AW.exit ?_ | refine AW.region ?_ | refine AW.draw (by kernel_rfl) (by decide +kernel) ?_ | refine AW.drawN (by kernel_rfl) (by decide +kernel) ?_ | ((with_reducible refine And.intro ?_ ?_); (focus ((repeat' (with_reducible apply And.intro)) <;> first | (with_reducible exact OrdAt.of (by kernel_rfl)) | (with_reducible exact OrdT.of (by kernel_rfl)) | exact True.intro | (with_reducible assumption) | omega | rfl | exact Nat.le_of_ble_eq_true rfl | exact Or.inl trivial | (unfold inI; omega)))))
  by_cases hck : chk l = true
  · simp only [hck, Bool.not_true]
    have hc := (chk_eq l).1 hck
    repeat (first | simp only [go_sem, Nat.reduceLT, Nat.reduceEqDiff, reduceIte, Int.reduceEq, Int.reduceLE, Int.reduceLT, Nat.reduceMul, Nat.reduceAdd, Nat.reduceSub, Int.reduceNeg, Int.reduceAdd, Int.reduceMul, Int.reduceSub, Int.reduceToNat, Nat.reduceLeDiff, Nat.reduceDiv, Int.reduceDiv, reduceCtorEq, Option.some.injEq, exists_eq_left', List.nil_append] | refine AW.seq ?_ | refine AW.block ?_ | refine AW.scope ?_ | refine AW.cond_tt rfl ?_ | refine AW.cond_ff rfl ?_ | refine AW.label ?_ | refine AW.skip ?_ | refine AW.ret ?_ | refine AW.exit ?_ | refine AW.region ?_ | refine AW.draw (by kernel_rfl) (by decide +kernel) ?_ | refine AW.drawN (by kernel_rfl) (by decide +kernel) ?_ | ((with_reducible refine And.intro ?_ ?_); (focus ((repeat' (with_reducible apply And.intro)) <;> first | (with_reducible exact OrdAt.of (by kernel_rfl)) | (with_reducible exact OrdT.of (by kernel_rfl)) | exact True.intro | (with_reducible assumption) | omega | rfl | exact Nat.le_of_ble_eq_true rfl | exact Or.inl trivial | (unfold inI; omega)))))
    repeat (first | simp only [go_sem, Nat.reduceLT, Nat.reduceEqDiff, reduceIte, Int.reduceEq, Int.reduceLE, Int.reduceLT, Nat.reduceMul, Nat.reduceAdd, Nat.reduceSub, Int.reduceNeg, Int.reduceAdd, Int.reduceMul, Int.reduceSub, Int.reduceToNat, Nat.reduceLeDiff, Nat.reduceDiv, Int.reduceDiv, reduceCtorEq, Option.some.injEq, exists_eq_left', List.nil_append] | refine AW.seq ?_ | refine AW.block ?_ | refine AW.scope ?_ | refine AW.cond_tt rfl ?_ | refine AW.cond_ff rfl ?_ | refine AW.label ?_ | refine AW.skip ?_ | refine AW.ret ?_ | refine AW.exit ?_ | refine AW.region ?_ | refine AW.draw (by kernel_rfl) (by decide +kernel) ?_ | refine AW.drawN (by kernel_rfl) (by decide +kernel) ?_ | ((with_reducible refine And.intro ?_ ?_); (focus ((repeat' (with_reducible apply And.intro)) <;> first | (with_reducible exact OrdAt.of (by kernel_rfl)) | (with_reducible exact OrdT.of (by kernel_rfl)) | exact True.intro | (with_reducible assumption) | omega | rfl | exact Nat.le_of_ble_eq_true rfl | exact Or.inl trivial | (unfold inI; omega)))))
    refine AW.loop (fun s => ∃ (m : Nat) (d : List Lf), m ≤ more.length ∧ all64 d ∧ Srt d ∧ d.length ≤ 400 ∧ tpG l more = tpG d (more.drop m) ∧ s = ts10 l more m d) (fun s => (more.length - slotN s 8).toNat) (s0 := ts10 l more 0 l) ?_ ⟨0, l, by omega, hl, hc.2, hc.1, by simp, rfl⟩ ?_
    · simp only [ts10]
      refine Sub.of (fun l => if l = 0 then 1 else l + 5) (fun l h => absurd h (Nat.not_lt_zero l)) (by intro l l' h h' e; dsimp only at *; split at e <;> split at e <;> omega) (Nat.zero_le _) rfl rfl (by simp) ?_ ?_
      · simp [lab, labL, ren, renL, look_cons, renL_bys, labL_bys]
      · simp [labO, renO, look_cons]
    rintro s ⟨m, d, hmm, hd, hsr, hd4, hg, rfl⟩
    simp only [ts10]
    repeat (first | simp only [go_sem, Nat.reduceLT, Nat.reduceEqDiff, reduceIte, Int.reduceEq, Int.reduceLE, Int.reduceLT, Nat.reduceMul, Nat.reduceAdd, Nat.reduceSub, Int.reduceNeg, Int.reduceAdd, Int.reduceMul, Int.reduceSub, Int.reduceToNat, Nat.reduceLeDiff, Nat.reduceDiv, Int.reduceDiv, reduceCtorEq, Option.some.injEq, exists_eq_left'] | refine AW.seq ?_ | refine AW.block ?_ | refine AW.scope ?_ | refine AW.cond_tt rfl ?_ | refine AW.cond_ff rfl ?_ | refine AW.label ?_ | refine AW.skip ?_ | refine AW.ret ?_ | refine AW.exit ?_ | refine AW.region ?_ | refine AW.draw (by kernel_rfl) (by decide +kernel) ?_ | refine AW.drawN (by kernel_rfl) (by decide +kernel) ?_ | ((with_reducible refine And.intro ?_ ?_); (focus ((repeat' (with_reducible apply And.intro)) <;> first | (with_reducible exact OrdAt.of (by kernel_rfl)) | (with_reducible exact OrdT.of (by kernel_rfl)) | exact True.intro | (with_reducible assumption) | omega | rfl | exact Nat.le_of_ble_eq_true rfl | exact Or.inl trivial | (unfold inI; omega)))))
    refine AW.cond_dec rfl (fun h2 => ?_) (fun h2 => ?_)
    · have hlt : m < more.length := by omega
      have el := el_f hm hlt
      have ek := el_k hm hlt
      have hx := getD_64 hm hlt
      have hfl := flat_len hm
      have h64 : 64 ≤ more.length * 64 - m * 64 := by omega
      have h32 : 32 ≤ more.length * 64 - m * 64 := by omega
      have hdr : more.drop m = more.getD m [] :: more.drop (m + 1) := by rw [List.drop_eq_getElem_cons hlt]; simp [List.getD_eq_getElem?_getD, hlt]
      obtain ⟨x, hxx⟩ : ∃ x, x = more.getD m [] := ⟨_, rfl⟩
      rw [← hxx] at el ek hx hdr
      have e1 : List.take 32 (x.map u8) = (key x).map u8 := by simp
      have hk1 : (key x).length = 32 := by simp [hx]
      have hth := there_eq hsr (key x)
      rw [hdr] at hg
      simp only [tpG] at hg
      have hdl : d.length ≤ 1000 := by omega
      repeat (first | simp only [go_sem, Nat.reduceLT, Nat.reduceEqDiff, reduceIte, Int.reduceEq, Int.reduceLE, Int.reduceLT, Nat.reduceMul, Nat.reduceAdd, Nat.reduceSub, Int.reduceNeg, Int.reduceAdd, Int.reduceMul, Int.reduceSub, Int.reduceToNat, Nat.reduceLeDiff, Nat.reduceDiv, Int.reduceDiv, reduceCtorEq, Option.some.injEq, exists_eq_left', List.length_map, List.length_set, List.length_replicate, List.length_drop, List.length_take, List.length_append, List.drop_zero, List.take_of_length_le, Nat.le_refl, Nat.sub_zero, splice_all, row_u8, splice_u8, wrap_u64c, ek, hfl, h32, hx, e1] | refine AW.seq ?_ | refine AW.block ?_ | refine AW.scope ?_ | refine AW.cond_tt rfl ?_ | refine AW.cond_ff rfl ?_ | refine AW.label ?_ | refine AW.skip ?_ | refine AW.ret ?_ | refine AW.exit ?_ | refine AW.region ?_ | refine AW.draw (by kernel_rfl) (by decide +kernel) ?_ | refine AW.drawN (by kernel_rfl) (by decide +kernel) ?_ | ((with_reducible refine And.intro ?_ ?_); (focus ((repeat' (with_reducible apply And.intro)) <;> first | (with_reducible exact OrdAt.of (by kernel_rfl)) | (with_reducible exact OrdT.of (by kernel_rfl)) | exact True.intro | (with_reducible assumption) | omega | rfl | exact Nat.le_of_ble_eq_true rfl | exact Or.inl trivial | (unfold inI; omega)))))
      (first | refine CallE.mem (f12 d hd hdl (key x) hk1) (by first | rfl | (simp only [List.map_cons, List.map_nil, frz_sl, frz_agg8, frz_agb, frz_agg32, frz_vv, frz_hv]; done) | (simp only [List.map_cons, List.map_nil, frz_sl, frz_agg8, frz_agb, frz_agg32, frz_vv, frz_hv]; rfl)) (by simp [bor, look_cons, isBox]) (by rfl) ?_ | refine CallXE.mem (f12 d hd hdl (key x) hk1) (by first | rfl | (simp only [List.map_cons, List.map_nil, frz_sl, frz_agg8, frz_agb, frz_agg32, frz_vv, frz_hv]; done) | (simp only [List.map_cons, List.map_nil, frz_sl, frz_agg8, frz_agb, frz_agg32, frz_vv, frz_hv]; rfl)) (by simp [bor, look_cons, isBox]) (by rfl) ?_)
      have hfv := findV_len hd (key x)
      repeat (first | simp only [go_sem, Nat.reduceLT, Nat.reduceEqDiff, reduceIte, Int.reduceEq, Int.reduceLE, Int.reduceLT, Nat.reduceMul, Nat.reduceAdd, Nat.reduceSub, Int.reduceNeg, Int.reduceAdd, Int.reduceMul, Int.reduceSub, Int.reduceToNat, Nat.reduceLeDiff, Nat.reduceDiv, Int.reduceDiv, reduceCtorEq, Option.some.injEq, exists_eq_left', List.length_map, List.length_set, List.length_replicate, List.length_drop, List.length_take, List.length_append, List.drop_zero, List.take_of_length_le, Nat.le_refl, Nat.sub_zero, splice_all, row_u8, splice_u8, wrap_u64c, z32_map, hfv] | refine AW.seq ?_ | refine AW.block ?_ | refine AW.scope ?_ | refine AW.cond_tt rfl ?_ | refine AW.cond_ff rfl ?_ | refine AW.label ?_ | refine AW.skip ?_ | refine AW.ret ?_ | refine AW.exit ?_ | refine AW.region ?_ | refine AW.draw (by kernel_rfl) (by decide +kernel) ?_ | refine AW.drawN (by kernel_rfl) (by decide +kernel) ?_ | ((with_reducible refine And.intro ?_ ?_); (focus ((repeat' (with_reducible apply And.intro)) <;> first | (with_reducible exact OrdAt.of (by kernel_rfl)) | (with_reducible exact OrdT.of (by kernel_rfl)) | exact True.intro | (with_reducible assumption) | omega | rfl | exact Nat.le_of_ble_eq_true rfl | exact Or.inl trivial | (unfold inI; omega)))))
      cases hf : findB d (key x)
      · rw [hf] at hg
        simp only [Bool.false_eq_true, if_false] at hg
        repeat (first | simp only [go_sem, Nat.reduceLT, Nat.reduceEqDiff, reduceIte, Int.reduceEq, Int.reduceLE, Int.reduceLT, Nat.reduceMul, Nat.reduceAdd, Nat.reduceSub, Int.reduceNeg, Int.reduceAdd, Int.reduceMul, Int.reduceSub, Int.reduceToNat, Nat.reduceLeDiff, Nat.reduceDiv, Int.reduceDiv, reduceCtorEq, Option.some.injEq, exists_eq_left'] | refine AW.seq ?_ | refine AW.block ?_ | refine AW.scope ?_ | refine AW.cond_tt rfl ?_ | refine AW.cond_ff rfl ?_ | refine AW.label ?_ | refine AW.skip ?_ | refine AW.ret ?_ | refine AW.exit ?_ | refine AW.region ?_ | refine AW.draw (by kernel_rfl) (by decide +kernel) ?_ | refine AW.drawN (by kernel_rfl) (by decide +kernel) ?_ | ((with_reducible refine And.intro ?_ ?_); (focus ((repeat' (with_reducible apply And.intro)) <;> first | (with_reducible exact OrdAt.of (by kernel_rfl)) | (with_reducible exact OrdT.of (by kernel_rfl)) | exact True.intro | (with_reducible assumption) | omega | rfl | exact Nat.le_of_ble_eq_true rfl | exact Or.inl trivial | (unfold inI; omega)))))
        refine AW.cond_dec rfl (fun h3 => ?_) (fun h3 => ?_)
        · rw [if_pos (by omega)] at hg
          repeat (first | simp only [go_sem, Nat.reduceLT, Nat.reduceEqDiff, reduceIte, Int.reduceEq, Int.reduceLE, Int.reduceLT, Nat.reduceMul, Nat.reduceAdd, Nat.reduceSub, Int.reduceNeg, Int.reduceAdd, Int.reduceMul, Int.reduceSub, Int.reduceToNat, Nat.reduceLeDiff, Nat.reduceDiv, Int.reduceDiv, reduceCtorEq, Option.some.injEq, exists_eq_left'] | refine AW.seq ?_ | refine AW.block ?_ | refine AW.scope ?_ | refine AW.cond_tt rfl ?_ | refine AW.cond_ff rfl ?_ | refine AW.label ?_ | refine AW.skip ?_ | refine AW.ret ?_ | refine AW.exit ?_ | refine AW.region ?_ | refine AW.draw (by kernel_rfl) (by decide +kernel) ?_ | refine AW.drawN (by kernel_rfl) (by decide +kernel) ?_ | ((with_reducible refine And.intro ?_ ?_); (focus ((repeat' (with_reducible apply And.intro)) <;> first | (with_reducible exact OrdAt.of (by kernel_rfl)) | (with_reducible exact OrdT.of (by kernel_rfl)) | exact True.intro | (with_reducible assumption) | omega | rfl | exact Nat.le_of_ble_eq_true rfl | exact Or.inl trivial | (unfold inI; omega)))))
          simp only [tpD, tpE, hck, if_true, hg]
          exact Wk.refl _
        · rw [if_neg (by omega)] at hg
          repeat (first | simp only [go_sem, Nat.reduceLT, Nat.reduceEqDiff, reduceIte, Int.reduceEq, Int.reduceLE, Int.reduceLT, Nat.reduceMul, Nat.reduceAdd, Nat.reduceSub, Int.reduceNeg, Int.reduceAdd, Int.reduceMul, Int.reduceSub, Int.reduceToNat, Nat.reduceLeDiff, Nat.reduceDiv, Int.reduceDiv, reduceCtorEq, Option.some.injEq, exists_eq_left'] | refine AW.seq ?_ | refine AW.block ?_ | refine AW.scope ?_ | refine AW.cond_tt rfl ?_ | refine AW.cond_ff rfl ?_ | refine AW.label ?_ | refine AW.skip ?_ | refine AW.ret ?_ | refine AW.exit ?_ | refine AW.region ?_ | refine AW.draw (by kernel_rfl) (by decide +kernel) ?_ | refine AW.drawN (by kernel_rfl) (by decide +kernel) ?_ | ((with_reducible refine And.intro ?_ ?_); (focus ((repeat' (with_reducible apply And.intro)) <;> first | (with_reducible exact OrdAt.of (by kernel_rfl)) | (with_reducible exact OrdT.of (by kernel_rfl)) | exact True.intro | (with_reducible assumption) | omega | rfl | exact Nat.le_of_ble_eq_true rfl | exact Or.inl trivial | (unfold inI; omega)))))
          refine AW.loop (fun s => ∃ j : Nat, j ≤ d.length ∧ (∀ p, p < j → cmpK (d.getD p []) (key x) < 0) ∧ s = ts10i l more m d j) (fun s => (d.length - slotN s 11).toNat) (s0 := ts10i l more m d 0) ?_ ⟨0, by omega, by omega, rfl⟩ ?_
          · simp only [ts10i]
            exact (Sub.same (by first | exact Nat.zero_le _ | exact Nat.le_refl _ | decide | omega) rfl rfl (by simp) (by simp [lab, labL, ren, renL, look_cons, renL_bys, labL_bys, renL_mapu8, labL_mapu8, renL_mapu32, labL_mapu32]) (by simp [labO, renO, lab, labL, ren, renL, look_cons, renL_bys, labL_bys, renL_mapu8, labL_mapu8, renL_mapu32, labL_mapu32]))
          rintro s ⟨j, hj, hu, rfl⟩
          simp only [ts10i]
          repeat (first | simp only [go_sem, Nat.reduceLT, Nat.reduceEqDiff, reduceIte, Int.reduceEq, Int.reduceLE, Int.reduceLT, Nat.reduceMul, Nat.reduceAdd, Nat.reduceSub, Int.reduceNeg, Int.reduceAdd, Int.reduceMul, Int.reduceSub, Int.reduceToNat, Nat.reduceLeDiff, Nat.reduceDiv, Int.reduceDiv, reduceCtorEq, Option.some.injEq, exists_eq_left'] | refine AW.seq ?_ | refine AW.block ?_ | refine AW.scope ?_ | refine AW.cond_tt rfl ?_ | refine AW.cond_ff rfl ?_ | refine AW.label ?_ | refine AW.skip ?_ | refine AW.ret ?_ | refine AW.exit ?_ | refine AW.region ?_ | refine AW.draw (by kernel_rfl) (by decide +kernel) ?_ | refine AW.drawN (by kernel_rfl) (by decide +kernel) ?_ | ((with_reducible refine And.intro ?_ ?_); (focus ((repeat' (with_reducible apply And.intro)) <;> first | (with_reducible exact OrdAt.of (by kernel_rfl)) | (with_reducible exact OrdT.of (by kernel_rfl)) | exact True.intro | (with_reducible assumption) | omega | rfl | exact Nat.le_of_ble_eq_true rfl | exact Or.inl trivial | (unfold inI; omega)))))
          refine drG_dec (fun h4 => ?_) (fun h4 => ?_)
          · have hlt' : j < d.length := by omega
            have ek' := el_k hd hlt'
            have hfd := flat_len hd
            have h32' : 32 ≤ d.length * 64 - j * 64 := by omega
            repeat (first | simp only [go_sem, Nat.reduceLT, Nat.reduceEqDiff, reduceIte, Int.reduceEq, Int.reduceLE, Int.reduceLT, Nat.reduceMul, Nat.reduceAdd, Nat.reduceSub, Int.reduceNeg, Int.reduceAdd, Int.reduceMul, Int.reduceSub, Int.reduceToNat, Nat.reduceLeDiff, Nat.reduceDiv, Int.reduceDiv, reduceCtorEq, Option.some.injEq, exists_eq_left', List.length_map, List.length_set, List.length_replicate, List.length_drop, List.length_take, List.length_append, List.drop_zero, List.take_of_length_le, Nat.le_refl, Nat.sub_zero, splice_all, row_u8, splice_u8, wrap_u64c, ek', ek, hfl, hfd, h32, h32'] | refine AW.seq ?_ | refine AW.block ?_ | refine AW.scope ?_ | refine AW.cond_tt rfl ?_ | refine AW.cond_ff rfl ?_ | refine AW.label ?_ | refine AW.skip ?_ | refine AW.ret ?_ | refine AW.exit ?_ | refine AW.region ?_ | refine AW.draw (by kernel_rfl) (by decide +kernel) ?_ | refine AW.drawN (by kernel_rfl) (by decide +kernel) ?_ | ((with_reducible refine And.intro ?_ ?_); (focus ((repeat' (with_reducible apply And.intro)) <;> first | (with_reducible exact OrdAt.of (by kernel_rfl)) | (with_reducible exact OrdT.of (by kernel_rfl)) | exact True.intro | (with_reducible assumption) | omega | rfl | exact Nat.le_of_ble_eq_true rfl | exact Or.inl trivial | (unfold inI; omega)))))
            (first | refine CallE.flat (f34 (key (d.getD j [])) (key x) (key_len hd hlt') hk1) (by first | rfl | (simp only [List.map_cons, List.map_nil, frz_sl, frz_agg8, frz_agb, frz_agg32, frz_vv, frz_hv]; done) | (simp only [List.map_cons, List.map_nil, frz_sl, frz_agg8, frz_agb, frz_agg32, frz_vv, frz_hv]; rfl)) (by rfl) (by rfl) ?_ | refine CallXE.flat (f34 (key (d.getD j [])) (key x) (key_len hd hlt') hk1) (by first | rfl | (simp only [List.map_cons, List.map_nil, frz_sl, frz_agg8, frz_agb, frz_agg32, frz_vv, frz_hv]; done) | (simp only [List.map_cons, List.map_nil, frz_sl, frz_agg8, frz_agb, frz_agg32, frz_vv, frz_hv]; rfl)) (by rfl) (by rfl) ?_)
            repeat (first | simp only [go_sem, Nat.reduceLT, Nat.reduceEqDiff, reduceIte, Int.reduceEq, Int.reduceLE, Int.reduceLT, Nat.reduceMul, Nat.reduceAdd, Nat.reduceSub, Int.reduceNeg, Int.reduceAdd, Int.reduceMul, Int.reduceSub, Int.reduceToNat, Nat.reduceLeDiff, Nat.reduceDiv, Int.reduceDiv, reduceCtorEq, Option.some.injEq, exists_eq_left'] | refine AW.seq ?_ | refine AW.block ?_ | refine AW.scope ?_ | refine AW.cond_tt rfl ?_ | refine AW.cond_ff rfl ?_ | refine AW.label ?_ | refine AW.skip ?_ | refine AW.ret ?_ | refine AW.exit ?_ | refine AW.region ?_ | refine AW.draw (by kernel_rfl) (by decide +kernel) ?_ | refine AW.drawN (by kernel_rfl) (by decide +kernel) ?_ | ((with_reducible refine And.intro ?_ ?_); (focus ((repeat' (with_reducible apply And.intro)) <;> first | (with_reducible exact OrdAt.of (by kernel_rfl)) | (with_reducible exact OrdT.of (by kernel_rfl)) | exact True.intro | (with_reducible assumption) | omega | rfl | exact Nat.le_of_ble_eq_true rfl | exact Or.inl trivial | (unfold inI; omega)))))
            refine AW.cond_dec rfl (fun h5 => ?_) (fun h5 => ?_)
            · repeat (first | simp only [go_sem, Nat.reduceLT, Nat.reduceEqDiff, reduceIte, Int.reduceEq, Int.reduceLE, Int.reduceLT, Nat.reduceMul, Nat.reduceAdd, Nat.reduceSub, Int.reduceNeg, Int.reduceAdd, Int.reduceMul, Int.reduceSub, Int.reduceToNat, Nat.reduceLeDiff, Nat.reduceDiv, Int.reduceDiv, reduceCtorEq, Option.some.injEq, exists_eq_left'] | refine AW.seq ?_ | refine AW.block ?_ | refine AW.scope ?_ | refine AW.cond_tt rfl ?_ | refine AW.cond_ff rfl ?_ | refine AW.label ?_ | refine AW.skip ?_ | refine AW.ret ?_ | refine AW.exit ?_ | refine AW.region ?_ | refine AW.draw (by kernel_rfl) (by decide +kernel) ?_ | refine AW.drawN (by kernel_rfl) (by decide +kernel) ?_ | ((with_reducible refine And.intro ?_ ?_); (focus ((repeat' (with_reducible apply And.intro)) <;> first | (with_reducible exact OrdAt.of (by kernel_rfl)) | (with_reducible exact OrdT.of (by kernel_rfl)) | exact True.intro | (with_reducible assumption) | omega | rfl | exact Nat.le_of_ble_eq_true rfl | exact Or.inl trivial | (unfold inI; omega)))))
              rw [Qof_lp]
              refine ⟨ts10i l more m d (j + 1), ?_, ⟨j + 1, by omega, fun p hp => ?_, rfl⟩, ?_⟩
              · simp only [ts10i]; exact (Sub.same (by first | exact Nat.zero_le _ | exact Nat.le_refl _ | decide | omega) rfl rfl (by simp) (by simp [lab, labL, ren, renL, look_cons, renL_bys, labL_bys, renL_mapu8, labL_mapu8, renL_mapu32, labL_mapu32]) (by simp [labO, renO, lab, labL, ren, renL, look_cons, renL_bys, labL_bys, renL_mapu8, labL_mapu8, renL_mapu32, labL_mapu32]))
              · by_cases e : p = j
                · subst e; exact h5
                · exact hu p (by omega)
              · simp [slotN, ts10i, look_cons]; omega
            repeat (first | simp only [go_sem, Nat.reduceLT, Nat.reduceEqDiff, reduceIte, Int.reduceEq, Int.reduceLE, Int.reduceLT, Nat.reduceMul, Nat.reduceAdd, Nat.reduceSub, Int.reduceNeg, Int.reduceAdd, Int.reduceMul, Int.reduceSub, Int.reduceToNat, Nat.reduceLeDiff, Nat.reduceDiv, Int.reduceDiv, reduceCtorEq, Option.some.injEq, exists_eq_left'] | refine AW.seq ?_ | refine AW.block ?_ | refine AW.scope ?_ | refine AW.cond_tt rfl ?_ | refine AW.cond_ff rfl ?_ | refine AW.label ?_ | refine AW.skip ?_ | refine AW.ret ?_ | refine AW.exit ?_ | refine AW.region ?_ | refine AW.draw (by kernel_rfl) (by decide +kernel) ?_ | refine AW.drawN (by kernel_rfl) (by decide +kernel) ?_ | ((with_reducible refine And.intro ?_ ?_); (focus ((repeat' (with_reducible apply And.intro)) <;> first | (with_reducible exact OrdAt.of (by kernel_rfl)) | (with_reducible exact OrdT.of (by kernel_rfl)) | exact True.intro | (with_reducible assumption) | omega | rfl | exact Nat.le_of_ble_eq_true rfl | exact Or.inl trivial | (unfold inI; omega)))))
            have hp := posOf_eq hj hu (fun _ => h5)
            have hins : insK d x = insAt d j x := by rw [insK, hp]
            have hA := flat_len (all64_take hd j)
            rw [List.length_take, Nat.min_eq_left hj] at hA
            have hB := flat_len (all64_drop hd j)
            rw [List.length_drop] at hB
            have ft := flat_take hd hj
            have fd := flat_drop hd hj
            have en : ((d.length : Int) - (j : Int)).toNat = d.length - j := by omega
            have e7 : List.take ((d.length - j) * 64) (d.drop j).flatten = (d.drop j).flatten := List.take_of_length_le (by omega)
            repeat (first | simp only [go_sem, Nat.reduceLT, Nat.reduceEqDiff, reduceIte, Int.reduceEq, Int.reduceLE, Int.reduceLT, Nat.reduceMul, Nat.reduceAdd, Nat.reduceSub, Int.reduceNeg, Int.reduceAdd, Int.reduceMul, Int.reduceSub, Int.reduceToNat, Nat.reduceLeDiff, Nat.reduceDiv, Int.reduceDiv, reduceCtorEq, Option.some.injEq, exists_eq_left', List.length_map, List.length_set, List.length_replicate, List.length_drop, List.length_take, List.length_append, List.drop_zero, List.take_of_length_le, Nat.le_refl, Nat.sub_zero, splice_all, row_u8, splice_u8, wrap_u64c, el, hfl, h64, hx, en, fd, e7] | refine AW.seq ?_ | refine AW.block ?_ | refine AW.scope ?_ | refine AW.cond_tt rfl ?_ | refine AW.cond_ff rfl ?_ | refine AW.label ?_ | refine AW.skip ?_ | refine AW.ret ?_ | refine AW.exit ?_ | refine AW.region ?_ | refine AW.draw (by kernel_rfl) (by decide +kernel) ?_ | refine AW.drawN (by kernel_rfl) (by decide +kernel) ?_ | ((with_reducible refine And.intro ?_ ?_); (focus ((repeat' (with_reducible apply And.intro)) <;> first | (with_reducible exact OrdAt.of (by kernel_rfl)) | (with_reducible exact OrdT.of (by kernel_rfl)) | exact True.intro | (with_reducible assumption) | omega | rfl | exact Nat.le_of_ble_eq_true rfl | exact Or.inl trivial | (unfold inI; omega)))))
            repeat (first | simp only [go_sem, Nat.reduceLT, Nat.reduceEqDiff, reduceIte, Int.reduceEq, Int.reduceLE, Int.reduceLT, Nat.reduceMul, Nat.reduceAdd, Nat.reduceSub, Int.reduceNeg, Int.reduceAdd, Int.reduceMul, Int.reduceSub, Int.reduceToNat, Nat.reduceLeDiff, Nat.reduceDiv, Int.reduceDiv, reduceCtorEq, Option.some.injEq, exists_eq_left', List.length_map, List.length_set, List.length_replicate, List.length_drop, List.length_take, List.length_append, List.drop_zero, List.take_of_length_le, Nat.le_refl, Nat.sub_zero, splice_all, row_u8, splice_u8, wrap_u64c, el, hfl, h64, hx, en, ft, fd, e7, List.nil_append] | refine AW.seq ?_ | refine AW.block ?_ | refine AW.scope ?_ | refine AW.cond_tt rfl ?_ | refine AW.cond_ff rfl ?_ | refine AW.label ?_ | refine AW.skip ?_ | refine AW.ret ?_ | refine AW.exit ?_ | refine AW.region ?_ | refine AW.draw (by kernel_rfl) (by decide +kernel) ?_ | refine AW.drawN (by kernel_rfl) (by decide +kernel) ?_ | ((with_reducible refine And.intro ?_ ?_); (focus ((repeat' (with_reducible apply And.intro)) <;> first | (with_reducible exact OrdAt.of (by kernel_rfl)) | (with_reducible exact OrdT.of (by kernel_rfl)) | exact True.intro | (with_reducible assumption) | omega | rfl | exact Nat.le_of_ble_eq_true rfl | exact Or.inl trivial | (unfold inI; omega)))))
            have h64' : all64 (insK d x) := insK_64 hd hx
            have hsr' : Srt (insK d x) := insK_srt hsr hf
            have hil := insK_len d x
            have ecs : bys (insK d x).flatten = bys (d.take j).flatten ++ (x.map u8 ++ bys (d.drop j).flatten) := by
              rw [hins, insAt_flat, ← bys_app, ← bys_app]; rfl
            have eln : (insK d x).length = j + (1 + (d.length - j)) := by omega
            rw [Qof_lp]
            refine ⟨ts10 l more (m + 1) (insK d x), ?_, ⟨m + 1, insK d x, by omega, h64', hsr', by omega, hg, rfl⟩, ?_⟩
            · simp only [ts10, ecs, eln]
              refine Sub.of (fun l => if l = 0 then 5 else l + 10) (fun l h => absurd h (Nat.not_lt_zero l)) (by intro l l' h h' e; dsimp only at *; split at e <;> split at e <;> omega) (Nat.zero_le _) rfl rfl (by simp) ?_ ?_
              · simp [lab, labL, ren, renL, look_cons, renL_bys, labL_bys, renL_mapu8, labL_mapu8, ← ecs]
              · simp [labO, renO, look_cons]
            · simp [slotN, ts10, look_cons]; omega
          · have hj' : j = d.length := by omega
            repeat (first | simp only [go_sem, Nat.reduceLT, Nat.reduceEqDiff, reduceIte, Int.reduceEq, Int.reduceLE, Int.reduceLT, Nat.reduceMul, Nat.reduceAdd, Nat.reduceSub, Int.reduceNeg, Int.reduceAdd, Int.reduceMul, Int.reduceSub, Int.reduceToNat, Nat.reduceLeDiff, Nat.reduceDiv, Int.reduceDiv, reduceCtorEq, Option.some.injEq, exists_eq_left'] | refine AW.seq ?_ | refine AW.block ?_ | refine AW.scope ?_ | refine AW.cond_tt rfl ?_ | refine AW.cond_ff rfl ?_ | refine AW.label ?_ | refine AW.skip ?_ | refine AW.ret ?_ | refine AW.exit ?_ | refine AW.region ?_ | refine AW.draw (by kernel_rfl) (by decide +kernel) ?_ | refine AW.drawN (by kernel_rfl) (by decide +kernel) ?_ | ((with_reducible refine And.intro ?_ ?_); (focus ((repeat' (with_reducible apply And.intro)) <;> first | (with_reducible exact OrdAt.of (by kernel_rfl)) | (with_reducible exact OrdT.of (by kernel_rfl)) | exact True.intro | (with_reducible assumption) | omega | rfl | exact Nat.le_of_ble_eq_true rfl | exact Or.inl trivial | (unfold inI; omega)))))
            have hp := posOf_eq hj hu (fun h => absurd h (by omega))
            have hins : insK d x = insAt d j x := by rw [insK, hp]
            have hA := flat_len (all64_take hd j)
            rw [List.length_take, Nat.min_eq_left hj] at hA
            have hB := flat_len (all64_drop hd j)
            rw [List.length_drop] at hB
            have ft := flat_take hd hj
            have fd := flat_drop hd hj
            have hfd := flat_len hd
            have en : ((d.length : Int) - (j : Int)).toNat = d.length - j := by omega
            have e7 : List.take ((d.length - j) * 64) (d.drop j).flatten = (d.drop j).flatten := List.take_of_length_le (by omega)
            repeat (first | simp only [go_sem, Nat.reduceLT, Nat.reduceEqDiff, reduceIte, Int.reduceEq, Int.reduceLE, Int.reduceLT, Nat.reduceMul, Nat.reduceAdd, Nat.reduceSub, Int.reduceNeg, Int.reduceAdd, Int.reduceMul, Int.reduceSub, Int.reduceToNat, Nat.reduceLeDiff, Nat.reduceDiv, Int.reduceDiv, reduceCtorEq, Option.some.injEq, exists_eq_left', List.length_map, List.length_set, List.length_replicate, List.length_drop, List.length_take, List.length_append, List.drop_zero, List.take_of_length_le, Nat.le_refl, Nat.sub_zero, splice_all, row_u8, splice_u8, wrap_u64c, el, hfl, h64, hx, en, fd, e7] | refine AW.seq ?_ | refine AW.block ?_ | refine AW.scope ?_ | refine AW.cond_tt rfl ?_ | refine AW.cond_ff rfl ?_ | refine AW.label ?_ | refine AW.skip ?_ | refine AW.ret ?_ | refine AW.exit ?_ | refine AW.region ?_ | refine AW.draw (by kernel_rfl) (by decide +kernel) ?_ | refine AW.drawN (by kernel_rfl) (by decide +kernel) ?_ | ((with_reducible refine And.intro ?_ ?_); (focus ((repeat' (with_reducible apply And.intro)) <;> first | (with_reducible exact OrdAt.of (by kernel_rfl)) | (with_reducible exact OrdT.of (by kernel_rfl)) | exact True.intro | (with_reducible assumption) | omega | rfl | exact Nat.le_of_ble_eq_true rfl | exact Or.inl trivial | (unfold inI; omega)))))
            repeat (first | simp only [go_sem, Nat.reduceLT, Nat.reduceEqDiff, reduceIte, Int.reduceEq, Int.reduceLE, Int.reduceLT, Nat.reduceMul, Nat.reduceAdd, Nat.reduceSub, Int.reduceNeg, Int.reduceAdd, Int.reduceMul, Int.reduceSub, Int.reduceToNat, Nat.reduceLeDiff, Nat.reduceDiv, Int.reduceDiv, reduceCtorEq, Option.some.injEq, exists_eq_left', List.length_map, List.length_set, List.length_replicate, List.length_drop, List.length_take, List.length_append, List.drop_zero, List.take_of_length_le, Nat.le_refl, Nat.sub_zero, splice_all, row_u8, splice_u8, wrap_u64c, el, hfl, h64, hx, en, ft, fd, e7, List.nil_append] | refine AW.seq ?_ | refine AW.block ?_ | refine AW.scope ?_ | refine AW.cond_tt rfl ?_ | refine AW.cond_ff rfl ?_ | refine AW.label ?_ | refine AW.skip ?_ | refine AW.ret ?_ | refine AW.exit ?_ | refine AW.region ?_ | refine AW.draw (by kernel_rfl) (by decide +kernel) ?_ | refine AW.drawN (by kernel_rfl) (by decide +kernel) ?_ | ((with_reducible refine And.intro ?_ ?_); (focus ((repeat' (with_reducible apply And.intro)) <;> first | (with_reducible exact OrdAt.of (by kernel_rfl)) | (with_reducible exact OrdT.of (by kernel_rfl)) | exact True.intro | (with_reducible assumption) | omega | rfl | exact Nat.le_of_ble_eq_true rfl | exact Or.inl trivial | (unfold inI; omega)))))
            have h64' : all64 (insK d x) := insK_64 hd hx
            have hsr' : Srt (insK d x) := insK_srt hsr hf
            have hil := insK_len d x
            have ecs : bys (insK d x).flatten = bys (d.take j).flatten ++ (x.map u8 ++ bys (d.drop j).flatten) := by
              rw [hins, insAt_flat, ← bys_app, ← bys_app]; rfl
            have eln : (insK d x).length = j + (1 + (d.length - j)) := by omega
            rw [Qof_lp]
            refine ⟨ts10 l more (m + 1) (insK d x), ?_, ⟨m + 1, insK d x, by omega, h64', hsr', by omega, hg, rfl⟩, ?_⟩
            · simp only [ts10, ecs, eln]
              refine Sub.of (fun l => if l = 0 then 5 else l + 10) (fun l h => absurd h (Nat.not_lt_zero l)) (by intro l l' h h' e; dsimp only at *; split at e <;> split at e <;> omega) (Nat.zero_le _) rfl rfl (by simp) ?_ ?_
              · simp [lab, labL, ren, renL, look_cons, renL_bys, labL_bys, renL_mapu8, labL_mapu8, ← ecs]
              · simp [labO, renO, look_cons]
            · simp [slotN, ts10, look_cons]; omega
      · rw [hf, if_pos rfl] at hg
        repeat (first | simp only [go_sem, Nat.reduceLT, Nat.reduceEqDiff, reduceIte, Int.reduceEq, Int.reduceLE, Int.reduceLT, Nat.reduceMul, Nat.reduceAdd, Nat.reduceSub, Int.reduceNeg, Int.reduceAdd, Int.reduceMul, Int.reduceSub, Int.reduceToNat, Nat.reduceLeDiff, Nat.reduceDiv, Int.reduceDiv, reduceCtorEq, Option.some.injEq, exists_eq_left'] | refine AW.seq ?_ | refine AW.block ?_ | refine AW.scope ?_ | refine AW.cond_tt rfl ?_ | refine AW.cond_ff rfl ?_ | refine AW.label ?_ | refine AW.skip ?_ | refine AW.ret ?_ | refine AW.exit ?_ | refine AW.region ?_ | refine AW.draw (by kernel_rfl) (by decide +kernel) ?_ | refine AW.drawN (by kernel_rfl) (by decide +kernel) ?_ | ((with_reducible refine And.intro ?_ ?_); (focus ((repeat' (with_reducible apply And.intro)) <;> first | (with_reducible exact OrdAt.of (by kernel_rfl)) | (with_reducible exact OrdT.of (by kernel_rfl)) | exact True.intro | (with_reducible assumption) | omega | rfl | exact Nat.le_of_ble_eq_true rfl | exact Or.inl trivial | (unfold inI; omega)))))
        simp only [tpD, tpE, hck, if_true, hg]
        exact Wk.refl _
    · have hdr : more.drop m = [] := List.drop_eq_nil_of_le (by omega)
      rw [hdr] at hg
      simp only [tpG] at hg
      repeat (first | simp only [go_sem, Nat.reduceLT, Nat.reduceEqDiff, reduceIte, Int.reduceEq, Int.reduceLE, Int.reduceLT, Nat.reduceMul, Nat.reduceAdd, Nat.reduceSub, Int.reduceNeg, Int.reduceAdd, Int.reduceMul, Int.reduceSub, Int.reduceToNat, Nat.reduceLeDiff, Nat.reduceDiv, Int.reduceDiv, reduceCtorEq, Option.some.injEq, exists_eq_left'] | refine AW.seq ?_ | refine AW.block ?_ | refine AW.scope ?_ | refine AW.cond_tt rfl ?_ | refine AW.cond_ff rfl ?_ | refine AW.label ?_ | refine AW.skip ?_ | refine AW.ret ?_ | refine AW.exit ?_ | refine AW.region ?_ | refine AW.draw (by kernel_rfl) (by decide +kernel) ?_ | refine AW.drawN (by kernel_rfl) (by decide +kernel) ?_ | ((with_reducible refine And.intro ?_ ?_); (focus ((repeat' (with_reducible apply And.intro)) <;> first | (with_reducible exact OrdAt.of (by kernel_rfl)) | (with_reducible exact OrdT.of (by kernel_rfl)) | exact True.intro | (with_reducible assumption) | omega | rfl | exact Nat.le_of_ble_eq_true rfl | exact Or.inl trivial | (unfold inI; omega)))))
      simp only [tpD, tpE, hck, if_true, hg]
      exact Wk.refl _
  · have hck' : chk l = false := by simpa using hck
    simp only [hck', Bool.not_false]
    repeat (first | simp only [go_sem, Nat.reduceLT, Nat.reduceEqDiff, reduceIte, Int.reduceEq, Int.reduceLE, Int.reduceLT, Nat.reduceMul, Nat.reduceAdd, Nat.reduceSub, Int.reduceNeg, Int.reduceAdd, Int.reduceMul, Int.reduceSub, Int.reduceToNat, Nat.reduceLeDiff, Nat.reduceDiv, Int.reduceDiv, reduceCtorEq, Option.some.injEq, exists_eq_left'] | refine AW.seq ?_ | refine AW.block ?_ | refine AW.scope ?_ | refine AW.cond_tt rfl ?_ | refine AW.cond_ff rfl ?_ | refine AW.label ?_ | refine AW.skip ?_ | refine AW.ret ?_ | refine AW.exit ?_ | refine AW.region ?_ | refine AW.draw (by kernel_rfl) (by decide +kernel) ?_ | refine AW.drawN (by kernel_rfl) (by decide +kernel) ?_ | ((with_reducible refine And.intro ?_ ?_); (focus ((repeat' (with_reducible apply And.intro)) <;> first | (with_reducible exact OrdAt.of (by kernel_rfl)) | (with_reducible exact OrdT.of (by kernel_rfl)) | exact True.intro | (with_reducible assumption) | omega | rfl | exact Nat.le_of_ble_eq_true rfl | exact Or.inl trivial | (unfold inI; omega)))))
    simp only [tpD, tpE, hck', Bool.false_eq_true, if_false]
    exact Wk.refl _
end Go.Proofs.YtpknjecfloglgaaDoor

