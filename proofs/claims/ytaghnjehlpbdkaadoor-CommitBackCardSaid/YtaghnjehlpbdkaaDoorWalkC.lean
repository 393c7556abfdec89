/- What commit and its document compute, function by function; conditions on lengths alone. -/
import Derived.Test.YtaghnjehlpbdkaaDoorWalkB
set_option linter.unusedVariables false
set_option linter.unusedSimpArgs false
namespace Go.Proofs.YtaghnjehlpbdkaaDoor
open Go Go.Eng Go.Proofs
set_option maxRecDepth 100000
set_option maxHeartbeats 1000000
set_option linter.unusedSimpArgs false
set_option linter.unusedVariables false
/-- an item's cells -/
abbrev itC (l : List UInt8) (n : Int) (v : List UInt8) : List AV := [.sl 1 (bys l) l.length none, int n, .sl 1 (bys v) v.length none]
def chkBad (l : List UInt8) (n : Int) (v : List UInt8) : Prop := 32 < l.length ∨ 64 < v.length ∨ n < 1 ∨ 2147483647 < n
instance (l : List UInt8) (n : Int) (v : List UInt8) : Decidable (chkBad l n v) := by unfold chkBad; infer_instance
def chkE (l : List UInt8) (n : Int) (v : List UInt8) : Int := if chkBad l n v then 100 else 0
theorem chk_bad {l : List UInt8} {n : Int} {v : List UInt8} (h : chkBad l n v) : chkE l n v = 100 := if_pos h
theorem chk_ok {l : List UInt8} {n : Int} {v : List UInt8} (h : ¬ chkBad l n v) : chkE l n v = 0 := if_neg h
theorem f19 (l : List UInt8) (n : Int) (v : List UInt8) : AFun Tryd.prog 19 [.agg (itC l n v)] (int (chkE l n v)) := by
  refine AFun.enter Tryd.func19 rfl Tryd.call19 (by simp [Tryd.ntmps19]) fun γ1 => ?_
  simp only [frameOf, Tryd.ntmps19]
  repeat (first | simp only [go_sem, Nat.reduceLT, Nat.reduceEqDiff, reduceIte, Int.reduceEq, Int.reduceLE, Int.reduceLT, Nat.reduceMul, Nat.reduceAdd, Nat.reduceSub, Int.reduceNeg, Int.reduceAdd, Int.reduceMul, Int.reduceSub, Int.reduceToNat, Nat.reduceLeDiff, Nat.reduceDiv, Int.reduceDiv, reduceCtorEq, Option.some.injEq, exists_eq_left'] | refine AW.seq ?_ | refine AW.block ?_ | refine AW.scope ?_ | refine AW.cond_tt rfl ?_ | refine AW.cond_ff rfl ?_ | refine AW.label ?_ | refine AW.skip ?_ | refine AW.ret ?_ | refine AW.exit ?_ | refine AW.region ?_ | refine AW.draw (by kernel_rfl) (by decide +kernel) ?_ | refine AW.drawN (by kernel_rfl) (by decide +kernel) ?_ | ((with_reducible refine And.intro ?_ ?_); (focus ((repeat' (with_reducible apply And.intro)) <;> first | (with_reducible exact OrdAt.of (by kernel_rfl)) | (with_reducible exact OrdT.of (by kernel_rfl)) | exact True.intro | (with_reducible assumption) | omega | rfl | exact Nat.le_of_ble_eq_true rfl | (unfold inI; omega)))))
  refine exG_decf (fun h1 => ?_) (fun h1 => ?_)
  · repeat (first | simp only [go_sem, Nat.reduceLT, Nat.reduceEqDiff, reduceIte, Int.reduceEq, Int.reduceLE, Int.reduceLT, Nat.reduceMul, Nat.reduceAdd, Nat.reduceSub, Int.reduceNeg, Int.reduceAdd, Int.reduceMul, Int.reduceSub, Int.reduceToNat, Nat.reduceLeDiff, Nat.reduceDiv, Int.reduceDiv, reduceCtorEq, Option.some.injEq, exists_eq_left'] | refine AW.seq ?_ | refine AW.block ?_ | refine AW.scope ?_ | refine AW.cond_tt rfl ?_ | refine AW.cond_ff rfl ?_ | refine AW.label ?_ | refine AW.skip ?_ | refine AW.ret ?_ | refine AW.exit ?_ | refine AW.region ?_ | refine AW.draw (by kernel_rfl) (by decide +kernel) ?_ | refine AW.drawN (by kernel_rfl) (by decide +kernel) ?_ | ((with_reducible refine And.intro ?_ ?_); (focus ((repeat' (with_reducible apply And.intro)) <;> first | (with_reducible exact OrdAt.of (by kernel_rfl)) | (with_reducible exact OrdT.of (by kernel_rfl)) | exact True.intro | (with_reducible assumption) | omega | rfl | exact Nat.le_of_ble_eq_true rfl | (unfold inI; omega)))))
    refine AW.cond_dec rfl (fun h2 => ?_) (fun h2 => ?_)
    · repeat (first | simp only [go_sem, Nat.reduceLT, Nat.reduceEqDiff, reduceIte, Int.reduceEq, Int.reduceLE, Int.reduceLT, Nat.reduceMul, Nat.reduceAdd, Nat.reduceSub, Int.reduceNeg, Int.reduceAdd, Int.reduceMul, Int.reduceSub, Int.reduceToNat, Nat.reduceLeDiff, Nat.reduceDiv, Int.reduceDiv, reduceCtorEq, Option.some.injEq, exists_eq_left'] | refine AW.seq ?_ | refine AW.block ?_ | refine AW.scope ?_ | refine AW.cond_tt rfl ?_ | refine AW.cond_ff rfl ?_ | refine AW.label ?_ | refine AW.skip ?_ | refine AW.ret ?_ | refine AW.exit ?_ | refine AW.region ?_ | refine AW.draw (by kernel_rfl) (by decide +kernel) ?_ | refine AW.drawN (by kernel_rfl) (by decide +kernel) ?_ | ((with_reducible refine And.intro ?_ ?_); (focus ((repeat' (with_reducible apply And.intro)) <;> first | (with_reducible exact OrdAt.of (by kernel_rfl)) | (with_reducible exact OrdT.of (by kernel_rfl)) | exact True.intro | (with_reducible assumption) | omega | rfl | exact Nat.le_of_ble_eq_true rfl | (unfold inI; omega)))))
      rw [chk_bad (.inr (.inl (by omega)))]
    · repeat (first | simp only [go_sem, Nat.reduceLT, Nat.reduceEqDiff, reduceIte, Int.reduceEq, Int.reduceLE, Int.reduceLT, Nat.reduceMul, Nat.reduceAdd, Nat.reduceSub, Int.reduceNeg, Int.reduceAdd, Int.reduceMul, Int.reduceSub, Int.reduceToNat, Nat.reduceLeDiff, Nat.reduceDiv, Int.reduceDiv, reduceCtorEq, Option.some.injEq, exists_eq_left'] | refine AW.seq ?_ | refine AW.block ?_ | refine AW.scope ?_ | refine AW.cond_tt rfl ?_ | refine AW.cond_ff rfl ?_ | refine AW.label ?_ | refine AW.skip ?_ | refine AW.ret ?_ | refine AW.exit ?_ | refine AW.region ?_ | refine AW.draw (by kernel_rfl) (by decide +kernel) ?_ | refine AW.drawN (by kernel_rfl) (by decide +kernel) ?_ | ((with_reducible refine And.intro ?_ ?_); (focus ((repeat' (with_reducible apply And.intro)) <;> first | (with_reducible exact OrdAt.of (by kernel_rfl)) | (with_reducible exact OrdT.of (by kernel_rfl)) | exact True.intro | (with_reducible assumption) | omega | rfl | exact Nat.le_of_ble_eq_true rfl | (unfold inI; omega)))))
      refine exG_decf (fun h3 => ?_) (fun h3 => ?_)
      · repeat (first | simp only [go_sem, Nat.reduceLT, Nat.reduceEqDiff, reduceIte, Int.reduceEq, Int.reduceLE, Int.reduceLT, Nat.reduceMul, Nat.reduceAdd, Nat.reduceSub, Int.reduceNeg, Int.reduceAdd, Int.reduceMul, Int.reduceSub, Int.reduceToNat, Nat.reduceLeDiff, Nat.reduceDiv, Int.reduceDiv, reduceCtorEq, Option.some.injEq, exists_eq_left'] | refine AW.seq ?_ | refine AW.block ?_ | refine AW.scope ?_ | refine AW.cond_tt rfl ?_ | refine AW.cond_ff rfl ?_ | refine AW.label ?_ | refine AW.skip ?_ | refine AW.ret ?_ | refine AW.exit ?_ | refine AW.region ?_ | refine AW.draw (by kernel_rfl) (by decide +kernel) ?_ | refine AW.drawN (by kernel_rfl) (by decide +kernel) ?_ | ((with_reducible refine And.intro ?_ ?_); (focus ((repeat' (with_reducible apply And.intro)) <;> first | (with_reducible exact OrdAt.of (by kernel_rfl)) | (with_reducible exact OrdT.of (by kernel_rfl)) | exact True.intro | (with_reducible assumption) | omega | rfl | exact Nat.le_of_ble_eq_true rfl | (unfold inI; omega)))))
        refine AW.cond_dec rfl (fun h4 => ?_) (fun h4 => ?_)
        · repeat (first | simp only [go_sem, Nat.reduceLT, Nat.reduceEqDiff, reduceIte, Int.reduceEq, Int.reduceLE, Int.reduceLT, Nat.reduceMul, Nat.reduceAdd, Nat.reduceSub, Int.reduceNeg, Int.reduceAdd, Int.reduceMul, Int.reduceSub, Int.reduceToNat, Nat.reduceLeDiff, Nat.reduceDiv, Int.reduceDiv, reduceCtorEq, Option.some.injEq, exists_eq_left'] | refine AW.seq ?_ | refine AW.block ?_ | refine AW.scope ?_ | refine AW.cond_tt rfl ?_ | refine AW.cond_ff rfl ?_ | refine AW.label ?_ | refine AW.skip ?_ | refine AW.ret ?_ | refine AW.exit ?_ | refine AW.region ?_ | refine AW.draw (by kernel_rfl) (by decide +kernel) ?_ | refine AW.drawN (by kernel_rfl) (by decide +kernel) ?_ | ((with_reducible refine And.intro ?_ ?_); (focus ((repeat' (with_reducible apply And.intro)) <;> first | (with_reducible exact OrdAt.of (by kernel_rfl)) | (with_reducible exact OrdT.of (by kernel_rfl)) | exact True.intro | (with_reducible assumption) | omega | rfl | exact Nat.le_of_ble_eq_true rfl | (unfold inI; omega)))))
          rw [chk_bad (.inr (.inr (.inr (by omega))))]
        · repeat (first | simp only [go_sem, Nat.reduceLT, Nat.reduceEqDiff, reduceIte, Int.reduceEq, Int.reduceLE, Int.reduceLT, Nat.reduceMul, Nat.reduceAdd, Nat.reduceSub, Int.reduceNeg, Int.reduceAdd, Int.reduceMul, Int.reduceSub, Int.reduceToNat, Nat.reduceLeDiff, Nat.reduceDiv, Int.reduceDiv, reduceCtorEq, Option.some.injEq, exists_eq_left'] | refine AW.seq ?_ | refine AW.block ?_ | refine AW.scope ?_ | refine AW.cond_tt rfl ?_ | refine AW.cond_ff rfl ?_ | refine AW.label ?_ | refine AW.skip ?_ | refine AW.ret ?_ | refine AW.exit ?_ | refine AW.region ?_ | refine AW.draw (by kernel_rfl) (by decide +kernel) ?_ | refine AW.drawN (by kernel_rfl) (by decide +kernel) ?_ | ((with_reducible refine And.intro ?_ ?_); (focus ((repeat' (with_reducible apply And.intro)) <;> first | (with_reducible exact OrdAt.of (by kernel_rfl)) | (with_reducible exact OrdT.of (by kernel_rfl)) | exact True.intro | (with_reducible assumption) | omega | rfl | exact Nat.le_of_ble_eq_true rfl | (unfold inI; omega)))))
          rw [chk_ok (by unfold chkBad; omega)]
      · repeat (first | simp only [go_sem, Nat.reduceLT, Nat.reduceEqDiff, reduceIte, Int.reduceEq, Int.reduceLE, Int.reduceLT, Nat.reduceMul, Nat.reduceAdd, Nat.reduceSub, Int.reduceNeg, Int.reduceAdd, Int.reduceMul, Int.reduceSub, Int.reduceToNat, Nat.reduceLeDiff, Nat.reduceDiv, Int.reduceDiv, reduceCtorEq, Option.some.injEq, exists_eq_left'] | refine AW.seq ?_ | refine AW.block ?_ | refine AW.scope ?_ | refine AW.cond_tt rfl ?_ | refine AW.cond_ff rfl ?_ | refine AW.label ?_ | refine AW.skip ?_ | refine AW.ret ?_ | refine AW.exit ?_ | refine AW.region ?_ | refine AW.draw (by kernel_rfl) (by decide +kernel) ?_ | refine AW.drawN (by kernel_rfl) (by decide +kernel) ?_ | ((with_reducible refine And.intro ?_ ?_); (focus ((repeat' (with_reducible apply And.intro)) <;> first | (with_reducible exact OrdAt.of (by kernel_rfl)) | (with_reducible exact OrdT.of (by kernel_rfl)) | exact True.intro | (with_reducible assumption) | omega | rfl | exact Nat.le_of_ble_eq_true rfl | (unfold inI; omega)))))
        rw [chk_bad (.inr (.inr (.inl (by omega))))]
  · repeat (first | simp only [go_sem, Nat.reduceLT, Nat.reduceEqDiff, reduceIte, Int.reduceEq, Int.reduceLE, Int.reduceLT, Nat.reduceMul, Nat.reduceAdd, Nat.reduceSub, Int.reduceNeg, Int.reduceAdd, Int.reduceMul, Int.reduceSub, Int.reduceToNat, Nat.reduceLeDiff, Nat.reduceDiv, Int.reduceDiv, reduceCtorEq, Option.some.injEq, exists_eq_left'] | refine AW.seq ?_ | refine AW.block ?_ | refine AW.scope ?_ | refine AW.cond_tt rfl ?_ | refine AW.cond_ff rfl ?_ | refine AW.label ?_ | refine AW.skip ?_ | refine AW.ret ?_ | refine AW.exit ?_ | refine AW.region ?_ | refine AW.draw (by kernel_rfl) (by decide +kernel) ?_ | refine AW.drawN (by kernel_rfl) (by decide +kernel) ?_ | ((with_reducible refine And.intro ?_ ?_); (focus ((repeat' (with_reducible apply And.intro)) <;> first | (with_reducible exact OrdAt.of (by kernel_rfl)) | (with_reducible exact OrdT.of (by kernel_rfl)) | exact True.intro | (with_reducible assumption) | omega | rfl | exact Nat.le_of_ble_eq_true rfl | (unfold inI; omega)))))
    rw [chk_bad (.inl (by omega))]
theorem f20 (l : List UInt8) (n : Int) (v : List UInt8) : AFun Tryd.prog 20 [.agg (itC l n v)] (int (chkE l n v)) := by
  refine AFun.enter Tryd.func20 rfl Tryd.call20 (by simp [Tryd.ntmps20]) fun γ1 => ?_
  simp only [frameOf, Tryd.ntmps20]
  repeat (first | simp only [go_sem, Nat.reduceLT, Nat.reduceEqDiff, reduceIte, Int.reduceEq, Int.reduceLE, Int.reduceLT, Nat.reduceMul, Nat.reduceAdd, Nat.reduceSub, Int.reduceNeg, Int.reduceAdd, Int.reduceMul, Int.reduceSub, Int.reduceToNat, Nat.reduceLeDiff, Nat.reduceDiv, Int.reduceDiv, reduceCtorEq, Option.some.injEq, exists_eq_left'] | refine AW.seq ?_ | refine AW.block ?_ | refine AW.scope ?_ | refine AW.cond_tt rfl ?_ | refine AW.cond_ff rfl ?_ | refine AW.label ?_ | refine AW.skip ?_ | refine AW.ret ?_ | refine AW.exit ?_ | refine AW.region ?_ | refine AW.draw (by kernel_rfl) (by decide +kernel) ?_ | refine AW.drawN (by kernel_rfl) (by decide +kernel) ?_ | ((with_reducible refine And.intro ?_ ?_); (focus ((repeat' (with_reducible apply And.intro)) <;> first | (with_reducible exact OrdAt.of (by kernel_rfl)) | (with_reducible exact OrdT.of (by kernel_rfl)) | exact True.intro | (with_reducible assumption) | omega | rfl | exact Nat.le_of_ble_eq_true rfl | (unfold inI; omega)))))
  refine exG_decf (fun h1 => ?_) (fun h1 => ?_)
  · repeat (first | simp only [go_sem, Nat.reduceLT, Nat.reduceEqDiff, reduceIte, Int.reduceEq, Int.reduceLE, Int.reduceLT, Nat.reduceMul, Nat.reduceAdd, Nat.reduceSub, Int.reduceNeg, Int.reduceAdd, Int.reduceMul, Int.reduceSub, Int.reduceToNat, Nat.reduceLeDiff, Nat.reduceDiv, Int.reduceDiv, reduceCtorEq, Option.some.injEq, exists_eq_left'] | refine AW.seq ?_ | refine AW.block ?_ | refine AW.scope ?_ | refine AW.cond_tt rfl ?_ | refine AW.cond_ff rfl ?_ | refine AW.label ?_ | refine AW.skip ?_ | refine AW.ret ?_ | refine AW.exit ?_ | refine AW.region ?_ | refine AW.draw (by kernel_rfl) (by decide +kernel) ?_ | refine AW.drawN (by kernel_rfl) (by decide +kernel) ?_ | ((with_reducible refine And.intro ?_ ?_); (focus ((repeat' (with_reducible apply And.intro)) <;> first | (with_reducible exact OrdAt.of (by kernel_rfl)) | (with_reducible exact OrdT.of (by kernel_rfl)) | exact True.intro | (with_reducible assumption) | omega | rfl | exact Nat.le_of_ble_eq_true rfl | (unfold inI; omega)))))
    refine exG_decf (fun h2 => ?_) (fun h2 => ?_)
    · repeat (first | simp only [go_sem, Nat.reduceLT, Nat.reduceEqDiff, reduceIte, Int.reduceEq, Int.reduceLE, Int.reduceLT, Nat.reduceMul, Nat.reduceAdd, Nat.reduceSub, Int.reduceNeg, Int.reduceAdd, Int.reduceMul, Int.reduceSub, Int.reduceToNat, Nat.reduceLeDiff, Nat.reduceDiv, Int.reduceDiv, reduceCtorEq, Option.some.injEq, exists_eq_left'] | refine AW.seq ?_ | refine AW.block ?_ | refine AW.scope ?_ | refine AW.cond_tt rfl ?_ | refine AW.cond_ff rfl ?_ | refine AW.label ?_ | refine AW.skip ?_ | refine AW.ret ?_ | refine AW.exit ?_ | refine AW.region ?_ | refine AW.draw (by kernel_rfl) (by decide +kernel) ?_ | refine AW.drawN (by kernel_rfl) (by decide +kernel) ?_ | ((with_reducible refine And.intro ?_ ?_); (focus ((repeat' (with_reducible apply And.intro)) <;> first | (with_reducible exact OrdAt.of (by kernel_rfl)) | (with_reducible exact OrdT.of (by kernel_rfl)) | exact True.intro | (with_reducible assumption) | omega | rfl | exact Nat.le_of_ble_eq_true rfl | (unfold inI; omega)))))
      refine exG_decf (fun h3 => ?_) (fun h3 => ?_)
      · repeat (first | simp only [go_sem, Nat.reduceLT, Nat.reduceEqDiff, reduceIte, Int.reduceEq, Int.reduceLE, Int.reduceLT, Nat.reduceMul, Nat.reduceAdd, Nat.reduceSub, Int.reduceNeg, Int.reduceAdd, Int.reduceMul, Int.reduceSub, Int.reduceToNat, Nat.reduceLeDiff, Nat.reduceDiv, Int.reduceDiv, reduceCtorEq, Option.some.injEq, exists_eq_left'] | refine AW.seq ?_ | refine AW.block ?_ | refine AW.scope ?_ | refine AW.cond_tt rfl ?_ | refine AW.cond_ff rfl ?_ | refine AW.label ?_ | refine AW.skip ?_ | refine AW.ret ?_ | refine AW.exit ?_ | refine AW.region ?_ | refine AW.draw (by kernel_rfl) (by decide +kernel) ?_ | refine AW.drawN (by kernel_rfl) (by decide +kernel) ?_ | ((with_reducible refine And.intro ?_ ?_); (focus ((repeat' (with_reducible apply And.intro)) <;> first | (with_reducible exact OrdAt.of (by kernel_rfl)) | (with_reducible exact OrdT.of (by kernel_rfl)) | exact True.intro | (with_reducible assumption) | omega | rfl | exact Nat.le_of_ble_eq_true rfl | (unfold inI; omega)))))
        refine AW.cond_dec rfl (fun h4 => ?_) (fun h4 => ?_)
        · repeat (first | simp only [go_sem, Nat.reduceLT, Nat.reduceEqDiff, reduceIte, Int.reduceEq, Int.reduceLE, Int.reduceLT, Nat.reduceMul, Nat.reduceAdd, Nat.reduceSub, Int.reduceNeg, Int.reduceAdd, Int.reduceMul, Int.reduceSub, Int.reduceToNat, Nat.reduceLeDiff, Nat.reduceDiv, Int.reduceDiv, reduceCtorEq, Option.some.injEq, exists_eq_left'] | refine AW.seq ?_ | refine AW.block ?_ | refine AW.scope ?_ | refine AW.cond_tt rfl ?_ | refine AW.cond_ff rfl ?_ | refine AW.label ?_ | refine AW.skip ?_ | refine AW.ret ?_ | refine AW.exit ?_ | refine AW.region ?_ | refine AW.draw (by kernel_rfl) (by decide +kernel) ?_ | refine AW.drawN (by kernel_rfl) (by decide +kernel) ?_ | ((with_reducible refine And.intro ?_ ?_); (focus ((repeat' (with_reducible apply And.intro)) <;> first | (with_reducible exact OrdAt.of (by kernel_rfl)) | (with_reducible exact OrdT.of (by kernel_rfl)) | exact True.intro | (with_reducible assumption) | omega | rfl | exact Nat.le_of_ble_eq_true rfl | (unfold inI; omega)))))
          rw [chk_bad (.inr (.inr (.inr (by omega))))]
        · repeat (first | simp only [go_sem, Nat.reduceLT, Nat.reduceEqDiff, reduceIte, Int.reduceEq, Int.reduceLE, Int.reduceLT, Nat.reduceMul, Nat.reduceAdd, Nat.reduceSub, Int.reduceNeg, Int.reduceAdd, Int.reduceMul, Int.reduceSub, Int.reduceToNat, Nat.reduceLeDiff, Nat.reduceDiv, Int.reduceDiv, reduceCtorEq, Option.some.injEq, exists_eq_left'] | refine AW.seq ?_ | refine AW.block ?_ | refine AW.scope ?_ | refine AW.cond_tt rfl ?_ | refine AW.cond_ff rfl ?_ | refine AW.label ?_ | refine AW.skip ?_ | refine AW.ret ?_ | refine AW.exit ?_ | refine AW.region ?_ | refine AW.draw (by kernel_rfl) (by decide +kernel) ?_ | refine AW.drawN (by kernel_rfl) (by decide +kernel) ?_ | ((with_reducible refine And.intro ?_ ?_); (focus ((repeat' (with_reducible apply And.intro)) <;> first | (with_reducible exact OrdAt.of (by kernel_rfl)) | (with_reducible exact OrdT.of (by kernel_rfl)) | exact True.intro | (with_reducible assumption) | omega | rfl | exact Nat.le_of_ble_eq_true rfl | (unfold inI; omega)))))
          rw [chk_ok (by unfold chkBad; omega)]
      · repeat (first | simp only [go_sem, Nat.reduceLT, Nat.reduceEqDiff, reduceIte, Int.reduceEq, Int.reduceLE, Int.reduceLT, Nat.reduceMul, Nat.reduceAdd, Nat.reduceSub, Int.reduceNeg, Int.reduceAdd, Int.reduceMul, Int.reduceSub, Int.reduceToNat, Nat.reduceLeDiff, Nat.reduceDiv, Int.reduceDiv, reduceCtorEq, Option.some.injEq, exists_eq_left'] | refine AW.seq ?_ | refine AW.block ?_ | refine AW.scope ?_ | refine AW.cond_tt rfl ?_ | refine AW.cond_ff rfl ?_ | refine AW.label ?_ | refine AW.skip ?_ | refine AW.ret ?_ | refine AW.exit ?_ | refine AW.region ?_ | refine AW.draw (by kernel_rfl) (by decide +kernel) ?_ | refine AW.drawN (by kernel_rfl) (by decide +kernel) ?_ | ((with_reducible refine And.intro ?_ ?_); (focus ((repeat' (with_reducible apply And.intro)) <;> first | (with_reducible exact OrdAt.of (by kernel_rfl)) | (with_reducible exact OrdT.of (by kernel_rfl)) | exact True.intro | (with_reducible assumption) | omega | rfl | exact Nat.le_of_ble_eq_true rfl | (unfold inI; omega)))))
        rw [chk_bad (.inr (.inr (.inl (by omega))))]
    · repeat (first | simp only [go_sem, Nat.reduceLT, Nat.reduceEqDiff, reduceIte, Int.reduceEq, Int.reduceLE, Int.reduceLT, Nat.reduceMul, Nat.reduceAdd, Nat.reduceSub, Int.reduceNeg, Int.reduceAdd, Int.reduceMul, Int.reduceSub, Int.reduceToNat, Nat.reduceLeDiff, Nat.reduceDiv, Int.reduceDiv, reduceCtorEq, Option.some.injEq, exists_eq_left'] | refine AW.seq ?_ | refine AW.block ?_ | refine AW.scope ?_ | refine AW.cond_tt rfl ?_ | refine AW.cond_ff rfl ?_ | refine AW.label ?_ | refine AW.skip ?_ | refine AW.ret ?_ | refine AW.exit ?_ | refine AW.region ?_ | refine AW.draw (by kernel_rfl) (by decide +kernel) ?_ | refine AW.drawN (by kernel_rfl) (by decide +kernel) ?_ | ((with_reducible refine And.intro ?_ ?_); (focus ((repeat' (with_reducible apply And.intro)) <;> first | (with_reducible exact OrdAt.of (by kernel_rfl)) | (with_reducible exact OrdT.of (by kernel_rfl)) | exact True.intro | (with_reducible assumption) | omega | rfl | exact Nat.le_of_ble_eq_true rfl | (unfold inI; omega)))))
      rw [chk_bad (.inr (.inl (by omega)))]
  · repeat (first | simp only [go_sem, Nat.reduceLT, Nat.reduceEqDiff, reduceIte, Int.reduceEq, Int.reduceLE, Int.reduceLT, Nat.reduceMul, Nat.reduceAdd, Nat.reduceSub, Int.reduceNeg, Int.reduceAdd, Int.reduceMul, Int.reduceSub, Int.reduceToNat, Nat.reduceLeDiff, Nat.reduceDiv, Int.reduceDiv, reduceCtorEq, Option.some.injEq, exists_eq_left'] | refine AW.seq ?_ | refine AW.block ?_ | refine AW.scope ?_ | refine AW.cond_tt rfl ?_ | refine AW.cond_ff rfl ?_ | refine AW.label ?_ | refine AW.skip ?_ | refine AW.ret ?_ | refine AW.exit ?_ | refine AW.region ?_ | refine AW.draw (by kernel_rfl) (by decide +kernel) ?_ | refine AW.drawN (by kernel_rfl) (by decide +kernel) ?_ | ((with_reducible refine And.intro ?_ ?_); (focus ((repeat' (with_reducible apply And.intro)) <;> first | (with_reducible exact OrdAt.of (by kernel_rfl)) | (with_reducible exact OrdT.of (by kernel_rfl)) | exact True.intro | (with_reducible assumption) | omega | rfl | exact Nat.le_of_ble_eq_true rfl | (unfold inI; omega)))))
    rw [chk_bad (.inl (by omega))]
/-- a number in eight bytes; a text's length in two -/
def be8 (n : Int) : List UInt8 := bigE (UInt64.ofNat n.toNat) 8 8
def be2 (n : Nat) : List UInt8 := [UInt8.ofNat (n / 256), UInt8.ofNat n]
def nameT (l : List UInt8) (n : Int) : List UInt8 := [4] ++ be2 l.length ++ l ++ be8 n
def itemT (salt l : List UInt8) (n : Int) (v : List UInt8) : List UInt8 := [5] ++ salt ++ be2 l.length ++ l ++ be8 n ++ be2 v.length ++ v
def nameS (l : List UInt8) (n : Int) : List UInt8 := if chkBad l n [] then [] else nameT l n
def nameE (l : List UInt8) (n : Int) : Int := chkE l n []
def itemS (salt l : List UInt8) (n : Int) (v : List UInt8) : List UInt8 := if chkBad l n v then [] else itemT salt l n v
theorem textS_ok {b t : List UInt8} (h : t.length ≤ 1000) : textS b t = b ++ be2 t.length ++ t ∧ textE t = 0 := by
  rw [textS, textE, if_neg (by omega), if_neg (by omega)]; exact ⟨rfl, rfl⟩
theorem put8_ok {b : List UInt8} {n : UInt64} : putS b n 8 = b ++ bigE n 8 8 ∧ putE n 8 = 0 := by
  have h : ¬ putBad n 8 := by unfold putBad; omega
  rw [putS, putE, if_neg h, if_neg h]; exact ⟨rfl, rfl⟩
theorem conv8 {n : Int} (h : 0 ≤ n) (h2 : n ≤ 2147483647) : n % 18446744073709551616 = ((UInt64.ofNat n.toNat).toNat : Int) := by
  rw [UInt64.toNat_ofNat']; omega
end Go.Proofs.YtaghnjehlpbdkaaDoor

namespace Go.Proofs.YtaghnjehlpbdkaaDoor
open Go Go.Eng Go.Proofs
set_option maxRecDepth 100000
set_option maxHeartbeats 1000000
set_option linter.unusedSimpArgs false
set_option linter.unusedVariables false
theorem wk_it2 (l : List UInt8) (n : Int) : WkL [AV.agg [.sl 1 (bys l) l.length none, int n, nilS]] [AV.agg (itC l n [])] := ⟨Wk.agg ⟨Wk.refl _, Wk.refl _, Wk.nil rfl rfl, trivial⟩, trivial⟩
theorem nres : Wk (AV.tup [nilS, int 100]) (.tup [.sl 1 (bys []) ([] : List UInt8).length none, int 100]) := Wk.tup ⟨Wk.nil rfl rfl, Wk.refl _, trivial⟩
theorem c23 {b t : List UInt8} (hb : b.length ≤ 1000) (ht : t.length ≤ 1000) : AFun Tryd.prog 23 [.sl 1 (bys b) b.length none, .sl 1 (bys t) t.length none] (.tup [.sl 1 (bys (b ++ be2 t.length ++ t)) (b ++ be2 t.length ++ t).length none, int 0]) := by
  have c := f23 b t (by omega) (by omega)
  rwa [(textS_ok (b := b) ht).1, (textS_ok (b := b) ht).2] at c
theorem c25 {b t : List UInt8} (hb : b.length ≤ 1000) (ht : t.length ≤ 1000) : AFun Tryd.prog 25 [.sl 1 (bys b) b.length none, .sl 1 (bys t) t.length none] (.tup [.sl 1 (bys (b ++ be2 t.length ++ t)) (b ++ be2 t.length ++ t).length none, int 0]) := by
  have c := f25 b t (by omega) (by omega)
  rwa [(textS_ok (b := b) ht).1, (textS_ok (b := b) ht).2] at c
theorem c24 {b : List UInt8} (hb : b.length ≤ 2000) (n : Int) : AFun Tryd.prog 24 [.sl 1 (bys b) b.length none, u64 (UInt64.ofNat n.toNat), int 8] (.tup [.sl 1 (bys (b ++ be8 n)) (b ++ be8 n).length none, int 0]) := by
  have c := f24 b (by omega) (UInt64.ofNat n.toNat) 8 (by unfold inI; omega)
  rwa [(put8_ok (b := b)).1, (put8_ok (b := b)).2] at c
theorem c26 {b : List UInt8} (hb : b.length ≤ 2000) (n : Int) : AFun Tryd.prog 26 [.sl 1 (bys b) b.length none, u64 (UInt64.ofNat n.toNat), int 8] (.tup [.sl 1 (bys (b ++ be8 n)) (b ++ be8 n).length none, int 0]) := by
  have c := f26 b (by omega) (UInt64.ofNat n.toNat) 8 (by unfold inI; omega)
  rwa [(put8_ok (b := b)).1, (put8_ok (b := b)).2] at c
theorem f10 (l : List UInt8) (n : Int) : AFun Tryd.prog 10 [.sl 1 (bys l) l.length none, int n] (.tup [.sl 1 (bys (nameS l n)) (nameS l n).length none, int (nameE l n)]) := by
  refine AFun.enterW Tryd.func10 rfl Tryd.call10 (by simp [Tryd.ntmps10]) fun γ1 => ?_
  simp only [frameOf, Tryd.ntmps10]
  have c1 := f19 l n []
  unfold nameE nameS
  by_cases hc : chkBad l n []
  · rw [chk_bad hc] at c1 ⊢
    rw [if_pos hc]
    repeat (first | simp only [go_sem, Nat.reduceLT, Nat.reduceEqDiff, reduceIte, Int.reduceEq, Int.reduceLE, Int.reduceLT, Nat.reduceMul, Nat.reduceAdd, Nat.reduceSub, Int.reduceNeg, Int.reduceAdd, Int.reduceMul, Int.reduceSub, Int.reduceToNat, Nat.reduceLeDiff, Nat.reduceDiv, Int.reduceDiv, reduceCtorEq, Option.some.injEq, exists_eq_left'] | refine AW.seq ?_ | refine AW.block ?_ | refine AW.scope ?_ | refine AW.cond_tt rfl ?_ | refine AW.cond_ff rfl ?_ | refine AW.label ?_ | refine AW.skip ?_ | refine AW.ret ?_ | refine AW.exit ?_ | refine AW.region ?_ | refine AW.draw (by kernel_rfl) (by decide +kernel) ?_ | refine AW.drawN (by kernel_rfl) (by decide +kernel) ?_ | ((with_reducible refine And.intro ?_ ?_); (focus ((repeat' (with_reducible apply And.intro)) <;> first | (with_reducible exact OrdAt.of (by kernel_rfl)) | (with_reducible exact OrdT.of (by kernel_rfl)) | exact True.intro | (with_reducible assumption) | omega | rfl | exact Nat.le_of_ble_eq_true rfl | exact Or.inl trivial | (unfold inI; omega)))))
    refine CallE.memW c1 (wk_it2 l n) (by simp [bor]) (by rfl) ?_
    repeat (first | simp only [go_sem, Nat.reduceLT, Nat.reduceEqDiff, reduceIte, Int.reduceEq, Int.reduceLE, Int.reduceLT, Nat.reduceMul, Nat.reduceAdd, Nat.reduceSub, Int.reduceNeg, Int.reduceAdd, Int.reduceMul, Int.reduceSub, Int.reduceToNat, Nat.reduceLeDiff, Nat.reduceDiv, Int.reduceDiv, reduceCtorEq, Option.some.injEq, exists_eq_left'] | refine AW.seq ?_ | refine AW.block ?_ | refine AW.scope ?_ | refine AW.cond_tt rfl ?_ | refine AW.cond_ff rfl ?_ | refine AW.label ?_ | refine AW.skip ?_ | refine AW.ret ?_ | refine AW.exit ?_ | refine AW.region ?_ | refine AW.draw (by kernel_rfl) (by decide +kernel) ?_ | refine AW.drawN (by kernel_rfl) (by decide +kernel) ?_ | ((with_reducible refine And.intro ?_ ?_); (focus ((repeat' (with_reducible apply And.intro)) <;> first | (with_reducible exact OrdAt.of (by kernel_rfl)) | (with_reducible exact OrdT.of (by kernel_rfl)) | exact True.intro | (with_reducible assumption) | omega | rfl | exact Nat.le_of_ble_eq_true rfl | exact Or.inl trivial | (unfold inI; omega)))))
    exact nres
  · rw [chk_ok hc] at c1 ⊢
    rw [if_neg hc]
    have hc' := hc
    unfold chkBad at hc'
    have e8 := conv8 (n := n) (by omega) (by omega)
    repeat (first | simp only [go_sem, Nat.reduceLT, Nat.reduceEqDiff, reduceIte, Int.reduceEq, Int.reduceLE, Int.reduceLT, Nat.reduceMul, Nat.reduceAdd, Nat.reduceSub, Int.reduceNeg, Int.reduceAdd, Int.reduceMul, Int.reduceSub, Int.reduceToNat, Nat.reduceLeDiff, Nat.reduceDiv, Int.reduceDiv, reduceCtorEq, Option.some.injEq, exists_eq_left'] | refine AW.seq ?_ | refine AW.block ?_ | refine AW.scope ?_ | refine AW.cond_tt rfl ?_ | refine AW.cond_ff rfl ?_ | refine AW.label ?_ | refine AW.skip ?_ | refine AW.ret ?_ | refine AW.exit ?_ | refine AW.region ?_ | refine AW.draw (by kernel_rfl) (by decide +kernel) ?_ | refine AW.drawN (by kernel_rfl) (by decide +kernel) ?_ | ((with_reducible refine And.intro ?_ ?_); (focus ((repeat' (with_reducible apply And.intro)) <;> first | (with_reducible exact OrdAt.of (by kernel_rfl)) | (with_reducible exact OrdT.of (by kernel_rfl)) | exact True.intro | (with_reducible assumption) | omega | rfl | exact Nat.le_of_ble_eq_true rfl | exact Or.inl trivial | (unfold inI; omega)))))
    refine CallE.memW c1 (wk_it2 l n) (by simp [bor]) (by rfl) ?_
    repeat (first | simp only [go_sem, Nat.reduceLT, Nat.reduceEqDiff, reduceIte, Int.reduceEq, Int.reduceLE, Int.reduceLT, Nat.reduceMul, Nat.reduceAdd, Nat.reduceSub, Int.reduceNeg, Int.reduceAdd, Int.reduceMul, Int.reduceSub, Int.reduceToNat, Nat.reduceLeDiff, Nat.reduceDiv, Int.reduceDiv, reduceCtorEq, Option.some.injEq, exists_eq_left'] | refine AW.seq ?_ | refine AW.block ?_ | refine AW.scope ?_ | refine AW.cond_tt rfl ?_ | refine AW.cond_ff rfl ?_ | refine AW.label ?_ | refine AW.skip ?_ | refine AW.ret ?_ | refine AW.exit ?_ | refine AW.region ?_ | refine AW.draw (by kernel_rfl) (by decide +kernel) ?_ | refine AW.drawN (by kernel_rfl) (by decide +kernel) ?_ | ((with_reducible refine And.intro ?_ ?_); (focus ((repeat' (with_reducible apply And.intro)) <;> first | (with_reducible exact OrdAt.of (by kernel_rfl)) | (with_reducible exact OrdT.of (by kernel_rfl)) | exact True.intro | (with_reducible assumption) | omega | rfl | exact Nat.le_of_ble_eq_true rfl | exact Or.inl trivial | (unfold inI; omega)))))
    (first | refine CallE.mem (c23 (b := [4]) (t := l) (by simp) (by omega)) (by first | rfl | (simp only [List.map_cons, List.map_nil, frz_sl, frz_agg8, frz_agg32, frz_vv, frz_hv]; done) | (simp only [List.map_cons, List.map_nil, frz_sl, frz_agg8, frz_agg32, frz_vv, frz_hv]; rfl)) (by simp [bor, look_cons, isBox]) (by rfl) ?_ | refine CallXE.mem (c23 (b := [4]) (t := l) (by simp) (by omega)) (by first | rfl | (simp only [List.map_cons, List.map_nil, frz_sl, frz_agg8, frz_agg32, frz_vv, frz_hv]; done) | (simp only [List.map_cons, List.map_nil, frz_sl, frz_agg8, frz_agg32, frz_vv, frz_hv]; rfl)) (by simp [bor, look_cons, isBox]) (by rfl) ?_)
    repeat (first | simp only [go_sem, Nat.reduceLT, Nat.reduceEqDiff, reduceIte, Int.reduceEq, Int.reduceLE, Int.reduceLT, Nat.reduceMul, Nat.reduceAdd, Nat.reduceSub, Int.reduceNeg, Int.reduceAdd, Int.reduceMul, Int.reduceSub, Int.reduceToNat, Nat.reduceLeDiff, Nat.reduceDiv, Int.reduceDiv, reduceCtorEq, Option.some.injEq, exists_eq_left', e8] | refine AW.seq ?_ | refine AW.block ?_ | refine AW.scope ?_ | refine AW.cond_tt rfl ?_ | refine AW.cond_ff rfl ?_ | refine AW.label ?_ | refine AW.skip ?_ | refine AW.ret ?_ | refine AW.exit ?_ | refine AW.region ?_ | refine AW.draw (by kernel_rfl) (by decide +kernel) ?_ | refine AW.drawN (by kernel_rfl) (by decide +kernel) ?_ | ((with_reducible refine And.intro ?_ ?_); (focus ((repeat' (with_reducible apply And.intro)) <;> first | (with_reducible exact OrdAt.of (by kernel_rfl)) | (with_reducible exact OrdT.of (by kernel_rfl)) | exact True.intro | (with_reducible assumption) | omega | rfl | exact Nat.le_of_ble_eq_true rfl | exact Or.inl trivial | (unfold inI; omega)))))
    (first | refine CallE.mem (c24 (b := [4] ++ be2 l.length ++ l) (by simp [be2]; omega) n) (by first | rfl | (simp only [List.map_cons, List.map_nil, frz_sl, frz_agg8, frz_agg32, frz_vv, frz_hv]; done) | (simp only [List.map_cons, List.map_nil, frz_sl, frz_agg8, frz_agg32, frz_vv, frz_hv]; rfl)) (by simp [bor, look_cons, isBox]) (by rfl) ?_ | refine CallXE.mem (c24 (b := [4] ++ be2 l.length ++ l) (by simp [be2]; omega) n) (by first | rfl | (simp only [List.map_cons, List.map_nil, frz_sl, frz_agg8, frz_agg32, frz_vv, frz_hv]; done) | (simp only [List.map_cons, List.map_nil, frz_sl, frz_agg8, frz_agg32, frz_vv, frz_hv]; rfl)) (by simp [bor, look_cons, isBox]) (by rfl) ?_)
    repeat (first | simp only [go_sem, Nat.reduceLT, Nat.reduceEqDiff, reduceIte, Int.reduceEq, Int.reduceLE, Int.reduceLT, Nat.reduceMul, Nat.reduceAdd, Nat.reduceSub, Int.reduceNeg, Int.reduceAdd, Int.reduceMul, Int.reduceSub, Int.reduceToNat, Nat.reduceLeDiff, Nat.reduceDiv, Int.reduceDiv, reduceCtorEq, Option.some.injEq, exists_eq_left'] | refine AW.seq ?_ | refine AW.block ?_ | refine AW.scope ?_ | refine AW.cond_tt rfl ?_ | refine AW.cond_ff rfl ?_ | refine AW.label ?_ | refine AW.skip ?_ | refine AW.ret ?_ | refine AW.exit ?_ | refine AW.region ?_ | refine AW.draw (by kernel_rfl) (by decide +kernel) ?_ | refine AW.drawN (by kernel_rfl) (by decide +kernel) ?_ | ((with_reducible refine And.intro ?_ ?_); (focus ((repeat' (with_reducible apply And.intro)) <;> first | (with_reducible exact OrdAt.of (by kernel_rfl)) | (with_reducible exact OrdT.of (by kernel_rfl)) | exact True.intro | (with_reducible assumption) | omega | rfl | exact Nat.le_of_ble_eq_true rfl | exact Or.inl trivial | (unfold inI; omega)))))
    exact Wk.refl _
theorem f11 (l : List UInt8) (n : Int) : AFun Tryd.prog 11 [.sl 1 (bys l) l.length none, int n] (.tup [.sl 1 (bys (nameS l n)) (nameS l n).length none, int (nameE l n)]) := by
  refine AFun.enterW Tryd.func11 rfl Tryd.call11 (by simp [Tryd.ntmps11]) fun γ1 => ?_
  simp only [frameOf, Tryd.ntmps11]
  have c1 := f20 l n []
  unfold nameE nameS
  by_cases hc : chkBad l n []
  · rw [chk_bad hc] at c1 ⊢
    rw [if_pos hc]
    repeat (first | simp only [go_sem, Nat.reduceLT, Nat.reduceEqDiff, reduceIte, Int.reduceEq, Int.reduceLE, Int.reduceLT, Nat.reduceMul, Nat.reduceAdd, Nat.reduceSub, Int.reduceNeg, Int.reduceAdd, Int.reduceMul, Int.reduceSub, Int.reduceToNat, Nat.reduceLeDiff, Nat.reduceDiv, Int.reduceDiv, reduceCtorEq, Option.some.injEq, exists_eq_left'] | refine AW.seq ?_ | refine AW.block ?_ | refine AW.scope ?_ | refine AW.cond_tt rfl ?_ | refine AW.cond_ff rfl ?_ | refine AW.label ?_ | refine AW.skip ?_ | refine AW.ret ?_ | refine AW.exit ?_ | refine AW.region ?_ | refine AW.draw (by kernel_rfl) (by decide +kernel) ?_ | refine AW.drawN (by kernel_rfl) (by decide +kernel) ?_ | ((with_reducible refine And.intro ?_ ?_); (focus ((repeat' (with_reducible apply And.intro)) <;> first | (with_reducible exact OrdAt.of (by kernel_rfl)) | (with_reducible exact OrdT.of (by kernel_rfl)) | exact True.intro | (with_reducible assumption) | omega | rfl | exact Nat.le_of_ble_eq_true rfl | exact Or.inl trivial | (unfold inI; omega)))))
    refine CallE.memW c1 (wk_it2 l n) (by simp [bor]) (by rfl) ?_
    repeat (first | simp only [go_sem, Nat.reduceLT, Nat.reduceEqDiff, reduceIte, Int.reduceEq, Int.reduceLE, Int.reduceLT, Nat.reduceMul, Nat.reduceAdd, Nat.reduceSub, Int.reduceNeg, Int.reduceAdd, Int.reduceMul, Int.reduceSub, Int.reduceToNat, Nat.reduceLeDiff, Nat.reduceDiv, Int.reduceDiv, reduceCtorEq, Option.some.injEq, exists_eq_left'] | refine AW.seq ?_ | refine AW.block ?_ | refine AW.scope ?_ | refine AW.cond_tt rfl ?_ | refine AW.cond_ff rfl ?_ | refine AW.label ?_ | refine AW.skip ?_ | refine AW.ret ?_ | refine AW.exit ?_ | refine AW.region ?_ | refine AW.draw (by kernel_rfl) (by decide +kernel) ?_ | refine AW.drawN (by kernel_rfl) (by decide +kernel) ?_ | ((with_reducible refine And.intro ?_ ?_); (focus ((repeat' (with_reducible apply And.intro)) <;> first | (with_reducible exact OrdAt.of (by kernel_rfl)) | (with_reducible exact OrdT.of (by kernel_rfl)) | exact True.intro | (with_reducible assumption) | omega | rfl | exact Nat.le_of_ble_eq_true rfl | exact Or.inl trivial | (unfold inI; omega)))))
    exact nres
  · rw [chk_ok hc] at c1 ⊢
    rw [if_neg hc]
    have hc' := hc
    unfold chkBad at hc'
    have e8 := conv8 (n := n) (by omega) (by omega)
    repeat (first | simp only [go_sem, Nat.reduceLT, Nat.reduceEqDiff, reduceIte, Int.reduceEq, Int.reduceLE, Int.reduceLT, Nat.reduceMul, Nat.reduceAdd, Nat.reduceSub, Int.reduceNeg, Int.reduceAdd, Int.reduceMul, Int.reduceSub, Int.reduceToNat, Nat.reduceLeDiff, Nat.reduceDiv, Int.reduceDiv, reduceCtorEq, Option.some.injEq, exists_eq_left'] | refine AW.seq ?_ | refine AW.block ?_ | refine AW.scope ?_ | refine AW.cond_tt rfl ?_ | refine AW.cond_ff rfl ?_ | refine AW.label ?_ | refine AW.skip ?_ | refine AW.ret ?_ | refine AW.exit ?_ | refine AW.region ?_ | refine AW.draw (by kernel_rfl) (by decide +kernel) ?_ | refine AW.drawN (by kernel_rfl) (by decide +kernel) ?_ | ((with_reducible refine And.intro ?_ ?_); (focus ((repeat' (with_reducible apply And.intro)) <;> first | (with_reducible exact OrdAt.of (by kernel_rfl)) | (with_reducible exact OrdT.of (by kernel_rfl)) | exact True.intro | (with_reducible assumption) | omega | rfl | exact Nat.le_of_ble_eq_true rfl | exact Or.inl trivial | (unfold inI; omega)))))
    refine CallE.memW c1 (wk_it2 l n) (by simp [bor]) (by rfl) ?_
    repeat (first | simp only [go_sem, Nat.reduceLT, Nat.reduceEqDiff, reduceIte, Int.reduceEq, Int.reduceLE, Int.reduceLT, Nat.reduceMul, Nat.reduceAdd, Nat.reduceSub, Int.reduceNeg, Int.reduceAdd, Int.reduceMul, Int.reduceSub, Int.reduceToNat, Nat.reduceLeDiff, Nat.reduceDiv, Int.reduceDiv, reduceCtorEq, Option.some.injEq, exists_eq_left'] | refine AW.seq ?_ | refine AW.block ?_ | refine AW.scope ?_ | refine AW.cond_tt rfl ?_ | refine AW.cond_ff rfl ?_ | refine AW.label ?_ | refine AW.skip ?_ | refine AW.ret ?_ | refine AW.exit ?_ | refine AW.region ?_ | refine AW.draw (by kernel_rfl) (by decide +kernel) ?_ | refine AW.drawN (by kernel_rfl) (by decide +kernel) ?_ | ((with_reducible refine And.intro ?_ ?_); (focus ((repeat' (with_reducible apply And.intro)) <;> first | (with_reducible exact OrdAt.of (by kernel_rfl)) | (with_reducible exact OrdT.of (by kernel_rfl)) | exact True.intro | (with_reducible assumption) | omega | rfl | exact Nat.le_of_ble_eq_true rfl | exact Or.inl trivial | (unfold inI; omega)))))
    (first | refine CallE.mem (c25 (b := [4]) (t := l) (by simp) (by omega)) (by first | rfl | (simp only [List.map_cons, List.map_nil, frz_sl, frz_agg8, frz_agg32, frz_vv, frz_hv]; done) | (simp only [List.map_cons, List.map_nil, frz_sl, frz_agg8, frz_agg32, frz_vv, frz_hv]; rfl)) (by simp [bor, look_cons, isBox]) (by rfl) ?_ | refine CallXE.mem (c25 (b := [4]) (t := l) (by simp) (by omega)) (by first | rfl | (simp only [List.map_cons, List.map_nil, frz_sl, frz_agg8, frz_agg32, frz_vv, frz_hv]; done) | (simp only [List.map_cons, List.map_nil, frz_sl, frz_agg8, frz_agg32, frz_vv, frz_hv]; rfl)) (by simp [bor, look_cons, isBox]) (by rfl) ?_)
    repeat (first | simp only [go_sem, Nat.reduceLT, Nat.reduceEqDiff, reduceIte, Int.reduceEq, Int.reduceLE, Int.reduceLT, Nat.reduceMul, Nat.reduceAdd, Nat.reduceSub, Int.reduceNeg, Int.reduceAdd, Int.reduceMul, Int.reduceSub, Int.reduceToNat, Nat.reduceLeDiff, Nat.reduceDiv, Int.reduceDiv, reduceCtorEq, Option.some.injEq, exists_eq_left', e8] | refine AW.seq ?_ | refine AW.block ?_ | refine AW.scope ?_ | refine AW.cond_tt rfl ?_ | refine AW.cond_ff rfl ?_ | refine AW.label ?_ | refine AW.skip ?_ | refine AW.ret ?_ | refine AW.exit ?_ | refine AW.region ?_ | refine AW.draw (by kernel_rfl) (by decide +kernel) ?_ | refine AW.drawN (by kernel_rfl) (by decide +kernel) ?_ | ((with_reducible refine And.intro ?_ ?_); (focus ((repeat' (with_reducible apply And.intro)) <;> first | (with_reducible exact OrdAt.of (by kernel_rfl)) | (with_reducible exact OrdT.of (by kernel_rfl)) | exact True.intro | (with_reducible assumption) | omega | rfl | exact Nat.le_of_ble_eq_true rfl | exact Or.inl trivial | (unfold inI; omega)))))
    (first | refine CallE.mem (c26 (b := [4] ++ be2 l.length ++ l) (by simp [be2]; omega) n) (by first | rfl | (simp only [List.map_cons, List.map_nil, frz_sl, frz_agg8, frz_agg32, frz_vv, frz_hv]; done) | (simp only [List.map_cons, List.map_nil, frz_sl, frz_agg8, frz_agg32, frz_vv, frz_hv]; rfl)) (by simp [bor, look_cons, isBox]) (by rfl) ?_ | refine CallXE.mem (c26 (b := [4] ++ be2 l.length ++ l) (by simp [be2]; omega) n) (by first | rfl | (simp only [List.map_cons, List.map_nil, frz_sl, frz_agg8, frz_agg32, frz_vv, frz_hv]; done) | (simp only [List.map_cons, List.map_nil, frz_sl, frz_agg8, frz_agg32, frz_vv, frz_hv]; rfl)) (by simp [bor, look_cons, isBox]) (by rfl) ?_)
    repeat (first | simp only [go_sem, Nat.reduceLT, Nat.reduceEqDiff, reduceIte, Int.reduceEq, Int.reduceLE, Int.reduceLT, Nat.reduceMul, Nat.reduceAdd, Nat.reduceSub, Int.reduceNeg, Int.reduceAdd, Int.reduceMul, Int.reduceSub, Int.reduceToNat, Nat.reduceLeDiff, Nat.reduceDiv, Int.reduceDiv, reduceCtorEq, Option.some.injEq, exists_eq_left'] | refine AW.seq ?_ | refine AW.block ?_ | refine AW.scope ?_ | refine AW.cond_tt rfl ?_ | refine AW.cond_ff rfl ?_ | refine AW.label ?_ | refine AW.skip ?_ | refine AW.ret ?_ | refine AW.exit ?_ | refine AW.region ?_ | refine AW.draw (by kernel_rfl) (by decide +kernel) ?_ | refine AW.drawN (by kernel_rfl) (by decide +kernel) ?_ | ((with_reducible refine And.intro ?_ ?_); (focus ((repeat' (with_reducible apply And.intro)) <;> first | (with_reducible exact OrdAt.of (by kernel_rfl)) | (with_reducible exact OrdT.of (by kernel_rfl)) | exact True.intro | (with_reducible assumption) | omega | rfl | exact Nat.le_of_ble_eq_true rfl | exact Or.inl trivial | (unfold inI; omega)))))
    exact Wk.refl _
theorem f12 (s : List UInt8) (hs : s.length = 32) (l : List UInt8) (n : Int) (v : List UInt8) : AFun Tryd.prog 12 [.agg (s.map u8), .agg (itC l n v)] (.tup [.sl 1 (bys (itemS s l n v)) (itemS s l n v).length none, int (chkE l n v)]) := by
  refine AFun.enterW Tryd.func12 rfl Tryd.call12 (by simp [Tryd.ntmps12]) fun γ1 => ?_
  simp only [frameOf, Tryd.ntmps12]
  have c1 := f19 l n v
  unfold itemS
  by_cases hc : chkBad l n v
  · rw [chk_bad hc] at c1 ⊢
    rw [if_pos hc]
    repeat (first | simp only [go_sem, Nat.reduceLT, Nat.reduceEqDiff, reduceIte, Int.reduceEq, Int.reduceLE, Int.reduceLT, Nat.reduceMul, Nat.reduceAdd, Nat.reduceSub, Int.reduceNeg, Int.reduceAdd, Int.reduceMul, Int.reduceSub, Int.reduceToNat, Nat.reduceLeDiff, Nat.reduceDiv, Int.reduceDiv, reduceCtorEq, Option.some.injEq, exists_eq_left', List.length_map, List.length_set, List.length_replicate, List.length_drop, List.length_take, List.length_append, List.drop_zero, List.take_of_length_le, Nat.le_refl, Nat.sub_zero, splice_all, row_u8, splice_u8, wrap_u64c, hs] | refine AW.seq ?_ | refine AW.block ?_ | refine AW.scope ?_ | refine AW.cond_tt rfl ?_ | refine AW.cond_ff rfl ?_ | refine AW.label ?_ | refine AW.skip ?_ | refine AW.ret ?_ | refine AW.exit ?_ | refine AW.region ?_ | refine AW.draw (by kernel_rfl) (by decide +kernel) ?_ | refine AW.drawN (by kernel_rfl) (by decide +kernel) ?_ | ((with_reducible refine And.intro ?_ ?_); (focus ((repeat' (with_reducible apply And.intro)) <;> first | (with_reducible exact OrdAt.of (by kernel_rfl)) | (with_reducible exact OrdT.of (by kernel_rfl)) | exact True.intro | (with_reducible assumption) | omega | rfl | exact Nat.le_of_ble_eq_true rfl | exact Or.inl trivial | (unfold inI; omega)))))
    (first | refine CallE.mem (c1) (by first | rfl | (simp only [List.map_cons, List.map_nil, frz_sl, frz_agg8, frz_agg32, frz_vv, frz_hv]; done) | (simp only [List.map_cons, List.map_nil, frz_sl, frz_agg8, frz_agg32, frz_vv, frz_hv]; rfl)) (by simp [bor, look_cons, isBox]) (by rfl) ?_ | refine CallXE.mem (c1) (by first | rfl | (simp only [List.map_cons, List.map_nil, frz_sl, frz_agg8, frz_agg32, frz_vv, frz_hv]; done) | (simp only [List.map_cons, List.map_nil, frz_sl, frz_agg8, frz_agg32, frz_vv, frz_hv]; rfl)) (by simp [bor, look_cons, isBox]) (by rfl) ?_)
    repeat (first | simp only [go_sem, Nat.reduceLT, Nat.reduceEqDiff, reduceIte, Int.reduceEq, Int.reduceLE, Int.reduceLT, Nat.reduceMul, Nat.reduceAdd, Nat.reduceSub, Int.reduceNeg, Int.reduceAdd, Int.reduceMul, Int.reduceSub, Int.reduceToNat, Nat.reduceLeDiff, Nat.reduceDiv, Int.reduceDiv, reduceCtorEq, Option.some.injEq, exists_eq_left'] | refine AW.seq ?_ | refine AW.block ?_ | refine AW.scope ?_ | refine AW.cond_tt rfl ?_ | refine AW.cond_ff rfl ?_ | refine AW.label ?_ | refine AW.skip ?_ | refine AW.ret ?_ | refine AW.exit ?_ | refine AW.region ?_ | refine AW.draw (by kernel_rfl) (by decide +kernel) ?_ | refine AW.drawN (by kernel_rfl) (by decide +kernel) ?_ | ((with_reducible refine And.intro ?_ ?_); (focus ((repeat' (with_reducible apply And.intro)) <;> first | (with_reducible exact OrdAt.of (by kernel_rfl)) | (with_reducible exact OrdT.of (by kernel_rfl)) | exact True.intro | (with_reducible assumption) | omega | rfl | exact Nat.le_of_ble_eq_true rfl | exact Or.inl trivial | (unfold inI; omega)))))
    exact nres
  · rw [chk_ok hc] at c1 ⊢
    rw [if_neg hc]
    have hc' := hc
    unfold chkBad at hc'
    have e8 := conv8 (n := n) (by omega) (by omega)
    repeat (first | simp only [go_sem, Nat.reduceLT, Nat.reduceEqDiff, reduceIte, Int.reduceEq, Int.reduceLE, Int.reduceLT, Nat.reduceMul, Nat.reduceAdd, Nat.reduceSub, Int.reduceNeg, Int.reduceAdd, Int.reduceMul, Int.reduceSub, Int.reduceToNat, Nat.reduceLeDiff, Nat.reduceDiv, Int.reduceDiv, reduceCtorEq, Option.some.injEq, exists_eq_left', List.length_map, List.length_set, List.length_replicate, List.length_drop, List.length_take, List.length_append, List.drop_zero, List.take_of_length_le, Nat.le_refl, Nat.sub_zero, splice_all, row_u8, splice_u8, wrap_u64c, hs] | refine AW.seq ?_ | refine AW.block ?_ | refine AW.scope ?_ | refine AW.cond_tt rfl ?_ | refine AW.cond_ff rfl ?_ | refine AW.label ?_ | refine AW.skip ?_ | refine AW.ret ?_ | refine AW.exit ?_ | refine AW.region ?_ | refine AW.draw (by kernel_rfl) (by decide +kernel) ?_ | refine AW.drawN (by kernel_rfl) (by decide +kernel) ?_ | ((with_reducible refine And.intro ?_ ?_); (focus ((repeat' (with_reducible apply And.intro)) <;> first | (with_reducible exact OrdAt.of (by kernel_rfl)) | (with_reducible exact OrdT.of (by kernel_rfl)) | exact True.intro | (with_reducible assumption) | omega | rfl | exact Nat.le_of_ble_eq_true rfl | exact Or.inl trivial | (unfold inI; omega)))))
    (first | refine CallE.mem (c1) (by first | rfl | (simp only [List.map_cons, List.map_nil, frz_sl, frz_agg8, frz_agg32, frz_vv, frz_hv]; done) | (simp only [List.map_cons, List.map_nil, frz_sl, frz_agg8, frz_agg32, frz_vv, frz_hv]; rfl)) (by simp [bor, look_cons, isBox]) (by rfl) ?_ | refine CallXE.mem (c1) (by first | rfl | (simp only [List.map_cons, List.map_nil, frz_sl, frz_agg8, frz_agg32, frz_vv, frz_hv]; done) | (simp only [List.map_cons, List.map_nil, frz_sl, frz_agg8, frz_agg32, frz_vv, frz_hv]; rfl)) (by simp [bor, look_cons, isBox]) (by rfl) ?_)
    repeat (first | simp only [go_sem, Nat.reduceLT, Nat.reduceEqDiff, reduceIte, Int.reduceEq, Int.reduceLE, Int.reduceLT, Nat.reduceMul, Nat.reduceAdd, Nat.reduceSub, Int.reduceNeg, Int.reduceAdd, Int.reduceMul, Int.reduceSub, Int.reduceToNat, Nat.reduceLeDiff, Nat.reduceDiv, Int.reduceDiv, reduceCtorEq, Option.some.injEq, exists_eq_left', List.length_map, List.length_set, List.length_replicate, List.length_drop, List.length_take, List.length_append, List.drop_zero, List.take_of_length_le, Nat.le_refl, Nat.sub_zero, splice_all, row_u8, splice_u8, wrap_u64c, hs] | refine AW.seq ?_ | refine AW.block ?_ | refine AW.scope ?_ | refine AW.cond_tt rfl ?_ | refine AW.cond_ff rfl ?_ | refine AW.label ?_ | refine AW.skip ?_ | refine AW.ret ?_ | refine AW.exit ?_ | refine AW.region ?_ | refine AW.draw (by kernel_rfl) (by decide +kernel) ?_ | refine AW.drawN (by kernel_rfl) (by decide +kernel) ?_ | ((with_reducible refine And.intro ?_ ?_); (focus ((repeat' (with_reducible apply And.intro)) <;> first | (with_reducible exact OrdAt.of (by kernel_rfl)) | (with_reducible exact OrdT.of (by kernel_rfl)) | exact True.intro | (with_reducible assumption) | omega | rfl | exact Nat.le_of_ble_eq_true rfl | exact Or.inl trivial | (unfold inI; omega)))))
    have hl5 : ([5] ++ s).length = 33 := by simp [hs]
    have ct := c23 (b := [5] ++ s) (t := l) (by omega) (by omega)
    rw [hl5] at ct
    generalize h1 : [5] ++ s ++ be2 l.length ++ l = B1 at ct
    have l1 : B1.length ≤ 100 := by rw [← h1]; simp [be2, hs]; omega
    (first | refine CallE.mem (ct) (by first | rfl | (simp only [List.map_cons, List.map_nil, frz_sl, frz_agg8, frz_agg32, frz_vv, frz_hv]; done) | (simp only [List.map_cons, List.map_nil, frz_sl, frz_agg8, frz_agg32, frz_vv, frz_hv]; rfl)) (by simp [bor, look_cons, isBox]) (by rfl) ?_ | refine CallXE.mem (ct) (by first | rfl | (simp only [List.map_cons, List.map_nil, frz_sl, frz_agg8, frz_agg32, frz_vv, frz_hv]; done) | (simp only [List.map_cons, List.map_nil, frz_sl, frz_agg8, frz_agg32, frz_vv, frz_hv]; rfl)) (by simp [bor, look_cons, isBox]) (by rfl) ?_)
    repeat (first | simp only [go_sem, Nat.reduceLT, Nat.reduceEqDiff, reduceIte, Int.reduceEq, Int.reduceLE, Int.reduceLT, Nat.reduceMul, Nat.reduceAdd, Nat.reduceSub, Int.reduceNeg, Int.reduceAdd, Int.reduceMul, Int.reduceSub, Int.reduceToNat, Nat.reduceLeDiff, Nat.reduceDiv, Int.reduceDiv, reduceCtorEq, Option.some.injEq, exists_eq_left', e8, List.drop_succ_cons, List.drop_zero, List.length_cons, List.length_nil] | refine AW.seq ?_ | refine AW.block ?_ | refine AW.scope ?_ | refine AW.cond_tt rfl ?_ | refine AW.cond_ff rfl ?_ | refine AW.label ?_ | refine AW.skip ?_ | refine AW.ret ?_ | refine AW.exit ?_ | refine AW.region ?_ | refine AW.draw (by kernel_rfl) (by decide +kernel) ?_ | refine AW.drawN (by kernel_rfl) (by decide +kernel) ?_ | ((with_reducible refine And.intro ?_ ?_); (focus ((repeat' (with_reducible apply And.intro)) <;> first | (with_reducible exact OrdAt.of (by kernel_rfl)) | (with_reducible exact OrdT.of (by kernel_rfl)) | exact True.intro | (with_reducible assumption) | omega | rfl | exact Nat.le_of_ble_eq_true rfl | exact Or.inl trivial | (unfold inI; omega)))))
    have cp := c24 (b := B1) (by omega) n
    generalize h2 : B1 ++ be8 n = B2 at cp
    have l2 : B2.length ≤ 200 := by rw [← h2, List.length_append, be8, bigE_length]; omega
    (first | refine CallE.mem (cp) (by first | rfl | (simp only [List.map_cons, List.map_nil, frz_sl, frz_agg8, frz_agg32, frz_vv, frz_hv]; done) | (simp only [List.map_cons, List.map_nil, frz_sl, frz_agg8, frz_agg32, frz_vv, frz_hv]; rfl)) (by simp [bor, look_cons, isBox]) (by rfl) ?_ | refine CallXE.mem (cp) (by first | rfl | (simp only [List.map_cons, List.map_nil, frz_sl, frz_agg8, frz_agg32, frz_vv, frz_hv]; done) | (simp only [List.map_cons, List.map_nil, frz_sl, frz_agg8, frz_agg32, frz_vv, frz_hv]; rfl)) (by simp [bor, look_cons, isBox]) (by rfl) ?_)
    repeat (first | simp only [go_sem, Nat.reduceLT, Nat.reduceEqDiff, reduceIte, Int.reduceEq, Int.reduceLE, Int.reduceLT, Nat.reduceMul, Nat.reduceAdd, Nat.reduceSub, Int.reduceNeg, Int.reduceAdd, Int.reduceMul, Int.reduceSub, Int.reduceToNat, Nat.reduceLeDiff, Nat.reduceDiv, Int.reduceDiv, reduceCtorEq, Option.some.injEq, exists_eq_left', List.drop_succ_cons, List.drop_zero, List.length_cons, List.length_nil] | refine AW.seq ?_ | refine AW.block ?_ | refine AW.scope ?_ | refine AW.cond_tt rfl ?_ | refine AW.cond_ff rfl ?_ | refine AW.label ?_ | refine AW.skip ?_ | refine AW.ret ?_ | refine AW.exit ?_ | refine AW.region ?_ | refine AW.draw (by kernel_rfl) (by decide +kernel) ?_ | refine AW.drawN (by kernel_rfl) (by decide +kernel) ?_ | ((with_reducible refine And.intro ?_ ?_); (focus ((repeat' (with_reducible apply And.intro)) <;> first | (with_reducible exact OrdAt.of (by kernel_rfl)) | (with_reducible exact OrdT.of (by kernel_rfl)) | exact True.intro | (with_reducible assumption) | omega | rfl | exact Nat.le_of_ble_eq_true rfl | exact Or.inl trivial | (unfold inI; omega)))))
    have cv := c23 (b := B2) (t := v) (by omega) (by omega)
    generalize h3 : B2 ++ be2 v.length ++ v = B3 at cv
    (first | refine CallE.mem (cv) (by first | rfl | (simp only [List.map_cons, List.map_nil, frz_sl, frz_agg8, frz_agg32, frz_vv, frz_hv]; done) | (simp only [List.map_cons, List.map_nil, frz_sl, frz_agg8, frz_agg32, frz_vv, frz_hv]; rfl)) (by simp [bor, look_cons, isBox]) (by rfl) ?_ | refine CallXE.mem (cv) (by first | rfl | (simp only [List.map_cons, List.map_nil, frz_sl, frz_agg8, frz_agg32, frz_vv, frz_hv]; done) | (simp only [List.map_cons, List.map_nil, frz_sl, frz_agg8, frz_agg32, frz_vv, frz_hv]; rfl)) (by simp [bor, look_cons, isBox]) (by rfl) ?_)
    repeat (first | simp only [go_sem, Nat.reduceLT, Nat.reduceEqDiff, reduceIte, Int.reduceEq, Int.reduceLE, Int.reduceLT, Nat.reduceMul, Nat.reduceAdd, Nat.reduceSub, Int.reduceNeg, Int.reduceAdd, Int.reduceMul, Int.reduceSub, Int.reduceToNat, Nat.reduceLeDiff, Nat.reduceDiv, Int.reduceDiv, reduceCtorEq, Option.some.injEq, exists_eq_left'] | refine AW.seq ?_ | refine AW.block ?_ | refine AW.scope ?_ | refine AW.cond_tt rfl ?_ | refine AW.cond_ff rfl ?_ | refine AW.label ?_ | refine AW.skip ?_ | refine AW.ret ?_ | refine AW.exit ?_ | refine AW.region ?_ | refine AW.draw (by kernel_rfl) (by decide +kernel) ?_ | refine AW.drawN (by kernel_rfl) (by decide +kernel) ?_ | ((with_reducible refine And.intro ?_ ?_); (focus ((repeat' (with_reducible apply And.intro)) <;> first | (with_reducible exact OrdAt.of (by kernel_rfl)) | (with_reducible exact OrdT.of (by kernel_rfl)) | exact True.intro | (with_reducible assumption) | omega | rfl | exact Nat.le_of_ble_eq_true rfl | exact Or.inl trivial | (unfold inI; omega)))))
    have hT : itemT s l n v = B3 := by rw [← h3, ← h2, ← h1]; rfl
    rw [hT]
    exact Wk.refl _
theorem f13 (s : List UInt8) (hs : s.length = 32) (l : List UInt8) (n : Int) (v : List UInt8) : AFun Tryd.prog 13 [.agg (s.map u8), .agg (itC l n v)] (.tup [.sl 1 (bys (itemS s l n v)) (itemS s l n v).length none, int (chkE l n v)]) := by
  refine AFun.enterW Tryd.func13 rfl Tryd.call13 (by simp [Tryd.ntmps13]) fun γ1 => ?_
  simp only [frameOf, Tryd.ntmps13]
  have c1 := f20 l n v
  unfold itemS
  by_cases hc : chkBad l n v
  · rw [chk_bad hc] at c1 ⊢
    rw [if_pos hc]
    repeat (first | simp only [go_sem, Nat.reduceLT, Nat.reduceEqDiff, reduceIte, Int.reduceEq, Int.reduceLE, Int.reduceLT, Nat.reduceMul, Nat.reduceAdd, Nat.reduceSub, Int.reduceNeg, Int.reduceAdd, Int.reduceMul, Int.reduceSub, Int.reduceToNat, Nat.reduceLeDiff, Nat.reduceDiv, Int.reduceDiv, reduceCtorEq, Option.some.injEq, exists_eq_left', List.length_map, List.length_set, List.length_replicate, List.length_drop, List.length_take, List.length_append, List.drop_zero, List.take_of_length_le, Nat.le_refl, Nat.sub_zero, splice_all, row_u8, splice_u8, wrap_u64c, hs] | refine AW.seq ?_ | refine AW.block ?_ | refine AW.scope ?_ | refine AW.cond_tt rfl ?_ | refine AW.cond_ff rfl ?_ | refine AW.label ?_ | refine AW.skip ?_ | refine AW.ret ?_ | refine AW.exit ?_ | refine AW.region ?_ | refine AW.draw (by kernel_rfl) (by decide +kernel) ?_ | refine AW.drawN (by kernel_rfl) (by decide +kernel) ?_ | ((with_reducible refine And.intro ?_ ?_); (focus ((repeat' (with_reducible apply And.intro)) <;> first | (with_reducible exact OrdAt.of (by kernel_rfl)) | (with_reducible exact OrdT.of (by kernel_rfl)) | exact True.intro | (with_reducible assumption) | omega | rfl | exact Nat.le_of_ble_eq_true rfl | exact Or.inl trivial | (unfold inI; omega)))))
    (first | refine CallE.mem (c1) (by first | rfl | (simp only [List.map_cons, List.map_nil, frz_sl, frz_agg8, frz_agg32, frz_vv, frz_hv]; done) | (simp only [List.map_cons, List.map_nil, frz_sl, frz_agg8, frz_agg32, frz_vv, frz_hv]; rfl)) (by simp [bor, look_cons, isBox]) (by rfl) ?_ | refine CallXE.mem (c1) (by first | rfl | (simp only [List.map_cons, List.map_nil, frz_sl, frz_agg8, frz_agg32, frz_vv, frz_hv]; done) | (simp only [List.map_cons, List.map_nil, frz_sl, frz_agg8, frz_agg32, frz_vv, frz_hv]; rfl)) (by simp [bor, look_cons, isBox]) (by rfl) ?_)
    repeat (first | simp only [go_sem, Nat.reduceLT, Nat.reduceEqDiff, reduceIte, Int.reduceEq, Int.reduceLE, Int.reduceLT, Nat.reduceMul, Nat.reduceAdd, Nat.reduceSub, Int.reduceNeg, Int.reduceAdd, Int.reduceMul, Int.reduceSub, Int.reduceToNat, Nat.reduceLeDiff, Nat.reduceDiv, Int.reduceDiv, reduceCtorEq, Option.some.injEq, exists_eq_left'] | refine AW.seq ?_ | refine AW.block ?_ | refine AW.scope ?_ | refine AW.cond_tt rfl ?_ | refine AW.cond_ff rfl ?_ | refine AW.label ?_ | refine AW.skip ?_ | refine AW.ret ?_ | refine AW.exit ?_ | refine AW.region ?_ | refine AW.draw (by kernel_rfl) (by decide +kernel) ?_ | refine AW.drawN (by kernel_rfl) (by decide +kernel) ?_ | ((with_reducible refine And.intro ?_ ?_); (focus ((repeat' (with_reducible apply And.intro)) <;> first | (with_reducible exact OrdAt.of (by kernel_rfl)) | (with_reducible exact OrdT.of (by kernel_rfl)) | exact True.intro | (with_reducible assumption) | omega | rfl | exact Nat.le_of_ble_eq_true rfl | exact Or.inl trivial | (unfold inI; omega)))))
    exact nres
  · rw [chk_ok hc] at c1 ⊢
    rw [if_neg hc]
    have hc' := hc
    unfold chkBad at hc'
    have e8 := conv8 (n := n) (by omega) (by omega)
    repeat (first | simp only [go_sem, Nat.reduceLT, Nat.reduceEqDiff, reduceIte, Int.reduceEq, Int.reduceLE, Int.reduceLT, Nat.reduceMul, Nat.reduceAdd, Nat.reduceSub, Int.reduceNeg, Int.reduceAdd, Int.reduceMul, Int.reduceSub, Int.reduceToNat, Nat.reduceLeDiff, Nat.reduceDiv, Int.reduceDiv, reduceCtorEq, Option.some.injEq, exists_eq_left', List.length_map, List.length_set, List.length_replicate, List.length_drop, List.length_take, List.length_append, List.drop_zero, List.take_of_length_le, Nat.le_refl, Nat.sub_zero, splice_all, row_u8, splice_u8, wrap_u64c, hs] | refine AW.seq ?_ | refine AW.block ?_ | refine AW.scope ?_ | refine AW.cond_tt rfl ?_ | refine AW.cond_ff rfl ?_ | refine AW.label ?_ | refine AW.skip ?_ | refine AW.ret ?_ | refine AW.exit ?_ | refine AW.region ?_ | refine AW.draw (by kernel_rfl) (by decide +kernel) ?_ | refine AW.drawN (by kernel_rfl) (by decide +kernel) ?_ | ((with_reducible refine And.intro ?_ ?_); (focus ((repeat' (with_reducible apply And.intro)) <;> first | (with_reducible exact OrdAt.of (by kernel_rfl)) | (with_reducible exact OrdT.of (by kernel_rfl)) | exact True.intro | (with_reducible assumption) | omega | rfl | exact Nat.le_of_ble_eq_true rfl | exact Or.inl trivial | (unfold inI; omega)))))
    (first | refine CallE.mem (c1) (by first | rfl | (simp only [List.map_cons, List.map_nil, frz_sl, frz_agg8, frz_agg32, frz_vv, frz_hv]; done) | (simp only [List.map_cons, List.map_nil, frz_sl, frz_agg8, frz_agg32, frz_vv, frz_hv]; rfl)) (by simp [bor, look_cons, isBox]) (by rfl) ?_ | refine CallXE.mem (c1) (by first | rfl | (simp only [List.map_cons, List.map_nil, frz_sl, frz_agg8, frz_agg32, frz_vv, frz_hv]; done) | (simp only [List.map_cons, List.map_nil, frz_sl, frz_agg8, frz_agg32, frz_vv, frz_hv]; rfl)) (by simp [bor, look_cons, isBox]) (by rfl) ?_)
    repeat (first | simp only [go_sem, Nat.reduceLT, Nat.reduceEqDiff, reduceIte, Int.reduceEq, Int.reduceLE, Int.reduceLT, Nat.reduceMul, Nat.reduceAdd, Nat.reduceSub, Int.reduceNeg, Int.reduceAdd, Int.reduceMul, Int.reduceSub, Int.reduceToNat, Nat.reduceLeDiff, Nat.reduceDiv, Int.reduceDiv, reduceCtorEq, Option.some.injEq, exists_eq_left', List.length_map, List.length_set, List.length_replicate, List.length_drop, List.length_take, List.length_append, List.drop_zero, List.take_of_length_le, Nat.le_refl, Nat.sub_zero, splice_all, row_u8, splice_u8, wrap_u64c, hs] | refine AW.seq ?_ | refine AW.block ?_ | refine AW.scope ?_ | refine AW.cond_tt rfl ?_ | refine AW.cond_ff rfl ?_ | refine AW.label ?_ | refine AW.skip ?_ | refine AW.ret ?_ | refine AW.exit ?_ | refine AW.region ?_ | refine AW.draw (by kernel_rfl) (by decide +kernel) ?_ | refine AW.drawN (by kernel_rfl) (by decide +kernel) ?_ | ((with_reducible refine And.intro ?_ ?_); (focus ((repeat' (with_reducible apply And.intro)) <;> first | (with_reducible exact OrdAt.of (by kernel_rfl)) | (with_reducible exact OrdT.of (by kernel_rfl)) | exact True.intro | (with_reducible assumption) | omega | rfl | exact Nat.le_of_ble_eq_true rfl | exact Or.inl trivial | (unfold inI; omega)))))
    have hl5 : ([5] ++ s).length = 33 := by simp [hs]
    have ct := c25 (b := [5] ++ s) (t := l) (by omega) (by omega)
    rw [hl5] at ct
    generalize h1 : [5] ++ s ++ be2 l.length ++ l = B1 at ct
    have l1 : B1.length ≤ 100 := by rw [← h1]; simp [be2, hs]; omega
    (first | refine CallE.mem (ct) (by first | rfl | (simp only [List.map_cons, List.map_nil, frz_sl, frz_agg8, frz_agg32, frz_vv, frz_hv]; done) | (simp only [List.map_cons, List.map_nil, frz_sl, frz_agg8, frz_agg32, frz_vv, frz_hv]; rfl)) (by simp [bor, look_cons, isBox]) (by rfl) ?_ | refine CallXE.mem (ct) (by first | rfl | (simp only [List.map_cons, List.map_nil, frz_sl, frz_agg8, frz_agg32, frz_vv, frz_hv]; done) | (simp only [List.map_cons, List.map_nil, frz_sl, frz_agg8, frz_agg32, frz_vv, frz_hv]; rfl)) (by simp [bor, look_cons, isBox]) (by rfl) ?_)
    repeat (first | simp only [go_sem, Nat.reduceLT, Nat.reduceEqDiff, reduceIte, Int.reduceEq, Int.reduceLE, Int.reduceLT, Nat.reduceMul, Nat.reduceAdd, Nat.reduceSub, Int.reduceNeg, Int.reduceAdd, Int.reduceMul, Int.reduceSub, Int.reduceToNat, Nat.reduceLeDiff, Nat.reduceDiv, Int.reduceDiv, reduceCtorEq, Option.some.injEq, exists_eq_left', e8, List.drop_succ_cons, List.drop_zero, List.length_cons, List.length_nil] | refine AW.seq ?_ | refine AW.block ?_ | refine AW.scope ?_ | refine AW.cond_tt rfl ?_ | refine AW.cond_ff rfl ?_ | refine AW.label ?_ | refine AW.skip ?_ | refine AW.ret ?_ | refine AW.exit ?_ | refine AW.region ?_ | refine AW.draw (by kernel_rfl) (by decide +kernel) ?_ | refine AW.drawN (by kernel_rfl) (by decide +kernel) ?_ | ((with_reducible refine And.intro ?_ ?_); (focus ((repeat' (with_reducible apply And.intro)) <;> first | (with_reducible exact OrdAt.of (by kernel_rfl)) | (with_reducible exact OrdT.of (by kernel_rfl)) | exact True.intro | (with_reducible assumption) | omega | rfl | exact Nat.le_of_ble_eq_true rfl | exact Or.inl trivial | (unfold inI; omega)))))
    have cp := c26 (b := B1) (by omega) n
    generalize h2 : B1 ++ be8 n = B2 at cp
    have l2 : B2.length ≤ 200 := by rw [← h2, List.length_append, be8, bigE_length]; omega
    (first | refine CallE.mem (cp) (by first | rfl | (simp only [List.map_cons, List.map_nil, frz_sl, frz_agg8, frz_agg32, frz_vv, frz_hv]; done) | (simp only [List.map_cons, List.map_nil, frz_sl, frz_agg8, frz_agg32, frz_vv, frz_hv]; rfl)) (by simp [bor, look_cons, isBox]) (by rfl) ?_ | refine CallXE.mem (cp) (by first | rfl | (simp only [List.map_cons, List.map_nil, frz_sl, frz_agg8, frz_agg32, frz_vv, frz_hv]; done) | (simp only [List.map_cons, List.map_nil, frz_sl, frz_agg8, frz_agg32, frz_vv, frz_hv]; rfl)) (by simp [bor, look_cons, isBox]) (by rfl) ?_)
    repeat (first | simp only [go_sem, Nat.reduceLT, Nat.reduceEqDiff, reduceIte, Int.reduceEq, Int.reduceLE, Int.reduceLT, Nat.reduceMul, Nat.reduceAdd, Nat.reduceSub, Int.reduceNeg, Int.reduceAdd, Int.reduceMul, Int.reduceSub, Int.reduceToNat, Nat.reduceLeDiff, Nat.reduceDiv, Int.reduceDiv, reduceCtorEq, Option.some.injEq, exists_eq_left', List.drop_succ_cons, List.drop_zero, List.length_cons, List.length_nil] | refine AW.seq ?_ | refine AW.block ?_ | refine AW.scope ?_ | refine AW.cond_tt rfl ?_ | refine AW.cond_ff rfl ?_ | refine AW.label ?_ | refine AW.skip ?_ | refine AW.ret ?_ | refine AW.exit ?_ | refine AW.region ?_ | refine AW.draw (by kernel_rfl) (by decide +kernel) ?_ | refine AW.drawN (by kernel_rfl) (by decide +kernel) ?_ | ((with_reducible refine And.intro ?_ ?_); (focus ((repeat' (with_reducible apply And.intro)) <;> first | (with_reducible exact OrdAt.of (by kernel_rfl)) | (with_reducible exact OrdT.of (by kernel_rfl)) | exact True.intro | (with_reducible assumption) | omega | rfl | exact Nat.le_of_ble_eq_true rfl | exact Or.inl trivial | (unfold inI; omega)))))
    have cv := c25 (b := B2) (t := v) (by omega) (by omega)
    generalize h3 : B2 ++ be2 v.length ++ v = B3 at cv
    (first | refine CallE.mem (cv) (by first | rfl | (simp only [List.map_cons, List.map_nil, frz_sl, frz_agg8, frz_agg32, frz_vv, frz_hv]; done) | (simp only [List.map_cons, List.map_nil, frz_sl, frz_agg8, frz_agg32, frz_vv, frz_hv]; rfl)) (by simp [bor, look_cons, isBox]) (by rfl) ?_ | refine CallXE.mem (cv) (by first | rfl | (simp only [List.map_cons, List.map_nil, frz_sl, frz_agg8, frz_agg32, frz_vv, frz_hv]; done) | (simp only [List.map_cons, List.map_nil, frz_sl, frz_agg8, frz_agg32, frz_vv, frz_hv]; rfl)) (by simp [bor, look_cons, isBox]) (by rfl) ?_)
    repeat (first | simp only [go_sem, Nat.reduceLT, Nat.reduceEqDiff, reduceIte, Int.reduceEq, Int.reduceLE, Int.reduceLT, Nat.reduceMul, Nat.reduceAdd, Nat.reduceSub, Int.reduceNeg, Int.reduceAdd, Int.reduceMul, Int.reduceSub, Int.reduceToNat, Nat.reduceLeDiff, Nat.reduceDiv, Int.reduceDiv, reduceCtorEq, Option.some.injEq, exists_eq_left'] | refine AW.seq ?_ | refine AW.block ?_ | refine AW.scope ?_ | refine AW.cond_tt rfl ?_ | refine AW.cond_ff rfl ?_ | refine AW.label ?_ | refine AW.skip ?_ | refine AW.ret ?_ | refine AW.exit ?_ | refine AW.region ?_ | refine AW.draw (by kernel_rfl) (by decide +kernel) ?_ | refine AW.drawN (by kernel_rfl) (by decide +kernel) ?_ | ((with_reducible refine And.intro ?_ ?_); (focus ((repeat' (with_reducible apply And.intro)) <;> first | (with_reducible exact OrdAt.of (by kernel_rfl)) | (with_reducible exact OrdT.of (by kernel_rfl)) | exact True.intro | (with_reducible assumption) | omega | rfl | exact Nat.le_of_ble_eq_true rfl | exact Or.inl trivial | (unfold inI; omega)))))
    have hT : itemT s l n v = B3 := by rw [← h3, ← h2, ← h1]; rfl
    rw [hT]
    exact Wk.refl _
end Go.Proofs.YtaghnjehlpbdkaaDoor

namespace Go.Proofs.YtaghnjehlpbdkaaDoor
open Go Go.Eng Go.Proofs
set_option maxRecDepth 100000
set_option maxHeartbeats 1000000
set_option linter.unusedSimpArgs false
set_option linter.unusedVariables false
def z32 : List UInt8 := List.replicate 32 0
theorem z32_len : z32.length = 32 := rfl
theorem z32_map : List.replicate 32 (u8 0) = z32.map u8 := rfl
def sealS (s l : List UInt8) (n : Int) (v : List UInt8) : List UInt8 := if chkBad l n v then z32 else sumOf (itemT s l n v)
theorem sealS_len (s l : List UInt8) (n : Int) (v : List UInt8) : (sealS s l n v).length = 32 := by
  unfold sealS; split
  · rfl
  · exact sumOf_len _
theorem itemT_len {s l : List UInt8} {n : Int} {v : List UInt8} (hs : s.length = 32) : (itemT s l n v).length = 45 + l.length + v.length := by
  simp [itemT, be2, be8, bigE_length, hs]; omega
theorem spl8 {a b : List UInt8} (h : b.length = a.length) : splice (a.map u8) 0 (b.map u8) = b.map u8 := splice_all (by rw [List.length_map, List.length_map, h])
theorem f14 (s : List UInt8) (hs : s.length = 32) (l : List UInt8) (n : Int) (v : List UInt8) : AFun Tryd.prog 14 [.agg (s.map u8), .agg (itC l n v)] (.tup [.agg ((sealS s l n v).map u8), int (chkE l n v)]) := by
  refine AFun.enterW Tryd.func14 rfl Tryd.call14 (by simp [Tryd.ntmps14]) fun γ1 => ?_
  simp only [frameOf, Tryd.ntmps14]
  have c1 := f12 s hs l n v
  have t0 : (s.map u8).take 32 = s.map u8 := List.take_of_length_le (by rw [List.length_map, hs]; exact Nat.le_refl _)
  have tz : (z32.map u8).take 32 = z32.map u8 := rfl
  have hz : splice (z32.map u8) 0 (z32.map u8) = z32.map u8 := rfl
  unfold itemS at c1
  unfold sealS
  by_cases hc : chkBad l n v
  · rw [chk_bad hc, if_pos hc] at c1
    rw [chk_bad hc, if_pos hc]
    repeat (first | simp only [go_sem, Nat.reduceLT, Nat.reduceEqDiff, reduceIte, Int.reduceEq, Int.reduceLE, Int.reduceLT, Nat.reduceMul, Nat.reduceAdd, Nat.reduceSub, Int.reduceNeg, Int.reduceAdd, Int.reduceMul, Int.reduceSub, Int.reduceToNat, Nat.reduceLeDiff, Nat.reduceDiv, Int.reduceDiv, reduceCtorEq, Option.some.injEq, exists_eq_left', hs, List.length_map, t0, List.length_cons, List.length_nil, z32_map, z32_len] | refine AW.seq ?_ | refine AW.block ?_ | refine AW.scope ?_ | refine AW.cond_tt rfl ?_ | refine AW.cond_ff rfl ?_ | refine AW.label ?_ | refine AW.skip ?_ | refine AW.ret ?_ | refine AW.exit ?_ | refine AW.region ?_ | refine AW.draw (by kernel_rfl) (by decide +kernel) ?_ | refine AW.drawN (by kernel_rfl) (by decide +kernel) ?_ | ((with_reducible refine And.intro ?_ ?_); (focus ((repeat' (with_reducible apply And.intro)) <;> first | (with_reducible exact OrdAt.of (by kernel_rfl)) | (with_reducible exact OrdT.of (by kernel_rfl)) | exact True.intro | (with_reducible assumption) | omega | rfl | exact Nat.le_of_ble_eq_true rfl | exact Or.inl trivial | (unfold inI; omega)))))
    (first | refine CallE.mem (c1) (by first | rfl | (simp only [List.map_cons, List.map_nil, frz_sl, frz_agg8, frz_agg32, frz_vv, frz_hv]; done) | (simp only [List.map_cons, List.map_nil, frz_sl, frz_agg8, frz_agg32, frz_vv, frz_hv]; rfl)) (by simp [bor, look_cons, isBox]) (by rfl) ?_ | refine CallXE.mem (c1) (by first | rfl | (simp only [List.map_cons, List.map_nil, frz_sl, frz_agg8, frz_agg32, frz_vv, frz_hv]; done) | (simp only [List.map_cons, List.map_nil, frz_sl, frz_agg8, frz_agg32, frz_vv, frz_hv]; rfl)) (by simp [bor, look_cons, isBox]) (by rfl) ?_)
    repeat (first | simp only [go_sem, Nat.reduceLT, Nat.reduceEqDiff, reduceIte, Int.reduceEq, Int.reduceLE, Int.reduceLT, Nat.reduceMul, Nat.reduceAdd, Nat.reduceSub, Int.reduceNeg, Int.reduceAdd, Int.reduceMul, Int.reduceSub, Int.reduceToNat, Nat.reduceLeDiff, Nat.reduceDiv, Int.reduceDiv, reduceCtorEq, Option.some.injEq, exists_eq_left', hs, List.length_map, t0, List.length_cons, List.length_nil, z32_map, z32_len, hz, tz, map_dt_u8] | refine AW.seq ?_ | refine AW.block ?_ | refine AW.scope ?_ | refine AW.cond_tt rfl ?_ | refine AW.cond_ff rfl ?_ | refine AW.label ?_ | refine AW.skip ?_ | refine AW.ret ?_ | refine AW.exit ?_ | refine AW.region ?_ | refine AW.draw (by kernel_rfl) (by decide +kernel) ?_ | refine AW.drawN (by kernel_rfl) (by decide +kernel) ?_ | ((with_reducible refine And.intro ?_ ?_); (focus ((repeat' (with_reducible apply And.intro)) <;> first | (with_reducible exact OrdAt.of (by kernel_rfl)) | (with_reducible exact OrdT.of (by kernel_rfl)) | exact True.intro | (with_reducible assumption) | omega | rfl | exact Nat.le_of_ble_eq_true rfl | exact Or.inl trivial | (unfold inI; omega)))))
    exact Wk.refl _
  · rw [chk_ok hc, if_neg hc] at c1
    rw [chk_ok hc, if_neg hc]
    have hl := itemT_len (l := l) (n := n) (v := v) hs
    have hc' := hc
    unfold chkBad at hc'
    generalize itemT s l n v = B at hl c1 ⊢
    have hsum := sumOf_len B
    have hsp : splice (z32.map u8) 0 ((sumOf B).map u8) = (sumOf B).map u8 := spl8 (by rw [hsum]; rfl)
    have tS : ((sumOf B).map u8).take 32 = (sumOf B).map u8 := List.take_of_length_le (by rw [List.length_map, hsum]; exact Nat.le_refl _)
    repeat (first | simp only [go_sem, Nat.reduceLT, Nat.reduceEqDiff, reduceIte, Int.reduceEq, Int.reduceLE, Int.reduceLT, Nat.reduceMul, Nat.reduceAdd, Nat.reduceSub, Int.reduceNeg, Int.reduceAdd, Int.reduceMul, Int.reduceSub, Int.reduceToNat, Nat.reduceLeDiff, Nat.reduceDiv, Int.reduceDiv, reduceCtorEq, Option.some.injEq, exists_eq_left', hs, List.length_map, t0, List.length_cons, List.length_nil, z32_map, z32_len] | refine AW.seq ?_ | refine AW.block ?_ | refine AW.scope ?_ | refine AW.cond_tt rfl ?_ | refine AW.cond_ff rfl ?_ | refine AW.label ?_ | refine AW.skip ?_ | refine AW.ret ?_ | refine AW.exit ?_ | refine AW.region ?_ | refine AW.draw (by kernel_rfl) (by decide +kernel) ?_ | refine AW.drawN (by kernel_rfl) (by decide +kernel) ?_ | ((with_reducible refine And.intro ?_ ?_); (focus ((repeat' (with_reducible apply And.intro)) <;> first | (with_reducible exact OrdAt.of (by kernel_rfl)) | (with_reducible exact OrdT.of (by kernel_rfl)) | exact True.intro | (with_reducible assumption) | omega | rfl | exact Nat.le_of_ble_eq_true rfl | exact Or.inl trivial | (unfold inI; omega)))))
    (first | refine CallE.mem (c1) (by first | rfl | (simp only [List.map_cons, List.map_nil, frz_sl, frz_agg8, frz_agg32, frz_vv, frz_hv]; done) | (simp only [List.map_cons, List.map_nil, frz_sl, frz_agg8, frz_agg32, frz_vv, frz_hv]; rfl)) (by simp [bor, look_cons, isBox]) (by rfl) ?_ | refine CallXE.mem (c1) (by first | rfl | (simp only [List.map_cons, List.map_nil, frz_sl, frz_agg8, frz_agg32, frz_vv, frz_hv]; done) | (simp only [List.map_cons, List.map_nil, frz_sl, frz_agg8, frz_agg32, frz_vv, frz_hv]; rfl)) (by simp [bor, look_cons, isBox]) (by rfl) ?_)
    repeat (first | simp only [go_sem, Nat.reduceLT, Nat.reduceEqDiff, reduceIte, Int.reduceEq, Int.reduceLE, Int.reduceLT, Nat.reduceMul, Nat.reduceAdd, Nat.reduceSub, Int.reduceNeg, Int.reduceAdd, Int.reduceMul, Int.reduceSub, Int.reduceToNat, Nat.reduceLeDiff, Nat.reduceDiv, Int.reduceDiv, reduceCtorEq, Option.some.injEq, exists_eq_left'] | refine AW.seq ?_ | refine AW.block ?_ | refine AW.scope ?_ | refine AW.cond_tt rfl ?_ | refine AW.cond_ff rfl ?_ | refine AW.label ?_ | refine AW.skip ?_ | refine AW.ret ?_ | refine AW.exit ?_ | refine AW.region ?_ | refine AW.draw (by kernel_rfl) (by decide +kernel) ?_ | refine AW.drawN (by kernel_rfl) (by decide +kernel) ?_ | ((with_reducible refine And.intro ?_ ?_); (focus ((repeat' (with_reducible apply And.intro)) <;> first | (with_reducible exact OrdAt.of (by kernel_rfl)) | (with_reducible exact OrdT.of (by kernel_rfl)) | exact True.intro | (with_reducible assumption) | omega | rfl | exact Nat.le_of_ble_eq_true rfl | exact Or.inl trivial | (unfold inI; omega)))))
    (first | refine CallE.mem (f22 B (by omega)) (by first | rfl | (simp only [List.map_cons, List.map_nil, frz_sl, frz_agg8, frz_agg32, frz_vv, frz_hv]; done) | (simp only [List.map_cons, List.map_nil, frz_sl, frz_agg8, frz_agg32, frz_vv, frz_hv]; rfl)) (by simp [bor, look_cons, isBox]) (by rfl) ?_ | refine CallXE.mem (f22 B (by omega)) (by first | rfl | (simp only [List.map_cons, List.map_nil, frz_sl, frz_agg8, frz_agg32, frz_vv, frz_hv]; done) | (simp only [List.map_cons, List.map_nil, frz_sl, frz_agg8, frz_agg32, frz_vv, frz_hv]; rfl)) (by simp [bor, look_cons, isBox]) (by rfl) ?_)
    repeat (first | simp only [go_sem, Nat.reduceLT, Nat.reduceEqDiff, reduceIte, Int.reduceEq, Int.reduceLE, Int.reduceLT, Nat.reduceMul, Nat.reduceAdd, Nat.reduceSub, Int.reduceNeg, Int.reduceAdd, Int.reduceMul, Int.reduceSub, Int.reduceToNat, Nat.reduceLeDiff, Nat.reduceDiv, Int.reduceDiv, reduceCtorEq, Option.some.injEq, exists_eq_left', hsum, hsp, tS, List.length_map, z32_len, map_dt_u8] | refine AW.seq ?_ | refine AW.block ?_ | refine AW.scope ?_ | refine AW.cond_tt rfl ?_ | refine AW.cond_ff rfl ?_ | refine AW.label ?_ | refine AW.skip ?_ | refine AW.ret ?_ | refine AW.exit ?_ | refine AW.region ?_ | refine AW.draw (by kernel_rfl) (by decide +kernel) ?_ | refine AW.drawN (by kernel_rfl) (by decide +kernel) ?_ | ((with_reducible refine And.intro ?_ ?_); (focus ((repeat' (with_reducible apply And.intro)) <;> first | (with_reducible exact OrdAt.of (by kernel_rfl)) | (with_reducible exact OrdT.of (by kernel_rfl)) | exact True.intro | (with_reducible assumption) | omega | rfl | exact Nat.le_of_ble_eq_true rfl | exact Or.inl trivial | (unfold inI; omega)))))
    exact Wk.refl _
theorem f15 (s : List UInt8) (hs : s.length = 32) (l : List UInt8) (n : Int) (v : List UInt8) : AFun Tryd.prog 15 [.agg (s.map u8), .agg (itC l n v)] (.tup [.agg ((sealS s l n v).map u8), int (chkE l n v)]) := by
  refine AFun.enterW Tryd.func15 rfl Tryd.call15 (by simp [Tryd.ntmps15]) fun γ1 => ?_
  simp only [frameOf, Tryd.ntmps15]
  have c1 := f13 s hs l n v
  have t0 : (s.map u8).take 32 = s.map u8 := List.take_of_length_le (by rw [List.length_map, hs]; exact Nat.le_refl _)
  have tz : (z32.map u8).take 32 = z32.map u8 := rfl
  have hz : splice (z32.map u8) 0 (z32.map u8) = z32.map u8 := rfl
  unfold itemS at c1
  unfold sealS
  by_cases hc : chkBad l n v
  · rw [chk_bad hc, if_pos hc] at c1
    rw [chk_bad hc, if_pos hc]
    repeat (first | simp only [go_sem, Nat.reduceLT, Nat.reduceEqDiff, reduceIte, Int.reduceEq, Int.reduceLE, Int.reduceLT, Nat.reduceMul, Nat.reduceAdd, Nat.reduceSub, Int.reduceNeg, Int.reduceAdd, Int.reduceMul, Int.reduceSub, Int.reduceToNat, Nat.reduceLeDiff, Nat.reduceDiv, Int.reduceDiv, reduceCtorEq, Option.some.injEq, exists_eq_left', hs, List.length_map, t0, List.length_cons, List.length_nil, z32_map, z32_len] | refine AW.seq ?_ | refine AW.block ?_ | refine AW.scope ?_ | refine AW.cond_tt rfl ?_ | refine AW.cond_ff rfl ?_ | refine AW.label ?_ | refine AW.skip ?_ | refine AW.ret ?_ | refine AW.exit ?_ | refine AW.region ?_ | refine AW.draw (by kernel_rfl) (by decide +kernel) ?_ | refine AW.drawN (by kernel_rfl) (by decide +kernel) ?_ | ((with_reducible refine And.intro ?_ ?_); (focus ((repeat' (with_reducible apply And.intro)) <;> first | (with_reducible exact OrdAt.of (by kernel_rfl)) | (with_reducible exact OrdT.of (by kernel_rfl)) | exact True.intro | (with_reducible assumption) | omega | rfl | exact Nat.le_of_ble_eq_true rfl | exact Or.inl trivial | (unfold inI; omega)))))
    (first | refine CallE.mem (c1) (by first | rfl | (simp only [List.map_cons, List.map_nil, frz_sl, frz_agg8, frz_agg32, frz_vv, frz_hv]; done) | (simp only [List.map_cons, List.map_nil, frz_sl, frz_agg8, frz_agg32, frz_vv, frz_hv]; rfl)) (by simp [bor, look_cons, isBox]) (by rfl) ?_ | refine CallXE.mem (c1) (by first | rfl | (simp only [List.map_cons, List.map_nil, frz_sl, frz_agg8, frz_agg32, frz_vv, frz_hv]; done) | (simp only [List.map_cons, List.map_nil, frz_sl, frz_agg8, frz_agg32, frz_vv, frz_hv]; rfl)) (by simp [bor, look_cons, isBox]) (by rfl) ?_)
    repeat (first | simp only [go_sem, Nat.reduceLT, Nat.reduceEqDiff, reduceIte, Int.reduceEq, Int.reduceLE, Int.reduceLT, Nat.reduceMul, Nat.reduceAdd, Nat.reduceSub, Int.reduceNeg, Int.reduceAdd, Int.reduceMul, Int.reduceSub, Int.reduceToNat, Nat.reduceLeDiff, Nat.reduceDiv, Int.reduceDiv, reduceCtorEq, Option.some.injEq, exists_eq_left', hs, List.length_map, t0, List.length_cons, List.length_nil, z32_map, z32_len, hz, tz, map_dt_u8] | refine AW.seq ?_ | refine AW.block ?_ | refine AW.scope ?_ | refine AW.cond_tt rfl ?_ | refine AW.cond_ff rfl ?_ | refine AW.label ?_ | refine AW.skip ?_ | refine AW.ret ?_ | refine AW.exit ?_ | refine AW.region ?_ | refine AW.draw (by kernel_rfl) (by decide +kernel) ?_ | refine AW.drawN (by kernel_rfl) (by decide +kernel) ?_ | ((with_reducible refine And.intro ?_ ?_); (focus ((repeat' (with_reducible apply And.intro)) <;> first | (with_reducible exact OrdAt.of (by kernel_rfl)) | (with_reducible exact OrdT.of (by kernel_rfl)) | exact True.intro | (with_reducible assumption) | omega | rfl | exact Nat.le_of_ble_eq_true rfl | exact Or.inl trivial | (unfold inI; omega)))))
    exact Wk.refl _
  · rw [chk_ok hc, if_neg hc] at c1
    rw [chk_ok hc, if_neg hc]
    have hl := itemT_len (l := l) (n := n) (v := v) hs
    have hc' := hc
    unfold chkBad at hc'
    generalize itemT s l n v = B at hl c1 ⊢
    have hsum := sumOf_len B
    have hsp : splice (z32.map u8) 0 ((sumOf B).map u8) = (sumOf B).map u8 := spl8 (by rw [hsum]; rfl)
    have tS : ((sumOf B).map u8).take 32 = (sumOf B).map u8 := List.take_of_length_le (by rw [List.length_map, hsum]; exact Nat.le_refl _)
    repeat (first | simp only [go_sem, Nat.reduceLT, Nat.reduceEqDiff, reduceIte, Int.reduceEq, Int.reduceLE, Int.reduceLT, Nat.reduceMul, Nat.reduceAdd, Nat.reduceSub, Int.reduceNeg, Int.reduceAdd, Int.reduceMul, Int.reduceSub, Int.reduceToNat, Nat.reduceLeDiff, Nat.reduceDiv, Int.reduceDiv, reduceCtorEq, Option.some.injEq, exists_eq_left', hs, List.length_map, t0, List.length_cons, List.length_nil, z32_map, z32_len] | refine AW.seq ?_ | refine AW.block ?_ | refine AW.scope ?_ | refine AW.cond_tt rfl ?_ | refine AW.cond_ff rfl ?_ | refine AW.label ?_ | refine AW.skip ?_ | refine AW.ret ?_ | refine AW.exit ?_ | refine AW.region ?_ | refine AW.draw (by kernel_rfl) (by decide +kernel) ?_ | refine AW.drawN (by kernel_rfl) (by decide +kernel) ?_ | ((with_reducible refine And.intro ?_ ?_); (focus ((repeat' (with_reducible apply And.intro)) <;> first | (with_reducible exact OrdAt.of (by kernel_rfl)) | (with_reducible exact OrdT.of (by kernel_rfl)) | exact True.intro | (with_reducible assumption) | omega | rfl | exact Nat.le_of_ble_eq_true rfl | exact Or.inl trivial | (unfold inI; omega)))))
    (first | refine CallE.mem (c1) (by first | rfl | (simp only [List.map_cons, List.map_nil, frz_sl, frz_agg8, frz_agg32, frz_vv, frz_hv]; done) | (simp only [List.map_cons, List.map_nil, frz_sl, frz_agg8, frz_agg32, frz_vv, frz_hv]; rfl)) (by simp [bor, look_cons, isBox]) (by rfl) ?_ | refine CallXE.mem (c1) (by first | rfl | (simp only [List.map_cons, List.map_nil, frz_sl, frz_agg8, frz_agg32, frz_vv, frz_hv]; done) | (simp only [List.map_cons, List.map_nil, frz_sl, frz_agg8, frz_agg32, frz_vv, frz_hv]; rfl)) (by simp [bor, look_cons, isBox]) (by rfl) ?_)
    repeat (first | simp only [go_sem, Nat.reduceLT, Nat.reduceEqDiff, reduceIte, Int.reduceEq, Int.reduceLE, Int.reduceLT, Nat.reduceMul, Nat.reduceAdd, Nat.reduceSub, Int.reduceNeg, Int.reduceAdd, Int.reduceMul, Int.reduceSub, Int.reduceToNat, Nat.reduceLeDiff, Nat.reduceDiv, Int.reduceDiv, reduceCtorEq, Option.some.injEq, exists_eq_left'] | refine AW.seq ?_ | refine AW.block ?_ | refine AW.scope ?_ | refine AW.cond_tt rfl ?_ | refine AW.cond_ff rfl ?_ | refine AW.label ?_ | refine AW.skip ?_ | refine AW.ret ?_ | refine AW.exit ?_ | refine AW.region ?_ | refine AW.draw (by kernel_rfl) (by decide +kernel) ?_ | refine AW.drawN (by kernel_rfl) (by decide +kernel) ?_ | ((with_reducible refine And.intro ?_ ?_); (focus ((repeat' (with_reducible apply And.intro)) <;> first | (with_reducible exact OrdAt.of (by kernel_rfl)) | (with_reducible exact OrdT.of (by kernel_rfl)) | exact True.intro | (with_reducible assumption) | omega | rfl | exact Nat.le_of_ble_eq_true rfl | exact Or.inl trivial | (unfold inI; omega)))))
    (first | refine CallE.mem (f27 B (by omega)) (by first | rfl | (simp only [List.map_cons, List.map_nil, frz_sl, frz_agg8, frz_agg32, frz_vv, frz_hv]; done) | (simp only [List.map_cons, List.map_nil, frz_sl, frz_agg8, frz_agg32, frz_vv, frz_hv]; rfl)) (by simp [bor, look_cons, isBox]) (by rfl) ?_ | refine CallXE.mem (f27 B (by omega)) (by first | rfl | (simp only [List.map_cons, List.map_nil, frz_sl, frz_agg8, frz_agg32, frz_vv, frz_hv]; done) | (simp only [List.map_cons, List.map_nil, frz_sl, frz_agg8, frz_agg32, frz_vv, frz_hv]; rfl)) (by simp [bor, look_cons, isBox]) (by rfl) ?_)
    repeat (first | simp only [go_sem, Nat.reduceLT, Nat.reduceEqDiff, reduceIte, Int.reduceEq, Int.reduceLE, Int.reduceLT, Nat.reduceMul, Nat.reduceAdd, Nat.reduceSub, Int.reduceNeg, Int.reduceAdd, Int.reduceMul, Int.reduceSub, Int.reduceToNat, Nat.reduceLeDiff, Nat.reduceDiv, Int.reduceDiv, reduceCtorEq, Option.some.injEq, exists_eq_left', hsum, hsp, tS, List.length_map, z32_len, map_dt_u8] | refine AW.seq ?_ | refine AW.block ?_ | refine AW.scope ?_ | refine AW.cond_tt rfl ?_ | refine AW.cond_ff rfl ?_ | refine AW.label ?_ | refine AW.skip ?_ | refine AW.ret ?_ | refine AW.exit ?_ | refine AW.region ?_ | refine AW.draw (by kernel_rfl) (by decide +kernel) ?_ | refine AW.drawN (by kernel_rfl) (by decide +kernel) ?_ | ((with_reducible refine And.intro ?_ ?_); (focus ((repeat' (with_reducible apply And.intro)) <;> first | (with_reducible exact OrdAt.of (by kernel_rfl)) | (with_reducible exact OrdT.of (by kernel_rfl)) | exact True.intro | (with_reducible assumption) | omega | rfl | exact Nat.le_of_ble_eq_true rfl | exact Or.inl trivial | (unfold inI; omega)))))
    exact Wk.refl _
def opens (c s l : List UInt8) (n : Int) (v : List UInt8) : Prop := ¬ chkBad l n v ∧ sumOf (itemT s l n v) = c
instance (c s l : List UInt8) (n : Int) (v : List UInt8) : Decidable (opens c s l n v) := by unfold opens; infer_instance
theorem f21 (c : List UInt8) (hc0 : c.length = 32) (s : List UInt8) (hs : s.length = 32) (l : List UInt8) (n : Int) (v : List UInt8) : AFun Tryd.prog 21 [.agg (c.map u8), .agg (s.map u8), .agg (itC l n v)] (boo (decide (opens c s l n v))) := by
  refine AFun.enterW Tryd.func21 rfl Tryd.call21 (by simp [Tryd.ntmps21]) fun γ1 => ?_
  simp only [frameOf, Tryd.ntmps21]
  have c1 := f14 s hs l n v
  have t0 : (s.map u8).take 32 = s.map u8 := List.take_of_length_le (by rw [List.length_map, hs]; exact Nat.le_refl _)
  have t1 : (c.map u8).take 32 = c.map u8 := List.take_of_length_le (by rw [List.length_map, hc0]; exact Nat.le_refl _)
  have hl := sealS_len s l n v
  have hS : sealS s l n v = if chkBad l n v then z32 else sumOf (itemT s l n v) := rfl
  generalize sealS s l n v = B at hl c1 hS
  have tB : (B.map u8).take 32 = B.map u8 := List.take_of_length_le (by rw [List.length_map, hl]; exact Nat.le_refl _)
  have hsp : splice (z32.map u8) 0 (B.map u8) = B.map u8 := spl8 (by rw [hl]; rfl)
  repeat (first | simp only [go_sem, Nat.reduceLT, Nat.reduceEqDiff, reduceIte, Int.reduceEq, Int.reduceLE, Int.reduceLT, Nat.reduceMul, Nat.reduceAdd, Nat.reduceSub, Int.reduceNeg, Int.reduceAdd, Int.reduceMul, Int.reduceSub, Int.reduceToNat, Nat.reduceLeDiff, Nat.reduceDiv, Int.reduceDiv, reduceCtorEq, Option.some.injEq, exists_eq_left', hs, hc0, List.length_map, t0, t1, List.length_cons, List.length_nil, z32_map, z32_len] | refine AW.seq ?_ | refine AW.block ?_ | refine AW.scope ?_ | refine AW.cond_tt rfl ?_ | refine AW.cond_ff rfl ?_ | refine AW.label ?_ | refine AW.skip ?_ | refine AW.ret ?_ | refine AW.exit ?_ | refine AW.region ?_ | refine AW.draw (by kernel_rfl) (by decide +kernel) ?_ | refine AW.drawN (by kernel_rfl) (by decide +kernel) ?_ | ((with_reducible refine And.intro ?_ ?_); (focus ((repeat' (with_reducible apply And.intro)) <;> first | (with_reducible exact OrdAt.of (by kernel_rfl)) | (with_reducible exact OrdT.of (by kernel_rfl)) | exact True.intro | (with_reducible assumption) | omega | rfl | exact Nat.le_of_ble_eq_true rfl | exact Or.inl trivial | (unfold inI; omega)))))
  (first | refine CallE.mem (c1) (by first | rfl | (simp only [List.map_cons, List.map_nil, frz_sl, frz_agg8, frz_agg32, frz_vv, frz_hv]; done) | (simp only [List.map_cons, List.map_nil, frz_sl, frz_agg8, frz_agg32, frz_vv, frz_hv]; rfl)) (by simp [bor, look_cons, isBox]) (by rfl) ?_ | refine CallXE.mem (c1) (by first | rfl | (simp only [List.map_cons, List.map_nil, frz_sl, frz_agg8, frz_agg32, frz_vv, frz_hv]; done) | (simp only [List.map_cons, List.map_nil, frz_sl, frz_agg8, frz_agg32, frz_vv, frz_hv]; rfl)) (by simp [bor, look_cons, isBox]) (by rfl) ?_)
  by_cases hc : chkBad l n v
  · have e : opens c s l n v = False := by simp [opens, hc]
    repeat (first | simp only [go_sem, Nat.reduceLT, Nat.reduceEqDiff, reduceIte, Int.reduceEq, Int.reduceLE, Int.reduceLT, Nat.reduceMul, Nat.reduceAdd, Nat.reduceSub, Int.reduceNeg, Int.reduceAdd, Int.reduceMul, Int.reduceSub, Int.reduceToNat, Nat.reduceLeDiff, Nat.reduceDiv, Int.reduceDiv, reduceCtorEq, Option.some.injEq, exists_eq_left', chk_bad hc, hs, hc0, hl, hsp, tB, List.length_map, t0, t1, List.length_cons, List.length_nil, z32_map, z32_len, e] | refine AW.seq ?_ | refine AW.block ?_ | refine AW.scope ?_ | refine AW.cond_tt rfl ?_ | refine AW.cond_ff rfl ?_ | refine AW.label ?_ | refine AW.skip ?_ | refine AW.ret ?_ | refine AW.exit ?_ | refine AW.region ?_ | refine AW.draw (by kernel_rfl) (by decide +kernel) ?_ | refine AW.drawN (by kernel_rfl) (by decide +kernel) ?_ | ((with_reducible refine And.intro ?_ ?_); (focus ((repeat' (with_reducible apply And.intro)) <;> first | (with_reducible exact OrdAt.of (by kernel_rfl)) | (with_reducible exact OrdT.of (by kernel_rfl)) | exact True.intro | (with_reducible assumption) | omega | rfl | exact Nat.le_of_ble_eq_true rfl | exact Or.inl trivial | (unfold inI; omega)))))
    exact Wk.refl _
  · rw [if_neg hc] at hS
    have e : opens c s l n v = (B = c) := by simp [opens, hc, hS]
    repeat (first | simp only [go_sem, Nat.reduceLT, Nat.reduceEqDiff, reduceIte, Int.reduceEq, Int.reduceLE, Int.reduceLT, Nat.reduceMul, Nat.reduceAdd, Nat.reduceSub, Int.reduceNeg, Int.reduceAdd, Int.reduceMul, Int.reduceSub, Int.reduceToNat, Nat.reduceLeDiff, Nat.reduceDiv, Int.reduceDiv, reduceCtorEq, Option.some.injEq, exists_eq_left', chk_ok hc, hs, hc0, hl, hsp, tB, List.length_map, t0, t1, List.length_cons, List.length_nil, z32_map, z32_len, e, eq_self, decide_true, exG_tt, aggEq_u8, intsOk_u8] | refine AW.seq ?_ | refine AW.block ?_ | refine AW.scope ?_ | refine AW.cond_tt rfl ?_ | refine AW.cond_ff rfl ?_ | refine AW.label ?_ | refine AW.skip ?_ | refine AW.ret ?_ | refine AW.exit ?_ | refine AW.region ?_ | refine AW.draw (by kernel_rfl) (by decide +kernel) ?_ | refine AW.drawN (by kernel_rfl) (by decide +kernel) ?_ | ((with_reducible refine And.intro ?_ ?_); (focus ((repeat' (with_reducible apply And.intro)) <;> first | (with_reducible exact OrdAt.of (by kernel_rfl)) | (with_reducible exact OrdT.of (by kernel_rfl)) | exact True.intro | (with_reducible assumption) | omega | rfl | exact Nat.le_of_ble_eq_true rfl | exact Or.inl trivial | (unfold inI; omega)))))
    exact Wk.refl _
theorem f9 (l : List UInt8) (n : Int) (v : List UInt8) : AFun Tryd.prog 9 [.agg (itC l n v)] (boo (decide (l.length ≤ 300 ∧ v.length ≤ 300))) := by
  refine AFun.enterW Tryd.func9 rfl Tryd.call9 (by simp [Tryd.ntmps9]) fun γ1 => ?_
  simp only [frameOf, Tryd.ntmps9]
  repeat (first | simp only [go_sem, Nat.reduceLT, Nat.reduceEqDiff, reduceIte, Int.reduceEq, Int.reduceLE, Int.reduceLT, Nat.reduceMul, Nat.reduceAdd, Nat.reduceSub, Int.reduceNeg, Int.reduceAdd, Int.reduceMul, Int.reduceSub, Int.reduceToNat, Nat.reduceLeDiff, Nat.reduceDiv, Int.reduceDiv, reduceCtorEq, Option.some.injEq, exists_eq_left', List.drop_succ_cons, List.drop_zero, List.length_cons, List.length_nil] | refine AW.seq ?_ | refine AW.block ?_ | refine AW.scope ?_ | refine AW.cond_tt rfl ?_ | refine AW.cond_ff rfl ?_ | refine AW.label ?_ | refine AW.skip ?_ | refine AW.ret ?_ | refine AW.exit ?_ | refine AW.region ?_ | refine AW.draw (by kernel_rfl) (by decide +kernel) ?_ | refine AW.drawN (by kernel_rfl) (by decide +kernel) ?_ | ((with_reducible refine And.intro ?_ ?_); (focus ((repeat' (with_reducible apply And.intro)) <;> first | (with_reducible exact OrdAt.of (by kernel_rfl)) | (with_reducible exact OrdT.of (by kernel_rfl)) | exact True.intro | (with_reducible assumption) | omega | rfl | exact Nat.le_of_ble_eq_true rfl | exact Or.inl trivial | (unfold inI; omega)))))
  refine exG_dec (fun h1 => ?_) (fun h1 => ?_)
  · repeat (first | simp only [go_sem, Nat.reduceLT, Nat.reduceEqDiff, reduceIte, Int.reduceEq, Int.reduceLE, Int.reduceLT, Nat.reduceMul, Nat.reduceAdd, Nat.reduceSub, Int.reduceNeg, Int.reduceAdd, Int.reduceMul, Int.reduceSub, Int.reduceToNat, Nat.reduceLeDiff, Nat.reduceDiv, Int.reduceDiv, reduceCtorEq, Option.some.injEq, exists_eq_left', List.drop_succ_cons, List.drop_zero, List.length_cons, List.length_nil] | refine AW.seq ?_ | refine AW.block ?_ | refine AW.scope ?_ | refine AW.cond_tt rfl ?_ | refine AW.cond_ff rfl ?_ | refine AW.label ?_ | refine AW.skip ?_ | refine AW.ret ?_ | refine AW.exit ?_ | refine AW.region ?_ | refine AW.draw (by kernel_rfl) (by decide +kernel) ?_ | refine AW.drawN (by kernel_rfl) (by decide +kernel) ?_ | ((with_reducible refine And.intro ?_ ?_); (focus ((repeat' (with_reducible apply And.intro)) <;> first | (with_reducible exact OrdAt.of (by kernel_rfl)) | (with_reducible exact OrdT.of (by kernel_rfl)) | exact True.intro | (with_reducible assumption) | omega | rfl | exact Nat.le_of_ble_eq_true rfl | exact Or.inl trivial | (unfold inI; omega)))))
    have e : ((v.length : Int) ≤ 300) = (l.length ≤ 300 ∧ v.length ≤ 300) := propext (by omega)
    simp only [e]
    exact Wk.refl _
  · have e : (l.length ≤ 300 ∧ v.length ≤ 300) = False := eq_false (by omega)
    repeat (first | simp only [go_sem, Nat.reduceLT, Nat.reduceEqDiff, reduceIte, Int.reduceEq, Int.reduceLE, Int.reduceLT, Nat.reduceMul, Nat.reduceAdd, Nat.reduceSub, Int.reduceNeg, Int.reduceAdd, Int.reduceMul, Int.reduceSub, Int.reduceToNat, Nat.reduceLeDiff, Nat.reduceDiv, Int.reduceDiv, reduceCtorEq, Option.some.injEq, exists_eq_left', e] | refine AW.seq ?_ | refine AW.block ?_ | refine AW.scope ?_ | refine AW.cond_tt rfl ?_ | refine AW.cond_ff rfl ?_ | refine AW.label ?_ | refine AW.skip ?_ | refine AW.ret ?_ | refine AW.exit ?_ | refine AW.region ?_ | refine AW.draw (by kernel_rfl) (by decide +kernel) ?_ | refine AW.drawN (by kernel_rfl) (by decide +kernel) ?_ | ((with_reducible refine And.intro ?_ ?_); (focus ((repeat' (with_reducible apply And.intro)) <;> first | (with_reducible exact OrdAt.of (by kernel_rfl)) | (with_reducible exact OrdT.of (by kernel_rfl)) | exact True.intro | (with_reducible assumption) | omega | rfl | exact Nat.le_of_ble_eq_true rfl | exact Or.inl trivial | (unfold inI; omega)))))
    exact Wk.refl _
theorem f18 (l : List UInt8) (n : Int) (v : List UInt8) (l2 : List UInt8) (n2 : Int) (v2 : List UInt8) : AFun Tryd.prog 18 [.agg (itC l n v), .agg (itC l2 n2 v2)] (boo (decide (l = l2 ∧ n = n2 ∧ v = v2))) := by
  refine AFun.enterW Tryd.func18 rfl Tryd.call18 (by simp [Tryd.ntmps18]) fun γ1 => ?_
  simp only [frameOf, Tryd.ntmps18]
  repeat (first | simp only [go_sem, Nat.reduceLT, Nat.reduceEqDiff, reduceIte, Int.reduceEq, Int.reduceLE, Int.reduceLT, Nat.reduceMul, Nat.reduceAdd, Nat.reduceSub, Int.reduceNeg, Int.reduceAdd, Int.reduceMul, Int.reduceSub, Int.reduceToNat, Nat.reduceLeDiff, Nat.reduceDiv, Int.reduceDiv, reduceCtorEq, Option.some.injEq, exists_eq_left', List.drop_succ_cons, List.drop_zero, List.length_cons, List.length_nil, bytesA_bys, bytesOk_bys] | refine AW.seq ?_ | refine AW.block ?_ | refine AW.scope ?_ | refine AW.cond_tt rfl ?_ | refine AW.cond_ff rfl ?_ | refine AW.label ?_ | refine AW.skip ?_ | refine AW.ret ?_ | refine AW.exit ?_ | refine AW.region ?_ | refine AW.draw (by kernel_rfl) (by decide +kernel) ?_ | refine AW.drawN (by kernel_rfl) (by decide +kernel) ?_ | ((with_reducible refine And.intro ?_ ?_); (focus ((repeat' (with_reducible apply And.intro)) <;> first | (with_reducible exact OrdAt.of (by kernel_rfl)) | (with_reducible exact OrdT.of (by kernel_rfl)) | exact True.intro | (with_reducible assumption) | omega | rfl | exact Nat.le_of_ble_eq_true rfl | exact Or.inl trivial | (unfold inI; omega)))))
  refine exG_dec (fun h1 => ?_) (fun h1 => ?_)
  · repeat (first | simp only [go_sem, Nat.reduceLT, Nat.reduceEqDiff, reduceIte, Int.reduceEq, Int.reduceLE, Int.reduceLT, Nat.reduceMul, Nat.reduceAdd, Nat.reduceSub, Int.reduceNeg, Int.reduceAdd, Int.reduceMul, Int.reduceSub, Int.reduceToNat, Nat.reduceLeDiff, Nat.reduceDiv, Int.reduceDiv, reduceCtorEq, Option.some.injEq, exists_eq_left', List.drop_succ_cons, List.drop_zero, List.length_cons, List.length_nil, bytesA_bys, bytesOk_bys] | refine AW.seq ?_ | refine AW.block ?_ | refine AW.scope ?_ | refine AW.cond_tt rfl ?_ | refine AW.cond_ff rfl ?_ | refine AW.label ?_ | refine AW.skip ?_ | refine AW.ret ?_ | refine AW.exit ?_ | refine AW.region ?_ | refine AW.draw (by kernel_rfl) (by decide +kernel) ?_ | refine AW.drawN (by kernel_rfl) (by decide +kernel) ?_ | ((with_reducible refine And.intro ?_ ?_); (focus ((repeat' (with_reducible apply And.intro)) <;> first | (with_reducible exact OrdAt.of (by kernel_rfl)) | (with_reducible exact OrdT.of (by kernel_rfl)) | exact True.intro | (with_reducible assumption) | omega | rfl | exact Nat.le_of_ble_eq_true rfl | exact Or.inl trivial | (unfold inI; omega)))))
    refine exG_dec (fun h2 => ?_) (fun h2 => ?_)
    · repeat (first | simp only [go_sem, Nat.reduceLT, Nat.reduceEqDiff, reduceIte, Int.reduceEq, Int.reduceLE, Int.reduceLT, Nat.reduceMul, Nat.reduceAdd, Nat.reduceSub, Int.reduceNeg, Int.reduceAdd, Int.reduceMul, Int.reduceSub, Int.reduceToNat, Nat.reduceLeDiff, Nat.reduceDiv, Int.reduceDiv, reduceCtorEq, Option.some.injEq, exists_eq_left', List.drop_succ_cons, List.drop_zero, List.length_cons, List.length_nil, bytesA_bys, bytesOk_bys] | refine AW.seq ?_ | refine AW.block ?_ | refine AW.scope ?_ | refine AW.cond_tt rfl ?_ | refine AW.cond_ff rfl ?_ | refine AW.label ?_ | refine AW.skip ?_ | refine AW.ret ?_ | refine AW.exit ?_ | refine AW.region ?_ | refine AW.draw (by kernel_rfl) (by decide +kernel) ?_ | refine AW.drawN (by kernel_rfl) (by decide +kernel) ?_ | ((with_reducible refine And.intro ?_ ?_); (focus ((repeat' (with_reducible apply And.intro)) <;> first | (with_reducible exact OrdAt.of (by kernel_rfl)) | (with_reducible exact OrdT.of (by kernel_rfl)) | exact True.intro | (with_reducible assumption) | omega | rfl | exact Nat.le_of_ble_eq_true rfl | exact Or.inl trivial | (unfold inI; omega)))))
      have h1' : l = l2 := by simpa using h1
      have e : decide (v = v2) = decide (l = l2 ∧ n = n2 ∧ v = v2) := by simp [h1', h2]
      rw [← e]
      exact Wk.refl _
    · have e : (l = l2 ∧ n = n2 ∧ v = v2) = False := by simp [h2]
      repeat (first | simp only [go_sem, Nat.reduceLT, Nat.reduceEqDiff, reduceIte, Int.reduceEq, Int.reduceLE, Int.reduceLT, Nat.reduceMul, Nat.reduceAdd, Nat.reduceSub, Int.reduceNeg, Int.reduceAdd, Int.reduceMul, Int.reduceSub, Int.reduceToNat, Nat.reduceLeDiff, Nat.reduceDiv, Int.reduceDiv, reduceCtorEq, Option.some.injEq, exists_eq_left', e] | refine AW.seq ?_ | refine AW.block ?_ | refine AW.scope ?_ | refine AW.cond_tt rfl ?_ | refine AW.cond_ff rfl ?_ | refine AW.label ?_ | refine AW.skip ?_ | refine AW.ret ?_ | refine AW.exit ?_ | refine AW.region ?_ | refine AW.draw (by kernel_rfl) (by decide +kernel) ?_ | refine AW.drawN (by kernel_rfl) (by decide +kernel) ?_ | ((with_reducible refine And.intro ?_ ?_); (focus ((repeat' (with_reducible apply And.intro)) <;> first | (with_reducible exact OrdAt.of (by kernel_rfl)) | (with_reducible exact OrdT.of (by kernel_rfl)) | exact True.intro | (with_reducible assumption) | omega | rfl | exact Nat.le_of_ble_eq_true rfl | exact Or.inl trivial | (unfold inI; omega)))))
      exact Wk.refl _
  · have h1' : ¬ l = l2 := by simpa using h1
    have e : (l = l2 ∧ n = n2 ∧ v = v2) = False := by simp [h1']
    repeat (first | simp only [go_sem, Nat.reduceLT, Nat.reduceEqDiff, reduceIte, Int.reduceEq, Int.reduceLE, Int.reduceLT, Nat.reduceMul, Nat.reduceAdd, Nat.reduceSub, Int.reduceNeg, Int.reduceAdd, Int.reduceMul, Int.reduceSub, Int.reduceToNat, Nat.reduceLeDiff, Nat.reduceDiv, Int.reduceDiv, reduceCtorEq, Option.some.injEq, exists_eq_left', e] | refine AW.seq ?_ | refine AW.block ?_ | refine AW.scope ?_ | refine AW.cond_tt rfl ?_ | refine AW.cond_ff rfl ?_ | refine AW.label ?_ | refine AW.skip ?_ | refine AW.ret ?_ | refine AW.exit ?_ | refine AW.region ?_ | refine AW.draw (by kernel_rfl) (by decide +kernel) ?_ | refine AW.drawN (by kernel_rfl) (by decide +kernel) ?_ | ((with_reducible refine And.intro ?_ ?_); (focus ((repeat' (with_reducible apply And.intro)) <;> first | (with_reducible exact OrdAt.of (by kernel_rfl)) | (with_reducible exact OrdT.of (by kernel_rfl)) | exact True.intro | (with_reducible assumption) | omega | rfl | exact Nat.le_of_ble_eq_true rfl | exact Or.inl trivial | (unfold inI; omega)))))
    exact Wk.refl _
end Go.Proofs.YtaghnjehlpbdkaaDoor

namespace Go.Proofs.YtaghnjehlpbdkaaDoor
open Go Go.Eng Go.Proofs
set_option maxRecDepth 100000
set_option maxHeartbeats 1000000
set_option linter.unusedSimpArgs false
set_option linter.unusedVariables false
theorem hob2 {A B nx : Nat} {hp hp' : List (Nat × Ob)} {oA oB oA' oB' : Ob} (hAB : A ≠ B) (hA : A < nx) (hB : B < nx) (lA : labO nx oA') (lB : labO nx oB') (hlA : Eng.look hp' A = some oA) (hlB : Eng.look hp' B = some oB)
    (hrest : ∀ l, l < nx → l ≠ A → l ≠ B → Eng.look hp' l = Eng.look hp l) (wA : WkO oA oA') (wB : WkO oB oB') (hlab : ∀ l ob, Eng.look hp l = some ob → l < nx ∧ labO nx ob) :
    ∀ l ob2, Eng.look ([(A, oA'), (B, oB')] ++ hp) l = some ob2 → l < nx ∧ labO nx ob2 ∧ ∃ ob, Eng.look hp' l = some ob ∧ WkO ob ob2 := by
  intro l ob2 h
  simp only [List.cons_append, List.nil_append, look_cons] at h
  by_cases e : A = l
  · subst e
    rw [if_pos rfl] at h; cases h
    exact ⟨hA, lA, oA, hlA, wA⟩
  · rw [if_neg e] at h
    by_cases e2 : B = l
    · subst e2
      rw [if_pos rfl] at h; cases h
      exact ⟨hB, lB, oB, hlB, wB⟩
    · rw [if_neg e2] at h
      obtain ⟨h1, h2⟩ := hlab l ob2 h
      exact ⟨h1, h2, ob2, by rw [hrest l h1 (Ne.symm e) (Ne.symm e2), h], WkO.refl _⟩
def cutV (L : List UInt8) (n : Nat) : List UInt8 := if L.length < n then List.replicate n 0 else L.take n
def cutL (L : List UInt8) (n : Nat) : List UInt8 := if L.length < n then [] else L.drop n
def cutW (L : List UInt8) (w : Bool) (n : Nat) : Bool := if L.length < n then false else w
theorem cutV_len (L : List UInt8) (n : Nat) : (cutV L n).length = n := by
  unfold cutV; split
  · simp
  · rw [List.length_take]; omega
theorem cutL_le (L : List UInt8) (n : Nat) : (cutL L n).length ≤ L.length := by
  unfold cutL; split
  · simp
  · rw [List.length_drop]; omega
abbrev lfB (L : List UInt8) (w : Bool) : List (Nat × Ob) := [(2, .box [.sl 1 (bys L) L.length none]), (3, .box [boo w])]
theorem m28 (L : List UInt8) (hL : L.length ≤ 1000) (w : Bool) (n : Nat) (hn : n ≤ 100000) : CallM Tryd.prog 28 [int n, .loc 2 0, .loc 3 0] (lfB L w) (lfB (cutL L n) (cutW L w n)) (.sl 1 (bys (cutV L n)) n none) := by
  refine CallM.enter Tryd.func28 rfl Tryd.call28 (by simp [Tryd.ntmps28]) fun γ1 hp nx hbx hlab => ?_
  simp only [frameOf, Tryd.ntmps28, List.cons_append, List.nil_append]
  have h2 : 2 < nx := (hlab 2 _ (hbx 2 _ rfl)).1
  have h3 : 3 < nx := (hlab 3 _ (hbx 3 _ rfl)).1
  have n2 : (nx = 2) = False := eq_false (by omega)
  have n3 : (nx = 3) = False := eq_false (by omega)
  repeat (first | simp only [go_sem, Nat.reduceLT, Nat.reduceEqDiff, reduceIte, Int.reduceEq, Int.reduceLE, Int.reduceLT, Nat.reduceMul, Nat.reduceAdd, Nat.reduceSub, Int.reduceNeg, Int.reduceAdd, Int.reduceMul, Int.reduceSub, Int.reduceToNat, Nat.reduceLeDiff, Nat.reduceDiv, Int.reduceDiv, reduceCtorEq, Option.some.injEq, exists_eq_left'] | refine AW.seq ?_ | refine AW.block ?_ | refine AW.scope ?_ | refine AW.cond_tt rfl ?_ | refine AW.cond_ff rfl ?_ | refine AW.label ?_ | refine AW.skip ?_ | refine AW.ret ?_ | refine AW.exit ?_ | refine AW.region ?_ | refine AW.draw (by kernel_rfl) (by decide +kernel) ?_ | refine AW.drawN (by kernel_rfl) (by decide +kernel) ?_ | ((with_reducible refine And.intro ?_ ?_); (focus ((repeat' (with_reducible apply And.intro)) <;> first | (with_reducible exact OrdAt.of (by kernel_rfl)) | (with_reducible exact OrdT.of (by kernel_rfl)) | exact True.intro | (with_reducible assumption) | omega | rfl | exact Nat.le_of_ble_eq_true rfl | exact Or.inl trivial | (unfold inI; omega)))))
  refine AW.cond_dec rfl (fun h1 => ?_) (fun h1 => ?_)
  · have hlt : L.length < n := by omega
    repeat (first | simp only [go_sem, Nat.reduceLT, Nat.reduceEqDiff, reduceIte, Int.reduceEq, Int.reduceLE, Int.reduceLT, Nat.reduceMul, Nat.reduceAdd, Nat.reduceSub, Int.reduceNeg, Int.reduceAdd, Int.reduceMul, Int.reduceSub, Int.reduceToNat, Nat.reduceLeDiff, Nat.reduceDiv, Int.reduceDiv, reduceCtorEq, Option.some.injEq, exists_eq_left', n2, n3] | refine AW.seq ?_ | refine AW.block ?_ | refine AW.scope ?_ | refine AW.cond_tt rfl ?_ | refine AW.cond_ff rfl ?_ | refine AW.label ?_ | refine AW.skip ?_ | refine AW.ret ?_ | refine AW.exit ?_ | refine AW.region ?_ | refine AW.draw (by kernel_rfl) (by decide +kernel) ?_ | refine AW.drawN (by kernel_rfl) (by decide +kernel) ?_ | ((with_reducible refine And.intro ?_ ?_); (focus ((repeat' (with_reducible apply And.intro)) <;> first | (with_reducible exact OrdAt.of (by kernel_rfl)) | (with_reducible exact OrdT.of (by kernel_rfl)) | exact True.intro | (with_reducible assumption) | omega | rfl | exact Nat.le_of_ble_eq_true rfl | exact Or.inl trivial | (unfold inI; omega)))))
    refine (SubK.frz (by simp [borR, bor, look_cons, isBox])).trans ?_
    have e : frzR ((nx, Ob.box (zrow [u8 0] n)) :: (2, Ob.box [AV.v (Value.slice none 0 0)]) :: (3, Ob.box [boo false]) :: hp) (AV.bsl 1 nx 0 n) = .sl 1 (bys (cutV L n)) n none := by
      have hz : zrow [u8 0] n = bys (List.replicate n 0) := by simp [zrow, bys]
      have hd : ∀ b : List UInt8, (bys b).map dt = bys b := fun b => by simp [bys, dt]
      have hl : (bys (List.replicate n 0)).length = n := by simp [bys]
      have hrow : rowOf ((nx, Ob.box (bys (List.replicate n 0))) :: (2, Ob.box [AV.v (Value.slice none 0 0)]) :: (3, Ob.box [boo false]) :: hp) nx = bys (List.replicate n 0) := by
        simp only [rowOf, look_cons, if_true]
      rw [hz]
      simp only [frzR, frz, hrow, Nat.mul_one, Nat.zero_add, hl, List.drop_zero]
      rw [if_pos ⟨by omega, Nat.le_refl _⟩, List.take_of_length_le (by rw [hl]; exact Nat.le_refl _), hd, cutV, if_pos hlt]
    rw [e]
    refine SubK.mk (WkF.refl _) (by simp [lab]) (hob2 (oA := .box [nilS]) (oB := .box [boo false]) (by decide) h2 h3 (by simp [labO, labL, lab]) (by simp [labO, labL, lab]) ?_ ?_ ?_ ?_ ?_ hlab)
    · simp [borR, bor, look_dels, look_cons, n2, n3, show ¬ 2 = nx by omega, show ¬ 3 = nx by omega]
    · simp [borR, bor, look_dels, look_cons, n2, n3, show ¬ 2 = nx by omega, show ¬ 3 = nx by omega]
    · intro l hl e2 e3
      have : nx ≠ l := by omega
      simp [borR, bor, look_dels, look_cons, n2, n3, Ne.symm e2, Ne.symm e3, this, Ne.symm this]
    · exact WkFL.cons (WkF.nil (by simp [cutL, hlt]) (by simp [cutL, hlt, bys])) (WkFL.refl _)
    · rw [cutW, if_pos hlt]; exact WkO.refl _
  · have hlt : ¬ L.length < n := by omega
    repeat (first | simp only [go_sem, Nat.reduceLT, Nat.reduceEqDiff, reduceIte, Int.reduceEq, Int.reduceLE, Int.reduceLT, Nat.reduceMul, Nat.reduceAdd, Nat.reduceSub, Int.reduceNeg, Int.reduceAdd, Int.reduceMul, Int.reduceSub, Int.reduceToNat, Nat.reduceLeDiff, Nat.reduceDiv, Int.reduceDiv, reduceCtorEq, Option.some.injEq, exists_eq_left', n2, n3] | refine AW.seq ?_ | refine AW.block ?_ | refine AW.scope ?_ | refine AW.cond_tt rfl ?_ | refine AW.cond_ff rfl ?_ | refine AW.label ?_ | refine AW.skip ?_ | refine AW.ret ?_ | refine AW.exit ?_ | refine AW.region ?_ | refine AW.draw (by kernel_rfl) (by decide +kernel) ?_ | refine AW.drawN (by kernel_rfl) (by decide +kernel) ?_ | ((with_reducible refine And.intro ?_ ?_); (focus ((repeat' (with_reducible apply And.intro)) <;> first | (with_reducible exact OrdAt.of (by kernel_rfl)) | (with_reducible exact OrdT.of (by kernel_rfl)) | exact True.intro | (with_reducible assumption) | omega | rfl | exact Nat.le_of_ble_eq_true rfl | exact Or.inl trivial | (unfold inI; omega)))))
    have e1 : ((L.length : Int) - (n : Int)).toNat = L.length - n := by omega
    have e2 : (L.drop n).take (L.length - n) = L.drop n := List.take_of_length_le (by rw [List.length_drop]; exact Nat.le_refl _)
    rw [e1, e2]
    have eV : cutV L n = L.take n := if_neg hlt
    have eL : cutL L n = L.drop n := if_neg hlt
    have eW : cutW L w n = w := if_neg hlt
    rw [eV, eL, eW, List.length_drop]
    refine SubK.mk (WkF.refl _) (by simp [lab]) (hob2 (oA := .box [.sl 1 (bys (L.drop n)) (L.length - n) none]) (oB := .box [boo w]) (by decide) h2 h3 (by simp [labO, labL, lab]) (by simp [labO, labL, lab]) ?_ ?_ ?_ (WkO.refl _) (WkO.refl _) hlab)
    · simp [look_cons]
    · simp [look_cons]
    · intro l hl e2 e3
      simp [look_cons, Ne.symm e2, Ne.symm e3]
end Go.Proofs.YtaghnjehlpbdkaaDoor

namespace Go.Proofs.YtaghnjehlpbdkaaDoor
open Go Go.Eng Go.Proofs
set_option maxRecDepth 100000
set_option maxHeartbeats 1000000
set_option linter.unusedSimpArgs false
set_option linter.unusedVariables false
abbrev cutB : Ob := .box [.fn (.func 28) [] [.loc 2 0, .loc 3 0]]
abbrev numB : Ob := .box [.fn (.func 29) [] [.loc 4 0]]
theorem take_cut (L : List UInt8) (k : Nat) (h1 : 1 ≤ k) (h8 : k ≤ 8) : takeN (cutV L k) k = takeF (cutV L k) := by
  have hb : ¬ takeBad (cutV L k) k := by unfold takeBad; rw [cutV_len]; omega
  rw [takeN, if_neg hb, Int.toNat_natCast, List.take_of_length_le (by rw [cutV_len]; exact Nat.le_refl _)]
theorem c30 (L : List UInt8) (k : Nat) (h1 : 1 ≤ k) (h8 : k ≤ 8) : AFun Tryd.prog 30 [.sl 1 (bys (cutV L k)) k none, int k] (.tup [u64 (takeF (cutV L k)), .sl 1 (bys (takeR (cutV L k) k)) (takeR (cutV L k) k).length none, int (takeE (cutV L k) k)]) := by
  have c := f30 (cutV L k) (by rw [cutV_len]; omega) k (by unfold inI; omega)
  rwa [cutV_len, take_cut L k h1 h8] at c
theorem m29 (L : List UInt8) (hL : L.length ≤ 1000) (w : Bool) (k : Nat) (h1 : 1 ≤ k) (h8 : k ≤ 8) : CallM Tryd.prog 29 [int k, .loc 4 0] ((4, cutB) :: lfB L w) (lfB (cutL L k) (cutW L w k)) (u64 (takeF (cutV L k))) := by
  refine CallM.enter Tryd.func29 rfl Tryd.call29 (by simp [Tryd.ntmps29]) fun γ1 hp nx hbx hlab => ?_
  simp only [frameOf, Tryd.ntmps29, List.cons_append, List.nil_append]
  have e4 := hbx 4 _ rfl
  have h2 : 2 < nx := (hlab 2 _ (hbx 2 _ rfl)).1
  have h3 : 3 < nx := (hlab 3 _ (hbx 3 _ rfl)).1
  repeat (first | simp only [go_sem, Nat.reduceLT, Nat.reduceEqDiff, reduceIte, Int.reduceEq, Int.reduceLE, Int.reduceLT, Nat.reduceMul, Nat.reduceAdd, Nat.reduceSub, Int.reduceNeg, Int.reduceAdd, Int.reduceMul, Int.reduceSub, Int.reduceToNat, Nat.reduceLeDiff, Nat.reduceDiv, Int.reduceDiv, reduceCtorEq, Option.some.injEq, exists_eq_left'] | refine AW.seq ?_ | refine AW.block ?_ | refine AW.scope ?_ | refine AW.cond_tt rfl ?_ | refine AW.cond_ff rfl ?_ | refine AW.label ?_ | refine AW.skip ?_ | refine AW.ret ?_ | refine AW.exit ?_ | refine AW.region ?_ | refine AW.draw (by kernel_rfl) (by decide +kernel) ?_ | refine AW.drawN (by kernel_rfl) (by decide +kernel) ?_ | ((with_reducible refine And.intro ?_ ?_); (focus ((repeat' (with_reducible apply And.intro)) <;> first | (with_reducible exact OrdAt.of (by kernel_rfl)) | (with_reducible exact OrdT.of (by kernel_rfl)) | exact True.intro | (with_reducible assumption) | omega | rfl | exact Nat.le_of_ble_eq_true rfl | exact Or.inl trivial | (unfold inI; omega)))))
  (first | refine CallE.m (m28 L hL w k (by omega)) (by intro l ob h; simp only [look_cons, look_nil] at h; (repeat' split at h) <;> first | (cases h; done) | (rename_i e; subst e; simpa [look_cons] using h)) (by simp [look_cons]) (by rfl) ?_ | refine CallDE.m (m28 L hL w k (by omega)) (by intro l ob h; simp only [look_cons, look_nil] at h; (repeat' split at h) <;> first | (cases h; done) | (rename_i e; subst e; simpa [look_cons] using h)) (by rfl) (by rfl) (by rfl) (by rfl) ?_)
  repeat (first | simp only [go_sem, Nat.reduceLT, Nat.reduceEqDiff, reduceIte, Int.reduceEq, Int.reduceLE, Int.reduceLT, Nat.reduceMul, Nat.reduceAdd, Nat.reduceSub, Int.reduceNeg, Int.reduceAdd, Int.reduceMul, Int.reduceSub, Int.reduceToNat, Nat.reduceLeDiff, Nat.reduceDiv, Int.reduceDiv, reduceCtorEq, Option.some.injEq, exists_eq_left'] | refine AW.seq ?_ | refine AW.block ?_ | refine AW.scope ?_ | refine AW.cond_tt rfl ?_ | refine AW.cond_ff rfl ?_ | refine AW.label ?_ | refine AW.skip ?_ | refine AW.ret ?_ | refine AW.exit ?_ | refine AW.region ?_ | refine AW.draw (by kernel_rfl) (by decide +kernel) ?_ | refine AW.drawN (by kernel_rfl) (by decide +kernel) ?_ | ((with_reducible refine And.intro ?_ ?_); (focus ((repeat' (with_reducible apply And.intro)) <;> first | (with_reducible exact OrdAt.of (by kernel_rfl)) | (with_reducible exact OrdT.of (by kernel_rfl)) | exact True.intro | (with_reducible assumption) | omega | rfl | exact Nat.le_of_ble_eq_true rfl | exact Or.inl trivial | (unfold inI; omega)))))
  (first | refine CallE.mem (c30 L k h1 h8) (by first | rfl | (simp only [List.map_cons, List.map_nil, frz_sl, frz_agg8, frz_agg32, frz_vv, frz_hv]; done) | (simp only [List.map_cons, List.map_nil, frz_sl, frz_agg8, frz_agg32, frz_vv, frz_hv]; rfl)) (by simp [bor, look_cons, isBox]) (by rfl) ?_ | refine CallXE.mem (c30 L k h1 h8) (by first | rfl | (simp only [List.map_cons, List.map_nil, frz_sl, frz_agg8, frz_agg32, frz_vv, frz_hv]; done) | (simp only [List.map_cons, List.map_nil, frz_sl, frz_agg8, frz_agg32, frz_vv, frz_hv]; rfl)) (by simp [bor, look_cons, isBox]) (by rfl) ?_)
  repeat (first | simp only [go_sem, Nat.reduceLT, Nat.reduceEqDiff, reduceIte, Int.reduceEq, Int.reduceLE, Int.reduceLT, Nat.reduceMul, Nat.reduceAdd, Nat.reduceSub, Int.reduceNeg, Int.reduceAdd, Int.reduceMul, Int.reduceSub, Int.reduceToNat, Nat.reduceLeDiff, Nat.reduceDiv, Int.reduceDiv, reduceCtorEq, Option.some.injEq, exists_eq_left'] | refine AW.seq ?_ | refine AW.block ?_ | refine AW.scope ?_ | refine AW.cond_tt rfl ?_ | refine AW.cond_ff rfl ?_ | refine AW.label ?_ | refine AW.skip ?_ | refine AW.ret ?_ | refine AW.exit ?_ | refine AW.region ?_ | refine AW.draw (by kernel_rfl) (by decide +kernel) ?_ | refine AW.drawN (by kernel_rfl) (by decide +kernel) ?_ | ((with_reducible refine And.intro ?_ ?_); (focus ((repeat' (with_reducible apply And.intro)) <;> first | (with_reducible exact OrdAt.of (by kernel_rfl)) | (with_reducible exact OrdT.of (by kernel_rfl)) | exact True.intro | (with_reducible assumption) | omega | rfl | exact Nat.le_of_ble_eq_true rfl | exact Or.inl trivial | (unfold inI; omega)))))
  refine SubK.mk (WkF.refl _) (by simp [lab]) (hob2 (oA := .box [.sl 1 (bys (cutL L k)) (cutL L k).length none]) (oB := .box [boo (cutW L w k)]) (by decide) h2 h3 (by simp [labO, labL, lab]) (by simp [labO, labL, lab]) (by simp [look_cons]) (by simp [look_cons]) ?_ (WkO.refl _) (WkO.refl _) hlab)
  intro l hl e2 e3
  by_cases e : 4 = l
  · subst e; simp [look_cons, e4]
  · simp [look_cons, Ne.symm e2, Ne.symm e3, e]
theorem takeF_lt (b : List UInt8) (h : b.length ≤ 2) : (takeF b).toNat < 65536 := by
  have e : takeF b = takeG b := by
    unfold takeF takeG
    congr 1
    funext n x
    exact shl_or n x
  rw [e]
  match b, h with
  | [], _ => decide
  | [x], _ =>
    have := x.toNat_lt
    simp only [takeG, List.foldl_cons, List.foldl_nil, UInt64.toNat_add, UInt64.toNat_mul, UInt8.toNat_toUInt64]
    simp; omega
  | [x, y], _ =>
    have := x.toNat_lt
    have := y.toNat_lt
    simp only [takeG, List.foldl_cons, List.foldl_nil, UInt64.toNat_add, UInt64.toNat_mul, UInt8.toNat_toUInt64]
    simp; omega
  | _ :: _ :: _ :: _, h => simp at h
/-- a text's length, and what is behind -/
def txM (L : List UInt8) : Nat := (takeF (cutV L 2)).toNat
theorem txM_lt (L : List UInt8) : txM L < 65536 := takeF_lt _ (by rw [cutV_len]; exact Nat.le_refl _)
def txV (L : List UInt8) : List UInt8 := cutV (cutL L 2) (txM L)
def txL (L : List UInt8) : List UInt8 := cutL (cutL L 2) (txM L)
def txW (L : List UInt8) (w : Bool) : Bool := cutW (cutL L 2) (cutW L w 2) (txM L)
theorem txV_len (L : List UInt8) : (txV L).length = txM L := cutV_len _ _
theorem txL_le (L : List UInt8) : (txL L).length ≤ L.length := Nat.le_trans (cutL_le _ _) (cutL_le _ _)
theorem m31 (L : List UInt8) (hL : L.length ≤ 1000) (w : Bool) : CallM Tryd.prog 31 [.loc 4 0, .loc 5 0] ((4, cutB) :: (5, numB) :: lfB L w) (lfB (txL L) (txW L w)) (.sl 1 (bys (txV L)) (txV L).length none) := by
  refine CallM.enter Tryd.func31 rfl Tryd.call31 (by simp [Tryd.ntmps31]) fun γ1 hp nx hbx hlab => ?_
  simp only [frameOf, Tryd.ntmps31, List.cons_append, List.nil_append]
  have e4 := hbx 4 _ rfl
  have e5 := hbx 5 _ rfl
  have h2 : 2 < nx := (hlab 2 _ (hbx 2 _ rfl)).1
  have h3 : 3 < nx := (hlab 3 _ (hbx 3 _ rfl)).1
  have hlt := txM_lt L
  have ew : IntKind.i64.wrap ((takeF (cutV L 2)).toNat : Int) = ((txM L : Nat) : Int) := wrapI _ (by unfold inI; unfold txM at hlt; omega)
  repeat (first | simp only [go_sem, Nat.reduceLT, Nat.reduceEqDiff, reduceIte, Int.reduceEq, Int.reduceLE, Int.reduceLT, Nat.reduceMul, Nat.reduceAdd, Nat.reduceSub, Int.reduceNeg, Int.reduceAdd, Int.reduceMul, Int.reduceSub, Int.reduceToNat, Nat.reduceLeDiff, Nat.reduceDiv, Int.reduceDiv, reduceCtorEq, Option.some.injEq, exists_eq_left'] | refine AW.seq ?_ | refine AW.block ?_ | refine AW.scope ?_ | refine AW.cond_tt rfl ?_ | refine AW.cond_ff rfl ?_ | refine AW.label ?_ | refine AW.skip ?_ | refine AW.ret ?_ | refine AW.exit ?_ | refine AW.region ?_ | ((with_reducible refine And.intro ?_ ?_); (focus ((repeat' (with_reducible apply And.intro)) <;> first | (with_reducible exact OrdAt.of (by kernel_rfl)) | (with_reducible exact OrdT.of (by kernel_rfl)) | exact exOk_no rfl | exact exOk_ld rfl | exact True.intro | assumption | omega | rfl | exact Nat.le_of_ble_eq_true rfl | exact Or.inl trivial | (unfold inI; omega)))))
  refine AW.drawM (by kernel_rfl) ?_
  repeat (first | simp only [go_sem, Nat.reduceLT, Nat.reduceEqDiff, reduceIte, Int.reduceEq, Int.reduceLE, Int.reduceLT, Nat.reduceMul, Nat.reduceAdd, Nat.reduceSub, Int.reduceNeg, Int.reduceAdd, Int.reduceMul, Int.reduceSub, Int.reduceToNat, Nat.reduceLeDiff, Nat.reduceDiv, Int.reduceDiv, reduceCtorEq, Option.some.injEq, exists_eq_left'] | refine AW.seq ?_ | refine AW.block ?_ | refine AW.scope ?_ | refine AW.cond_tt rfl ?_ | refine AW.cond_ff rfl ?_ | refine AW.label ?_ | refine AW.skip ?_ | refine AW.ret ?_ | refine AW.exit ?_ | refine AW.region ?_ | ((with_reducible refine And.intro ?_ ?_); (focus ((repeat' (with_reducible apply And.intro)) <;> first | (with_reducible exact OrdAt.of (by kernel_rfl)) | (with_reducible exact OrdT.of (by kernel_rfl)) | exact exOk_no rfl | exact exOk_ld rfl | exact True.intro | assumption | omega | rfl | exact Nat.le_of_ble_eq_true rfl | exact Or.inl trivial | (unfold inI; omega)))))
  (first | refine CallE.m (m29 L hL w 2 (by decide) (by decide)) (by intro l ob h; simp only [look_cons, look_nil] at h; (repeat' split at h) <;> first | (cases h; done) | (rename_i e; subst e; simpa [look_cons] using h)) (by simp [look_cons]) (by rfl) ?_ | refine CallDE.m (m29 L hL w 2 (by decide) (by decide)) (by intro l ob h; simp only [look_cons, look_nil] at h; (repeat' split at h) <;> first | (cases h; done) | (rename_i e; subst e; simpa [look_cons] using h)) (by rfl) (by rfl) (by rfl) (by rfl) ?_)
  repeat (first | simp only [go_sem, Nat.reduceLT, Nat.reduceEqDiff, reduceIte, Int.reduceEq, Int.reduceLE, Int.reduceLT, Nat.reduceMul, Nat.reduceAdd, Nat.reduceSub, Int.reduceNeg, Int.reduceAdd, Int.reduceMul, Int.reduceSub, Int.reduceToNat, Nat.reduceLeDiff, Nat.reduceDiv, Int.reduceDiv, reduceCtorEq, Option.some.injEq, exists_eq_left', ew] | refine AW.seq ?_ | refine AW.block ?_ | refine AW.scope ?_ | refine AW.cond_tt rfl ?_ | refine AW.cond_ff rfl ?_ | refine AW.label ?_ | refine AW.skip ?_ | refine AW.ret ?_ | refine AW.exit ?_ | refine AW.region ?_ | ((with_reducible refine And.intro ?_ ?_); (focus ((repeat' (with_reducible apply And.intro)) <;> first | (with_reducible exact OrdAt.of (by kernel_rfl)) | (with_reducible exact OrdT.of (by kernel_rfl)) | exact exOk_no rfl | exact exOk_ld rfl | exact True.intro | assumption | omega | rfl | exact Nat.le_of_ble_eq_true rfl | exact Or.inl trivial | (unfold inI; omega)))))
  (first | refine CallE.m (m28 (cutL L 2) (by have := cutL_le L 2; omega) (cutW L w 2) (txM L) (by omega)) (by intro l ob h; simp only [look_cons, look_nil] at h; (repeat' split at h) <;> first | (cases h; done) | (rename_i e; subst e; simpa [look_cons] using h)) (by simp [look_cons]) (by rfl) ?_ | refine CallDE.m (m28 (cutL L 2) (by have := cutL_le L 2; omega) (cutW L w 2) (txM L) (by omega)) (by intro l ob h; simp only [look_cons, look_nil] at h; (repeat' split at h) <;> first | (cases h; done) | (rename_i e; subst e; simpa [look_cons] using h)) (by rfl) (by rfl) (by rfl) (by rfl) ?_)
  repeat (first | simp only [go_sem, Nat.reduceLT, Nat.reduceEqDiff, reduceIte, Int.reduceEq, Int.reduceLE, Int.reduceLT, Nat.reduceMul, Nat.reduceAdd, Nat.reduceSub, Int.reduceNeg, Int.reduceAdd, Int.reduceMul, Int.reduceSub, Int.reduceToNat, Nat.reduceLeDiff, Nat.reduceDiv, Int.reduceDiv, reduceCtorEq, Option.some.injEq, exists_eq_left'] | refine AW.seq ?_ | refine AW.block ?_ | refine AW.scope ?_ | refine AW.cond_tt rfl ?_ | refine AW.cond_ff rfl ?_ | refine AW.label ?_ | refine AW.skip ?_ | refine AW.ret ?_ | refine AW.exit ?_ | refine AW.region ?_ | ((with_reducible refine And.intro ?_ ?_); (focus ((repeat' (with_reducible apply And.intro)) <;> first | (with_reducible exact OrdAt.of (by kernel_rfl)) | (with_reducible exact OrdT.of (by kernel_rfl)) | exact exOk_no rfl | exact exOk_ld rfl | exact True.intro | assumption | omega | rfl | exact Nat.le_of_ble_eq_true rfl | exact Or.inl trivial | (unfold inI; omega)))))
  have c := f32 (txV L) (by rw [txV_len]; omega)
  rw [txV_len] at c
  (first | refine CallDE.mem (c) (by first | rfl | (simp only [List.map_cons, List.map_nil, frz_sl, frz_agg8, frz_agg32, frz_vv, frz_hv]; done) | (simp only [List.map_cons, List.map_nil, frz_sl, frz_agg8, frz_agg32, frz_vv, frz_hv]; rfl)) (by simp [bor]) (by rfl) ?_ | refine CallDE.flat (c) (by first | rfl | (simp only [List.map_cons, List.map_nil, frz_sl, frz_agg8, frz_agg32, frz_vv, frz_hv]; done) | (simp only [List.map_cons, List.map_nil, frz_sl, frz_agg8, frz_agg32, frz_vv, frz_hv]; rfl)) (by rfl) (by rfl) ?_)
  repeat (first | simp only [go_sem, Nat.reduceLT, Nat.reduceEqDiff, reduceIte, Int.reduceEq, Int.reduceLE, Int.reduceLT, Nat.reduceMul, Nat.reduceAdd, Nat.reduceSub, Int.reduceNeg, Int.reduceAdd, Int.reduceMul, Int.reduceSub, Int.reduceToNat, Nat.reduceLeDiff, Nat.reduceDiv, Int.reduceDiv, reduceCtorEq, Option.some.injEq, exists_eq_left'] | refine AW.seq ?_ | refine AW.block ?_ | refine AW.scope ?_ | refine AW.cond_tt rfl ?_ | refine AW.cond_ff rfl ?_ | refine AW.label ?_ | refine AW.skip ?_ | refine AW.ret ?_ | refine AW.exit ?_ | refine AW.region ?_ | ((with_reducible refine And.intro ?_ ?_); (focus ((repeat' (with_reducible apply And.intro)) <;> first | (with_reducible exact OrdAt.of (by kernel_rfl)) | (with_reducible exact OrdT.of (by kernel_rfl)) | exact exOk_no rfl | exact exOk_ld rfl | exact True.intro | assumption | omega | rfl | exact Nat.le_of_ble_eq_true rfl | exact Or.inl trivial | (unfold inI; omega)))))
  rw [txV_len]
  refine SubK.mk (WkF.refl _) (by simp [lab]) (hob2 (oA := .box [.sl 1 (bys (txL L)) (txL L).length none]) (oB := .box [boo (txW L w)]) (by decide) h2 h3 (by simp [labO, labL, lab]) (by simp [labO, labL, lab]) (by simp [look_cons, txL]) (by simp [look_cons, txW]) ?_ (WkO.refl _) (WkO.refl _) hlab)
  intro l hl e2 e3
  by_cases e : 4 = l
  · subst e; simp [look_cons, e4]
  · by_cases e' : 5 = l
    · subst e'; simp [look_cons, e5]
    · simp [look_cons, Ne.symm e2, Ne.symm e3, e, e']
end Go.Proofs.YtaghnjehlpbdkaaDoor

namespace Go.Proofs.YtaghnjehlpbdkaaDoor
open Go Go.Eng Go.Proofs
set_option maxRecDepth 100000
set_option maxHeartbeats 1000000
set_option linter.unusedSimpArgs false
set_option linter.unusedVariables false
theorem takeF_1 (c : UInt8) : takeF [c] = c.toUInt64 := by
  unfold takeF
  simp only [List.foldl_cons, List.foldl_nil]
  rw [shl_or]
  simp
/-- what is read, piece by piece -/
def rL1 (b : List UInt8) := cutL b 1
def rW1 (b : List UInt8) := cutW b true 1
def rL2 (b : List UInt8) := cutL (rL1 b) 32
def rW2 (b : List UInt8) := cutW (rL1 b) (rW1 b) 32
def rL3 (b : List UInt8) := txL (rL2 b)
def rW3 (b : List UInt8) := txW (rL2 b) (rW2 b)
def rL4 (b : List UInt8) := cutL (rL3 b) 8
def rW4 (b : List UInt8) := cutW (rL3 b) (rW3 b) 8
def rL5 (b : List UInt8) := txL (rL4 b)
def rW5 (b : List UInt8) := txW (rL4 b) (rW4 b)
def rTag (b : List UInt8) : UInt64 := takeF (cutV b 1)
def rSalt (b : List UInt8) : List UInt8 := cutV (rL1 b) 32
def rLab (b : List UInt8) : List UInt8 := txV (rL2 b)
def rVer (b : List UInt8) : UInt64 := takeF (cutV (rL3 b) 8)
def rVal (b : List UInt8) : List UInt8 := txV (rL4 b)
def rBad (b : List UInt8) : Prop := rW5 b = false ∨ 0 < (rL5 b).length ∨ (rTag b).toNat ≠ 5 ∨ 2147483647 < (rVer b).toNat ∨ chkBad (rLab b) (rVer b).toNat (rVal b)
instance (b : List UInt8) : Decidable (rBad b) := by unfold rBad; infer_instance
def rdS (b : List UInt8) : List UInt8 := if rBad b then z32 else rSalt b
def rdL (b : List UInt8) : List UInt8 := if rBad b then [] else rLab b
def rdN (b : List UInt8) : Int := if rBad b then 0 else (rVer b).toNat
def rdV (b : List UInt8) : List UInt8 := if rBad b then [] else rVal b
def rdE (b : List UInt8) : Int := if rBad b then 1 else 0
theorem rd_bad {b : List UInt8} (h : rBad b) : Wk (AV.tup [.agg (z32.map u8), .agg [nilS, int 0, nilS], int 1]) (.tup [.agg ((rdS b).map u8), .agg (itC (rdL b) (rdN b) (rdV b)), int (rdE b)]) := by
  rw [rdS, rdL, rdN, rdV, rdE, if_pos h, if_pos h, if_pos h, if_pos h, if_pos h]
  exact Wk.tup ⟨Wk.refl _, Wk.agg ⟨Wk.nil rfl rfl, Wk.refl _, Wk.nil rfl rfl, trivial⟩, Wk.refl _, trivial⟩
theorem rSalt_len (b : List UInt8) : (rSalt b).length = 32 := cutV_len _ _
theorem f16 (b : List UInt8) (hb : b.length ≤ 1000) : AFun Tryd.prog 16 [.sl 1 (bys b) b.length none] (.tup [.agg ((rdS b).map u8), .agg (itC (rdL b) (rdN b) (rdV b)), int (rdE b)]) := by
  refine AFun.enterW Tryd.func16 rfl Tryd.call16 (by simp [Tryd.ntmps16]) fun γ1 => ?_
  simp only [frameOf, Tryd.ntmps16]
  have tz : (z32.map u8).take 32 = z32.map u8 := rfl
  have b1 : (rL1 b).length ≤ b.length := cutL_le _ _
  have b2 : (rL2 b).length ≤ b.length := Nat.le_trans (cutL_le _ _) b1
  have b3 : (rL3 b).length ≤ b.length := Nat.le_trans (txL_le _) b2
  have b4 : (rL4 b).length ≤ b.length := Nat.le_trans (cutL_le _ _) b3
  have hs := rSalt_len b
  have c1 := m29 b hb true 1 (by decide) (by decide)
  rw [show cutL b 1 = rL1 b from rfl, show cutW b true 1 = rW1 b from rfl, show takeF (cutV b 1) = rTag b from rfl] at c1
  have c2 := m28 (rL1 b) (by omega) (rW1 b) 32 (by decide)
  rw [show cutL (rL1 b) 32 = rL2 b from rfl, show cutW (rL1 b) (rW1 b) 32 = rW2 b from rfl, show cutV (rL1 b) 32 = rSalt b from rfl] at c2
  have c3 := m31 (rL2 b) (by omega) (rW2 b)
  rw [show txL (rL2 b) = rL3 b from rfl, show txW (rL2 b) (rW2 b) = rW3 b from rfl, show txV (rL2 b) = rLab b from rfl] at c3
  have c4 := m29 (rL3 b) (by omega) (rW3 b) 8 (by decide) (by decide)
  rw [show cutL (rL3 b) 8 = rL4 b from rfl, show cutW (rL3 b) (rW3 b) 8 = rW4 b from rfl, show takeF (cutV (rL3 b) 8) = rVer b from rfl] at c4
  have c5 := m31 (rL4 b) (by omega) (rW4 b)
  rw [show txL (rL4 b) = rL5 b from rfl, show txW (rL4 b) (rW4 b) = rW5 b from rfl, show txV (rL4 b) = rVal b from rfl] at c5
  have hB : rBad b ↔ rW5 b = false ∨ 0 < (rL5 b).length ∨ (rTag b).toNat ≠ 5 ∨ 2147483647 < (rVer b).toNat ∨ chkBad (rLab b) (rVer b).toNat (rVal b) := Iff.rfl
  have hbad := @rd_bad b
  have hgood : ¬ rBad b → Wk (AV.tup [.agg ((rSalt b).map u8), .agg (itC (rLab b) (rVer b).toNat (rVal b)), int 0]) (.tup [.agg ((rdS b).map u8), .agg (itC (rdL b) (rdN b) (rdV b)), int (rdE b)]) := fun h => by
    rw [rdS, rdL, rdN, rdV, rdE, if_neg h, if_neg h, if_neg h, if_neg h, if_neg h]; exact Wk.refl _
  have c6 := f19 (rLab b) (rVer b).toNat (rVal b)
  have hrl : ∀ l n v, chkE l n v = if chkBad l n v then 100 else 0 := fun _ _ _ => rfl
  generalize rL1 b = L1 at *
  generalize rW1 b = W1 at *
  generalize rL2 b = L2 at *
  generalize rW2 b = W2 at *
  generalize rL3 b = L3 at *
  generalize rW3 b = W3 at *
  generalize rL4 b = L4 at *
  generalize rW4 b = W4 at *
  generalize rL5 b = L5 at *
  generalize rW5 b = W5 at *
  generalize rTag b = tag at *
  generalize rSalt b = salt at *
  generalize rLab b = lb at *
  generalize rVer b = ver at *
  generalize rVal b = vl at *
  have ts : (salt.map u8).take 32 = salt.map u8 := List.take_of_length_le (by rw [List.length_map, hs]; exact Nat.le_refl _)
  have hsp : splice (z32.map u8) 0 (salt.map u8) = salt.map u8 := spl8 (by rw [hs]; rfl)
  have hbs : bys salt = salt.map u8 := rfl
  repeat (first | simp only [go_sem, Nat.reduceLT, Nat.reduceEqDiff, reduceIte, Int.reduceEq, Int.reduceLE, Int.reduceLT, Nat.reduceMul, Nat.reduceAdd, Nat.reduceSub, Int.reduceNeg, Int.reduceAdd, Int.reduceMul, Int.reduceSub, Int.reduceToNat, Nat.reduceLeDiff, Nat.reduceDiv, Int.reduceDiv, reduceCtorEq, Option.some.injEq, exists_eq_left', z32_map, z32_len] | refine AW.seq ?_ | refine AW.block ?_ | refine AW.scope ?_ | refine AW.cond_tt rfl ?_ | refine AW.cond_ff rfl ?_ | refine AW.label ?_ | refine AW.skip ?_ | refine AW.ret ?_ | refine AW.exit ?_ | refine AW.region ?_ | refine AW.draw (by kernel_rfl) (by decide +kernel) ?_ | refine AW.drawN (by kernel_rfl) (by decide +kernel) ?_ | ((with_reducible refine And.intro ?_ ?_); (focus ((repeat' (with_reducible apply And.intro)) <;> first | (with_reducible exact OrdAt.of (by kernel_rfl)) | (with_reducible exact OrdT.of (by kernel_rfl)) | exact True.intro | (with_reducible assumption) | omega | rfl | exact Nat.le_of_ble_eq_true rfl | exact Or.inl trivial | (unfold inI; omega)))))
  (first | refine CallE.m (c1) (by intro l ob h; simp only [look_cons, look_nil] at h; (repeat' split at h) <;> first | (cases h; done) | (rename_i e; subst e; simpa [look_cons] using h)) (by simp [look_cons]) (by rfl) ?_ | refine CallDE.m (c1) (by intro l ob h; simp only [look_cons, look_nil] at h; (repeat' split at h) <;> first | (cases h; done) | (rename_i e; subst e; simpa [look_cons] using h)) (by rfl) (by rfl) (by rfl) (by rfl) ?_)
  repeat (first | simp only [go_sem, Nat.reduceLT, Nat.reduceEqDiff, reduceIte, Int.reduceEq, Int.reduceLE, Int.reduceLT, Nat.reduceMul, Nat.reduceAdd, Nat.reduceSub, Int.reduceNeg, Int.reduceAdd, Int.reduceMul, Int.reduceSub, Int.reduceToNat, Nat.reduceLeDiff, Nat.reduceDiv, Int.reduceDiv, reduceCtorEq, Option.some.injEq, exists_eq_left', z32_map, z32_len] | refine AW.seq ?_ | refine AW.block ?_ | refine AW.scope ?_ | refine AW.cond_tt rfl ?_ | refine AW.cond_ff rfl ?_ | refine AW.label ?_ | refine AW.skip ?_ | refine AW.ret ?_ | refine AW.exit ?_ | refine AW.region ?_ | refine AW.draw (by kernel_rfl) (by decide +kernel) ?_ | refine AW.drawN (by kernel_rfl) (by decide +kernel) ?_ | ((with_reducible refine And.intro ?_ ?_); (focus ((repeat' (with_reducible apply And.intro)) <;> first | (with_reducible exact OrdAt.of (by kernel_rfl)) | (with_reducible exact OrdT.of (by kernel_rfl)) | exact True.intro | (with_reducible assumption) | omega | rfl | exact Nat.le_of_ble_eq_true rfl | exact Or.inl trivial | (unfold inI; omega)))))
  refine AW.drawM (by kernel_rfl) ?_
  repeat (first | simp only [go_sem, Nat.reduceLT, Nat.reduceEqDiff, reduceIte, Int.reduceEq, Int.reduceLE, Int.reduceLT, Nat.reduceMul, Nat.reduceAdd, Nat.reduceSub, Int.reduceNeg, Int.reduceAdd, Int.reduceMul, Int.reduceSub, Int.reduceToNat, Nat.reduceLeDiff, Nat.reduceDiv, Int.reduceDiv, reduceCtorEq, Option.some.injEq, exists_eq_left', z32_map, z32_len, List.length_map] | refine AW.seq ?_ | refine AW.block ?_ | refine AW.scope ?_ | refine AW.cond_tt rfl ?_ | refine AW.cond_ff rfl ?_ | refine AW.label ?_ | refine AW.skip ?_ | refine AW.ret ?_ | refine AW.exit ?_ | refine AW.region ?_ | ((with_reducible refine And.intro ?_ ?_); (focus ((repeat' (with_reducible apply And.intro)) <;> first | (with_reducible exact OrdAt.of (by kernel_rfl)) | (with_reducible exact OrdT.of (by kernel_rfl)) | exact exOk_no rfl | exact exOk_ld rfl | exact True.intro | assumption | omega | rfl | exact Nat.le_of_ble_eq_true rfl | exact Or.inl trivial | (unfold inI; omega)))))
  (first | refine CallE.m (c2) (by intro l ob h; simp only [look_cons, look_nil] at h; (repeat' split at h) <;> first | (cases h; done) | (rename_i e; subst e; simpa [look_cons] using h)) (by simp [look_cons]) (by rfl) ?_ | refine CallDE.m (c2) (by intro l ob h; simp only [look_cons, look_nil] at h; (repeat' split at h) <;> first | (cases h; done) | (rename_i e; subst e; simpa [look_cons] using h)) (by rfl) (by rfl) (by rfl) (by rfl) ?_)
  repeat (first | simp only [go_sem, Nat.reduceLT, Nat.reduceEqDiff, reduceIte, Int.reduceEq, Int.reduceLE, Int.reduceLT, Nat.reduceMul, Nat.reduceAdd, Nat.reduceSub, Int.reduceNeg, Int.reduceAdd, Int.reduceMul, Int.reduceSub, Int.reduceToNat, Nat.reduceLeDiff, Nat.reduceDiv, Int.reduceDiv, reduceCtorEq, Option.some.injEq, exists_eq_left', z32_map, z32_len, List.length_map, hbs, ts, hsp, Nat.min_self] | refine AW.seq ?_ | refine AW.block ?_ | refine AW.scope ?_ | refine AW.cond_tt rfl ?_ | refine AW.cond_ff rfl ?_ | refine AW.label ?_ | refine AW.skip ?_ | refine AW.ret ?_ | refine AW.exit ?_ | refine AW.region ?_ | ((with_reducible refine And.intro ?_ ?_); (focus ((repeat' (with_reducible apply And.intro)) <;> first | (with_reducible exact OrdAt.of (by kernel_rfl)) | (with_reducible exact OrdT.of (by kernel_rfl)) | exact exOk_no rfl | exact exOk_ld rfl | exact True.intro | assumption | omega | rfl | exact Nat.le_of_ble_eq_true rfl | exact Or.inl trivial | (unfold inI; omega)))))
  (first | refine CallE.m (c3) (by intro l ob h; simp only [look_cons, look_nil] at h; (repeat' split at h) <;> first | (cases h; done) | (rename_i e; subst e; simpa [look_cons] using h)) (by simp [look_cons]) (by rfl) ?_ | refine CallDE.m (c3) (by intro l ob h; simp only [look_cons, look_nil] at h; (repeat' split at h) <;> first | (cases h; done) | (rename_i e; subst e; simpa [look_cons] using h)) (by rfl) (by rfl) (by rfl) (by rfl) ?_)
  repeat (first | simp only [go_sem, Nat.reduceLT, Nat.reduceEqDiff, reduceIte, Int.reduceEq, Int.reduceLE, Int.reduceLT, Nat.reduceMul, Nat.reduceAdd, Nat.reduceSub, Int.reduceNeg, Int.reduceAdd, Int.reduceMul, Int.reduceSub, Int.reduceToNat, Nat.reduceLeDiff, Nat.reduceDiv, Int.reduceDiv, reduceCtorEq, Option.some.injEq, exists_eq_left'] | refine AW.seq ?_ | refine AW.block ?_ | refine AW.scope ?_ | refine AW.cond_tt rfl ?_ | refine AW.cond_ff rfl ?_ | refine AW.label ?_ | refine AW.skip ?_ | refine AW.ret ?_ | refine AW.exit ?_ | refine AW.region ?_ | refine AW.draw (by kernel_rfl) (by decide +kernel) ?_ | refine AW.drawN (by kernel_rfl) (by decide +kernel) ?_ | ((with_reducible refine And.intro ?_ ?_); (focus ((repeat' (with_reducible apply And.intro)) <;> first | (with_reducible exact OrdAt.of (by kernel_rfl)) | (with_reducible exact OrdT.of (by kernel_rfl)) | exact True.intro | (with_reducible assumption) | omega | rfl | exact Nat.le_of_ble_eq_true rfl | exact Or.inl trivial | (unfold inI; omega)))))
  (first | refine CallE.m (c4) (by intro l ob h; simp only [look_cons, look_nil] at h; (repeat' split at h) <;> first | (cases h; done) | (rename_i e; subst e; simpa [look_cons] using h)) (by simp [look_cons]) (by rfl) ?_ | refine CallDE.m (c4) (by intro l ob h; simp only [look_cons, look_nil] at h; (repeat' split at h) <;> first | (cases h; done) | (rename_i e; subst e; simpa [look_cons] using h)) (by rfl) (by rfl) (by rfl) (by rfl) ?_)
  repeat (first | simp only [go_sem, Nat.reduceLT, Nat.reduceEqDiff, reduceIte, Int.reduceEq, Int.reduceLE, Int.reduceLT, Nat.reduceMul, Nat.reduceAdd, Nat.reduceSub, Int.reduceNeg, Int.reduceAdd, Int.reduceMul, Int.reduceSub, Int.reduceToNat, Nat.reduceLeDiff, Nat.reduceDiv, Int.reduceDiv, reduceCtorEq, Option.some.injEq, exists_eq_left'] | refine AW.seq ?_ | refine AW.block ?_ | refine AW.scope ?_ | refine AW.cond_tt rfl ?_ | refine AW.cond_ff rfl ?_ | refine AW.label ?_ | refine AW.skip ?_ | refine AW.ret ?_ | refine AW.exit ?_ | refine AW.region ?_ | refine AW.draw (by kernel_rfl) (by decide +kernel) ?_ | refine AW.drawN (by kernel_rfl) (by decide +kernel) ?_ | ((with_reducible refine And.intro ?_ ?_); (focus ((repeat' (with_reducible apply And.intro)) <;> first | (with_reducible exact OrdAt.of (by kernel_rfl)) | (with_reducible exact OrdT.of (by kernel_rfl)) | exact True.intro | (with_reducible assumption) | omega | rfl | exact Nat.le_of_ble_eq_true rfl | exact Or.inl trivial | (unfold inI; omega)))))
  (first | refine CallE.m (c5) (by intro l ob h; simp only [look_cons, look_nil] at h; (repeat' split at h) <;> first | (cases h; done) | (rename_i e; subst e; simpa [look_cons] using h)) (by simp [look_cons]) (by rfl) ?_ | refine CallDE.m (c5) (by intro l ob h; simp only [look_cons, look_nil] at h; (repeat' split at h) <;> first | (cases h; done) | (rename_i e; subst e; simpa [look_cons] using h)) (by rfl) (by rfl) (by rfl) (by rfl) ?_)
  repeat (first | simp only [go_sem, Nat.reduceLT, Nat.reduceEqDiff, reduceIte, Int.reduceEq, Int.reduceLE, Int.reduceLT, Nat.reduceMul, Nat.reduceAdd, Nat.reduceSub, Int.reduceNeg, Int.reduceAdd, Int.reduceMul, Int.reduceSub, Int.reduceToNat, Nat.reduceLeDiff, Nat.reduceDiv, Int.reduceDiv, reduceCtorEq, Option.some.injEq, exists_eq_left'] | refine AW.seq ?_ | refine AW.block ?_ | refine AW.scope ?_ | refine AW.cond_tt rfl ?_ | refine AW.cond_ff rfl ?_ | refine AW.label ?_ | refine AW.skip ?_ | refine AW.ret ?_ | refine AW.exit ?_ | refine AW.region ?_ | refine AW.draw (by kernel_rfl) (by decide +kernel) ?_ | refine AW.drawN (by kernel_rfl) (by decide +kernel) ?_ | ((with_reducible refine And.intro ?_ ?_); (focus ((repeat' (with_reducible apply And.intro)) <;> first | (with_reducible exact OrdAt.of (by kernel_rfl)) | (with_reducible exact OrdT.of (by kernel_rfl)) | exact True.intro | (with_reducible assumption) | omega | rfl | exact Nat.le_of_ble_eq_true rfl | exact Or.inl trivial | (unfold inI; omega)))))
  have bad : (W5 = false ∨ 0 < L5.length ∨ tag.toNat ≠ 5 ∨ 2147483647 < ver.toNat ∨ chkBad lb ver.toNat vl) → rBad b := hB.2
  have good : ¬ (W5 = false ∨ 0 < L5.length ∨ tag.toNat ≠ 5 ∨ 2147483647 < ver.toNat ∨ chkBad lb ver.toNat vl) → ¬ rBad b := fun h h' => h (hB.1 h')
  cases W5
  · repeat (first | simp only [go_sem, Nat.reduceLT, Nat.reduceEqDiff, reduceIte, Int.reduceEq, Int.reduceLE, Int.reduceLT, Nat.reduceMul, Nat.reduceAdd, Nat.reduceSub, Int.reduceNeg, Int.reduceAdd, Int.reduceMul, Int.reduceSub, Int.reduceToNat, Nat.reduceLeDiff, Nat.reduceDiv, Int.reduceDiv, reduceCtorEq, Option.some.injEq, exists_eq_left', z32_map, z32_len, List.length_map, tz, Bool.not_false, Bool.not_true] | refine AW.seq ?_ | refine AW.block ?_ | refine AW.scope ?_ | refine AW.cond_tt rfl ?_ | refine AW.cond_ff rfl ?_ | refine AW.label ?_ | refine AW.skip ?_ | refine AW.ret ?_ | refine AW.exit ?_ | refine AW.region ?_ | refine AW.draw (by kernel_rfl) (by decide +kernel) ?_ | refine AW.drawN (by kernel_rfl) (by decide +kernel) ?_ | ((with_reducible refine And.intro ?_ ?_); (focus ((repeat' (with_reducible apply And.intro)) <;> first | (with_reducible exact OrdAt.of (by kernel_rfl)) | (with_reducible exact OrdT.of (by kernel_rfl)) | exact True.intro | (with_reducible assumption) | omega | rfl | exact Nat.le_of_ble_eq_true rfl | exact Or.inl trivial | (unfold inI; omega)))))
    exact hbad (bad (.inl rfl))
  · repeat (first | simp only [go_sem, Nat.reduceLT, Nat.reduceEqDiff, reduceIte, Int.reduceEq, Int.reduceLE, Int.reduceLT, Nat.reduceMul, Nat.reduceAdd, Nat.reduceSub, Int.reduceNeg, Int.reduceAdd, Int.reduceMul, Int.reduceSub, Int.reduceToNat, Nat.reduceLeDiff, Nat.reduceDiv, Int.reduceDiv, reduceCtorEq, Option.some.injEq, exists_eq_left', z32_map, z32_len, List.length_map, tz, Bool.not_false, Bool.not_true] | refine AW.seq ?_ | refine AW.block ?_ | refine AW.scope ?_ | refine AW.cond_tt rfl ?_ | refine AW.cond_ff rfl ?_ | refine AW.label ?_ | refine AW.skip ?_ | refine AW.ret ?_ | refine AW.exit ?_ | refine AW.region ?_ | refine AW.draw (by kernel_rfl) (by decide +kernel) ?_ | refine AW.drawN (by kernel_rfl) (by decide +kernel) ?_ | ((with_reducible refine And.intro ?_ ?_); (focus ((repeat' (with_reducible apply And.intro)) <;> first | (with_reducible exact OrdAt.of (by kernel_rfl)) | (with_reducible exact OrdT.of (by kernel_rfl)) | exact True.intro | (with_reducible assumption) | omega | rfl | exact Nat.le_of_ble_eq_true rfl | exact Or.inl trivial | (unfold inI; omega)))))
    refine exG_decf (fun h1 => ?_) (fun h1 => ?_)
    · repeat (first | simp only [go_sem, Nat.reduceLT, Nat.reduceEqDiff, reduceIte, Int.reduceEq, Int.reduceLE, Int.reduceLT, Nat.reduceMul, Nat.reduceAdd, Nat.reduceSub, Int.reduceNeg, Int.reduceAdd, Int.reduceMul, Int.reduceSub, Int.reduceToNat, Nat.reduceLeDiff, Nat.reduceDiv, Int.reduceDiv, reduceCtorEq, Option.some.injEq, exists_eq_left'] | refine AW.seq ?_ | refine AW.block ?_ | refine AW.scope ?_ | refine AW.cond_tt rfl ?_ | refine AW.cond_ff rfl ?_ | refine AW.label ?_ | refine AW.skip ?_ | refine AW.ret ?_ | refine AW.exit ?_ | refine AW.region ?_ | refine AW.draw (by kernel_rfl) (by decide +kernel) ?_ | refine AW.drawN (by kernel_rfl) (by decide +kernel) ?_ | ((with_reducible refine And.intro ?_ ?_); (focus ((repeat' (with_reducible apply And.intro)) <;> first | (with_reducible exact OrdAt.of (by kernel_rfl)) | (with_reducible exact OrdT.of (by kernel_rfl)) | exact True.intro | (with_reducible assumption) | omega | rfl | exact Nat.le_of_ble_eq_true rfl | exact Or.inl trivial | (unfold inI; omega)))))
      refine exG_decf (fun h2 => ?_) (fun h2 => ?_)
      · repeat (first | simp only [go_sem, Nat.reduceLT, Nat.reduceEqDiff, reduceIte, Int.reduceEq, Int.reduceLE, Int.reduceLT, Nat.reduceMul, Nat.reduceAdd, Nat.reduceSub, Int.reduceNeg, Int.reduceAdd, Int.reduceMul, Int.reduceSub, Int.reduceToNat, Nat.reduceLeDiff, Nat.reduceDiv, Int.reduceDiv, reduceCtorEq, Option.some.injEq, exists_eq_left'] | refine AW.seq ?_ | refine AW.block ?_ | refine AW.scope ?_ | refine AW.cond_tt rfl ?_ | refine AW.cond_ff rfl ?_ | refine AW.label ?_ | refine AW.skip ?_ | refine AW.ret ?_ | refine AW.exit ?_ | refine AW.region ?_ | refine AW.draw (by kernel_rfl) (by decide +kernel) ?_ | refine AW.drawN (by kernel_rfl) (by decide +kernel) ?_ | ((with_reducible refine And.intro ?_ ?_); (focus ((repeat' (with_reducible apply And.intro)) <;> first | (with_reducible exact OrdAt.of (by kernel_rfl)) | (with_reducible exact OrdT.of (by kernel_rfl)) | exact True.intro | (with_reducible assumption) | omega | rfl | exact Nat.le_of_ble_eq_true rfl | exact Or.inl trivial | (unfold inI; omega)))))
        refine AW.cond_dec rfl (fun h3 => ?_) (fun h3 => ?_)
        · repeat (first | simp only [go_sem, Nat.reduceLT, Nat.reduceEqDiff, reduceIte, Int.reduceEq, Int.reduceLE, Int.reduceLT, Nat.reduceMul, Nat.reduceAdd, Nat.reduceSub, Int.reduceNeg, Int.reduceAdd, Int.reduceMul, Int.reduceSub, Int.reduceToNat, Nat.reduceLeDiff, Nat.reduceDiv, Int.reduceDiv, reduceCtorEq, Option.some.injEq, exists_eq_left', z32_map, z32_len, List.length_map, tz] | refine AW.seq ?_ | refine AW.block ?_ | refine AW.scope ?_ | refine AW.cond_tt rfl ?_ | refine AW.cond_ff rfl ?_ | refine AW.label ?_ | refine AW.skip ?_ | refine AW.ret ?_ | refine AW.exit ?_ | refine AW.region ?_ | refine AW.draw (by kernel_rfl) (by decide +kernel) ?_ | refine AW.drawN (by kernel_rfl) (by decide +kernel) ?_ | ((with_reducible refine And.intro ?_ ?_); (focus ((repeat' (with_reducible apply And.intro)) <;> first | (with_reducible exact OrdAt.of (by kernel_rfl)) | (with_reducible exact OrdT.of (by kernel_rfl)) | exact True.intro | (with_reducible assumption) | omega | rfl | exact Nat.le_of_ble_eq_true rfl | exact Or.inl trivial | (unfold inI; omega)))))
          exact hbad (bad (.inr (.inr (.inr (.inl (by omega))))))
        · have ew : IntKind.i64.wrap (ver.toNat : Int) = (ver.toNat : Int) := wrapI _ (by unfold inI; omega)
          repeat (first | simp only [go_sem, Nat.reduceLT, Nat.reduceEqDiff, reduceIte, Int.reduceEq, Int.reduceLE, Int.reduceLT, Nat.reduceMul, Nat.reduceAdd, Nat.reduceSub, Int.reduceNeg, Int.reduceAdd, Int.reduceMul, Int.reduceSub, Int.reduceToNat, Nat.reduceLeDiff, Nat.reduceDiv, Int.reduceDiv, reduceCtorEq, Option.some.injEq, exists_eq_left', ew] | refine AW.seq ?_ | refine AW.block ?_ | refine AW.scope ?_ | refine AW.cond_tt rfl ?_ | refine AW.cond_ff rfl ?_ | refine AW.label ?_ | refine AW.skip ?_ | refine AW.ret ?_ | refine AW.exit ?_ | refine AW.region ?_ | refine AW.draw (by kernel_rfl) (by decide +kernel) ?_ | refine AW.drawN (by kernel_rfl) (by decide +kernel) ?_ | ((with_reducible refine And.intro ?_ ?_); (focus ((repeat' (with_reducible apply And.intro)) <;> first | (with_reducible exact OrdAt.of (by kernel_rfl)) | (with_reducible exact OrdT.of (by kernel_rfl)) | exact True.intro | (with_reducible assumption) | omega | rfl | exact Nat.le_of_ble_eq_true rfl | exact Or.inl trivial | (unfold inI; omega)))))
          (first | refine CallE.mem (c6) (by first | rfl | (simp only [List.map_cons, List.map_nil, frz_sl, frz_agg8, frz_agg32, frz_vv, frz_hv]; done) | (simp only [List.map_cons, List.map_nil, frz_sl, frz_agg8, frz_agg32, frz_vv, frz_hv]; rfl)) (by simp [bor, look_cons, isBox]) (by rfl) ?_ | refine CallXE.mem (c6) (by first | rfl | (simp only [List.map_cons, List.map_nil, frz_sl, frz_agg8, frz_agg32, frz_vv, frz_hv]; done) | (simp only [List.map_cons, List.map_nil, frz_sl, frz_agg8, frz_agg32, frz_vv, frz_hv]; rfl)) (by simp [bor, look_cons, isBox]) (by rfl) ?_)
          rw [hrl]
          by_cases h4 : chkBad lb ver.toNat vl
          · rw [if_pos h4]
            repeat (first | simp only [go_sem, Nat.reduceLT, Nat.reduceEqDiff, reduceIte, Int.reduceEq, Int.reduceLE, Int.reduceLT, Nat.reduceMul, Nat.reduceAdd, Nat.reduceSub, Int.reduceNeg, Int.reduceAdd, Int.reduceMul, Int.reduceSub, Int.reduceToNat, Nat.reduceLeDiff, Nat.reduceDiv, Int.reduceDiv, reduceCtorEq, Option.some.injEq, exists_eq_left', z32_map, z32_len, List.length_map, tz] | refine AW.seq ?_ | refine AW.block ?_ | refine AW.scope ?_ | refine AW.cond_tt rfl ?_ | refine AW.cond_ff rfl ?_ | refine AW.label ?_ | refine AW.skip ?_ | refine AW.ret ?_ | refine AW.exit ?_ | refine AW.region ?_ | refine AW.draw (by kernel_rfl) (by decide +kernel) ?_ | refine AW.drawN (by kernel_rfl) (by decide +kernel) ?_ | ((with_reducible refine And.intro ?_ ?_); (focus ((repeat' (with_reducible apply And.intro)) <;> first | (with_reducible exact OrdAt.of (by kernel_rfl)) | (with_reducible exact OrdT.of (by kernel_rfl)) | exact True.intro | (with_reducible assumption) | omega | rfl | exact Nat.le_of_ble_eq_true rfl | exact Or.inl trivial | (unfold inI; omega)))))
            exact hbad (bad (.inr (.inr (.inr (.inr h4)))))
          · rw [if_neg h4]
            repeat (first | simp only [go_sem, Nat.reduceLT, Nat.reduceEqDiff, reduceIte, Int.reduceEq, Int.reduceLE, Int.reduceLT, Nat.reduceMul, Nat.reduceAdd, Nat.reduceSub, Int.reduceNeg, Int.reduceAdd, Int.reduceMul, Int.reduceSub, Int.reduceToNat, Nat.reduceLeDiff, Nat.reduceDiv, Int.reduceDiv, reduceCtorEq, Option.some.injEq, exists_eq_left', z32_map, z32_len, List.length_map, tz, ts, hsp, hs, List.length_cons, List.length_nil] | refine AW.seq ?_ | refine AW.block ?_ | refine AW.scope ?_ | refine AW.cond_tt rfl ?_ | refine AW.cond_ff rfl ?_ | refine AW.label ?_ | refine AW.skip ?_ | refine AW.ret ?_ | refine AW.exit ?_ | refine AW.region ?_ | refine AW.draw (by kernel_rfl) (by decide +kernel) ?_ | refine AW.drawN (by kernel_rfl) (by decide +kernel) ?_ | ((with_reducible refine And.intro ?_ ?_); (focus ((repeat' (with_reducible apply And.intro)) <;> first | (with_reducible exact OrdAt.of (by kernel_rfl)) | (with_reducible exact OrdT.of (by kernel_rfl)) | exact True.intro | (with_reducible assumption) | omega | rfl | exact Nat.le_of_ble_eq_true rfl | exact Or.inl trivial | (unfold inI; omega)))))
            exact hgood (good (by rintro (h | h | h | h | h) <;> first | (cases h; done) | exact h4 h | omega))
      · repeat (first | simp only [go_sem, Nat.reduceLT, Nat.reduceEqDiff, reduceIte, Int.reduceEq, Int.reduceLE, Int.reduceLT, Nat.reduceMul, Nat.reduceAdd, Nat.reduceSub, Int.reduceNeg, Int.reduceAdd, Int.reduceMul, Int.reduceSub, Int.reduceToNat, Nat.reduceLeDiff, Nat.reduceDiv, Int.reduceDiv, reduceCtorEq, Option.some.injEq, exists_eq_left', z32_map, z32_len, List.length_map, tz] | refine AW.seq ?_ | refine AW.block ?_ | refine AW.scope ?_ | refine AW.cond_tt rfl ?_ | refine AW.cond_ff rfl ?_ | refine AW.label ?_ | refine AW.skip ?_ | refine AW.ret ?_ | refine AW.exit ?_ | refine AW.region ?_ | refine AW.draw (by kernel_rfl) (by decide +kernel) ?_ | refine AW.drawN (by kernel_rfl) (by decide +kernel) ?_ | ((with_reducible refine And.intro ?_ ?_); (focus ((repeat' (with_reducible apply And.intro)) <;> first | (with_reducible exact OrdAt.of (by kernel_rfl)) | (with_reducible exact OrdT.of (by kernel_rfl)) | exact True.intro | (with_reducible assumption) | omega | rfl | exact Nat.le_of_ble_eq_true rfl | exact Or.inl trivial | (unfold inI; omega)))))
        exact hbad (bad (.inr (.inr (.inl (by omega)))))
    · repeat (first | simp only [go_sem, Nat.reduceLT, Nat.reduceEqDiff, reduceIte, Int.reduceEq, Int.reduceLE, Int.reduceLT, Nat.reduceMul, Nat.reduceAdd, Nat.reduceSub, Int.reduceNeg, Int.reduceAdd, Int.reduceMul, Int.reduceSub, Int.reduceToNat, Nat.reduceLeDiff, Nat.reduceDiv, Int.reduceDiv, reduceCtorEq, Option.some.injEq, exists_eq_left', z32_map, z32_len, List.length_map, tz] | refine AW.seq ?_ | refine AW.block ?_ | refine AW.scope ?_ | refine AW.cond_tt rfl ?_ | refine AW.cond_ff rfl ?_ | refine AW.label ?_ | refine AW.skip ?_ | refine AW.ret ?_ | refine AW.exit ?_ | refine AW.region ?_ | refine AW.draw (by kernel_rfl) (by decide +kernel) ?_ | refine AW.drawN (by kernel_rfl) (by decide +kernel) ?_ | ((with_reducible refine And.intro ?_ ?_); (focus ((repeat' (with_reducible apply And.intro)) <;> first | (with_reducible exact OrdAt.of (by kernel_rfl)) | (with_reducible exact OrdT.of (by kernel_rfl)) | exact True.intro | (with_reducible assumption) | omega | rfl | exact Nat.le_of_ble_eq_true rfl | exact Or.inl trivial | (unfold inI; omega)))))
      exact hbad (bad (.inr (.inl (by omega))))
end Go.Proofs.YtaghnjehlpbdkaaDoor

namespace Go.Proofs.YtaghnjehlpbdkaaDoor
open Go Go.Eng Go.Proofs
set_option maxRecDepth 100000
set_option maxHeartbeats 1000000
set_option linter.unusedSimpArgs false
set_option linter.unusedVariables false
attribute [local simp] labL_app renL_app
def qN (b : List UInt8) : Nat := (b.getD 33 0).toNat * 256 + (b.getD 34 0).toNat
def qLab (b : List UInt8) : List UInt8 := (b.drop 35).take (qN b)
def qVer (b : List UInt8) : Int := IntKind.i64.wrap ((takeN (b.drop (35 + qN b)) 8).toNat : Int)
def qVal (b : List UInt8) : List UInt8 := b.drop (45 + qN b)
def qSalt (b : List UInt8) : List UInt8 := (b.drop 1).take 32
def qBad (b : List UInt8) : Prop := b.length < 45 ∨ b.length < 45 + qN b ∨ chkBad (qLab b) (qVer b) (qVal b) ∨ itemT (qSalt b) (qLab b) (qVer b) (qVal b) ≠ b
instance (b : List UInt8) : Decidable (qBad b) := by unfold qBad; infer_instance
def qdS (b : List UInt8) : List UInt8 := if qBad b then z32 else qSalt b
def qdL (b : List UInt8) : List UInt8 := if qBad b then [] else qLab b
def qdN (b : List UInt8) : Int := if qBad b then 0 else qVer b
def qdV (b : List UInt8) : List UInt8 := if qBad b then [] else qVal b
def qdE (b : List UInt8) : Int := if qBad b then 1 else 0
theorem qd_bad {b : List UInt8} (h : qBad b) : Wk (AV.tup [.agg (z32.map u8), .agg [nilS, int 0, nilS], int 1]) (.tup [.agg ((qdS b).map u8), .agg (itC (qdL b) (qdN b) (qdV b)), int (qdE b)]) := by
  rw [qdS, qdL, qdN, qdV, qdE, if_pos h, if_pos h, if_pos h, if_pos h, if_pos h]
  exact Wk.tup ⟨Wk.refl _, Wk.agg ⟨Wk.nil rfl rfl, Wk.refl _, Wk.nil rfl rfl, trivial⟩, Wk.refl _, trivial⟩
def saltI (b : List UInt8) (i : Nat) : List UInt8 := (b.drop 1).take i ++ List.replicate (32 - i) 0
theorem saltI_len (b : List UInt8) (h : 45 ≤ b.length) (i : Nat) (hi : i ≤ 32) : (saltI b i).length = 32 := by
  simp [saltI]; omega
theorem saltI_set (b : List UInt8) (h : 45 ≤ b.length) (i : Nat) (hi : i < 32) : (saltI b i).set i (b.getD (i + 1) 0) = saltI b (i + 1) := by
  have h1 : ((b.drop 1).take i).length = i := by simp; omega
  unfold saltI
  rw [List.set_append_right _ _ (by omega), h1, Nat.sub_self, show 32 - i = (32 - (i + 1)) + 1 by omega, List.replicate_succ, List.set_cons_zero, List.take_add_one, List.append_assoc]
  congr 1
  have : (b.drop 1)[i]? = some (b.getD (i + 1) 0) := by
    rw [List.getElem?_drop, List.getD_eq_getElem?_getD, show 1 + i = i + 1 by omega, List.getElem?_eq_getElem (by omega)]; rfl
  rw [this]; rfl
def sk17 (b : List UInt8) (lb : List UInt8) (n : Int) (v : List UInt8) (i : Nat) : S := ⟨[(11, int i), (10, .loc 7 0), (5, .loc 2 0), (3, .loc 1 0), (2, .loc 0 0), (0, .sl 1 (bys b) b.length none)], 91, [(7, .box (itC lb n v)), (2, .box ((saltI b i).map u8)), (1, .box [nilS, int 0, nilS]), (0, .box (z32.map u8))], 8, []⟩
theorem f17 (b : List UInt8) (hb : b.length ≤ 1000) : AFun Tryd.prog 17 [.sl 1 (bys b) b.length none] (.tup [.agg ((qdS b).map u8), .agg (itC (qdL b) (qdN b) (qdV b)), int (qdE b)]) := by
  refine AFun.enterW Tryd.func17 rfl Tryd.call17 (by simp [Tryd.ntmps17]) fun γ1 => ?_
  simp only [frameOf, Tryd.ntmps17]
  have tz : (z32.map u8).take 32 = z32.map u8 := rfl
  have hz : splice (z32.map u8) 0 (z32.map u8) = z32.map u8 := rfl
  repeat (first | simp only [go_sem, Nat.reduceLT, Nat.reduceEqDiff, reduceIte, Int.reduceEq, Int.reduceLE, Int.reduceLT, Nat.reduceMul, Nat.reduceAdd, Nat.reduceSub, Int.reduceNeg, Int.reduceAdd, Int.reduceMul, Int.reduceSub, Int.reduceToNat, Nat.reduceLeDiff, Nat.reduceDiv, Int.reduceDiv, reduceCtorEq, Option.some.injEq, exists_eq_left', z32_map, z32_len, hz, List.length_map] | refine AW.seq ?_ | refine AW.block ?_ | refine AW.scope ?_ | refine AW.cond_tt rfl ?_ | refine AW.cond_ff rfl ?_ | refine AW.label ?_ | refine AW.skip ?_ | refine AW.ret ?_ | refine AW.exit ?_ | refine AW.region ?_ | refine AW.draw (by kernel_rfl) (by decide +kernel) ?_ | refine AW.drawN (by kernel_rfl) (by decide +kernel) ?_ | ((with_reducible refine And.intro ?_ ?_); (focus ((repeat' (with_reducible apply And.intro)) <;> first | (with_reducible exact OrdAt.of (by kernel_rfl)) | (with_reducible exact OrdT.of (by kernel_rfl)) | exact True.intro | (with_reducible assumption) | omega | rfl | exact Nat.le_of_ble_eq_true rfl | exact Or.inl trivial | (unfold inI; omega)))))
  refine AW.cond_dec rfl (fun h1 => ?_) (fun h1 => ?_)
  · repeat (first | simp only [go_sem, Nat.reduceLT, Nat.reduceEqDiff, reduceIte, Int.reduceEq, Int.reduceLE, Int.reduceLT, Nat.reduceMul, Nat.reduceAdd, Nat.reduceSub, Int.reduceNeg, Int.reduceAdd, Int.reduceMul, Int.reduceSub, Int.reduceToNat, Nat.reduceLeDiff, Nat.reduceDiv, Int.reduceDiv, reduceCtorEq, Option.some.injEq, exists_eq_left', z32_map, z32_len, List.length_map, tz, hz] | refine AW.seq ?_ | refine AW.block ?_ | refine AW.scope ?_ | refine AW.cond_tt rfl ?_ | refine AW.cond_ff rfl ?_ | refine AW.label ?_ | refine AW.skip ?_ | refine AW.ret ?_ | refine AW.exit ?_ | refine AW.region ?_ | refine AW.draw (by kernel_rfl) (by decide +kernel) ?_ | refine AW.drawN (by kernel_rfl) (by decide +kernel) ?_ | ((with_reducible refine And.intro ?_ ?_); (focus ((repeat' (with_reducible apply And.intro)) <;> first | (with_reducible exact OrdAt.of (by kernel_rfl)) | (with_reducible exact OrdT.of (by kernel_rfl)) | exact True.intro | (with_reducible assumption) | omega | rfl | exact Nat.le_of_ble_eq_true rfl | exact Or.inl trivial | (unfold inI; omega)))))
    exact qd_bad (.inl (by omega))
  · have hlen : 45 ≤ b.length := by omega
    have l33 : 1 ≤ (b.drop 33).length := by rw [List.length_drop]; omega
    have l34 : 1 ≤ (b.drop 34).length := by rw [List.length_drop]; omega
    have g33 : 0 < (b.drop 33).length := l33
    have g34 : 0 < (b.drop 34).length := l34
    have e33 : (b.drop 33).getD 0 0 = b.getD 33 0 := by simp [List.getD_eq_getElem?_getD]
    have e34 : (b.drop 34).getD 0 0 = b.getD 34 0 := by simp [List.getD_eq_getElem?_getD]
    have r1 := (b.getD 33 0).toNat_lt
    have r2 := (b.getD 34 0).toNat_lt
    have eN : ((b.getD 33 0).toNat : Int) * 256 + ((b.getD 34 0).toNat : Int) = ((qN b : Nat) : Int) := by unfold qN; omega
    have hN : qN b < 65536 := by unfold qN; omega
    repeat (first | simp only [go_sem, Nat.reduceLT, Nat.reduceEqDiff, reduceIte, Int.reduceEq, Int.reduceLE, Int.reduceLT, Nat.reduceMul, Nat.reduceAdd, Nat.reduceSub, Int.reduceNeg, Int.reduceAdd, Int.reduceMul, Int.reduceSub, Int.reduceToNat, Nat.reduceLeDiff, Nat.reduceDiv, Int.reduceDiv, reduceCtorEq, Option.some.injEq, exists_eq_left', bys_get, l33, l34, g33, g34, e33, e34, eN] | refine AW.seq ?_ | refine AW.block ?_ | refine AW.scope ?_ | refine AW.cond_tt rfl ?_ | refine AW.cond_ff rfl ?_ | refine AW.label ?_ | refine AW.skip ?_ | refine AW.ret ?_ | refine AW.exit ?_ | refine AW.region ?_ | refine AW.draw (by kernel_rfl) (by decide +kernel) ?_ | refine AW.drawN (by kernel_rfl) (by decide +kernel) ?_ | ((with_reducible refine And.intro ?_ ?_); (focus ((repeat' (with_reducible apply And.intro)) <;> first | (with_reducible exact OrdAt.of (by kernel_rfl)) | (with_reducible exact OrdT.of (by kernel_rfl)) | exact True.intro | (with_reducible assumption) | omega | rfl | exact Nat.le_of_ble_eq_true rfl | exact Or.inl trivial | (unfold inI; omega)))))
    refine AW.cond_dec rfl (fun h2 => ?_) (fun h2 => ?_)
    · repeat (first | simp only [go_sem, Nat.reduceLT, Nat.reduceEqDiff, reduceIte, Int.reduceEq, Int.reduceLE, Int.reduceLT, Nat.reduceMul, Nat.reduceAdd, Nat.reduceSub, Int.reduceNeg, Int.reduceAdd, Int.reduceMul, Int.reduceSub, Int.reduceToNat, Nat.reduceLeDiff, Nat.reduceDiv, Int.reduceDiv, reduceCtorEq, Option.some.injEq, exists_eq_left', z32_map, z32_len, List.length_map, tz, hz] | refine AW.seq ?_ | refine AW.block ?_ | refine AW.scope ?_ | refine AW.cond_tt rfl ?_ | refine AW.cond_ff rfl ?_ | refine AW.label ?_ | refine AW.skip ?_ | refine AW.ret ?_ | refine AW.exit ?_ | refine AW.region ?_ | refine AW.draw (by kernel_rfl) (by decide +kernel) ?_ | refine AW.drawN (by kernel_rfl) (by decide +kernel) ?_ | ((with_reducible refine And.intro ?_ ?_); (focus ((repeat' (with_reducible apply And.intro)) <;> first | (with_reducible exact OrdAt.of (by kernel_rfl)) | (with_reducible exact OrdT.of (by kernel_rfl)) | exact True.intro | (with_reducible assumption) | omega | rfl | exact Nat.le_of_ble_eq_true rfl | exact Or.inl trivial | (unfold inI; omega)))))
      exact qd_bad (.inr (.inl (by omega)))
    · have hl2 : 45 + qN b ≤ b.length := by omega
      have t1 : ((35 : Int) + ((qN b : Nat) : Int)).toNat = 35 + qN b := by omega
      have t2 : ((b.length : Int) - (35 + ((qN b : Nat) : Int))).toNat = b.length - (35 + qN b) := by omega
      have t3 : (b.drop (35 + qN b)).take (b.length - (35 + qN b)) = b.drop (35 + qN b) := List.take_of_length_le (by rw [List.length_drop]; exact Nat.le_refl _)
      have t4 : ((45 : Int) + ((qN b : Nat) : Int)).toNat = 45 + qN b := by omega
      have t5 : ((b.length : Int) - (45 + ((qN b : Nat) : Int))).toNat = b.length - (45 + qN b) := by omega
      have t6 : (b.drop (45 + qN b)).take (b.length - (45 + qN b)) = b.drop (45 + qN b) := List.take_of_length_le (by rw [List.length_drop]; exact Nat.le_refl _)
      have t7 : ((35 : Int) + ((qN b : Nat) : Int) - 35).toNat = qN b := by omega
      have c33 := f33 (b.drop (35 + qN b)) (by rw [List.length_drop]; omega) 8 (by unfold inI; omega)
      rw [takeM_eq, List.length_drop] at c33
      have eL : (b.drop 35).take (qN b) = qLab b := rfl
      have eV : b.drop (45 + qN b) = qVal b := rfl
      have eW : IntKind.i64.wrap ((takeN (b.drop (35 + qN b)) 8).toNat : Int) = qVer b := rfl
      have lL : (qLab b).length = qN b := by rw [← eL, List.length_take, List.length_drop]; omega
      have lV : (qVal b).length = b.length - (45 + qN b) := by rw [← eV, List.length_drop]
      have hB : qBad b ↔ b.length < 45 ∨ b.length < 45 + qN b ∨ chkBad (qLab b) (qVer b) (qVal b) ∨ itemT (qSalt b) (qLab b) (qVer b) (qVal b) ≠ b := Iff.rfl
      have hgood : ¬ qBad b → Wk (AV.tup [.agg ((qSalt b).map u8), .agg (itC (qLab b) (qVer b) (qVal b)), int 0]) (.tup [.agg ((qdS b).map u8), .agg (itC (qdL b) (qdN b) (qdV b)), int (qdE b)]) := fun h => by
        rw [qdS, qdL, qdN, qdV, qdE, if_neg h, if_neg h, if_neg h, if_neg h, if_neg h]; exact Wk.refl _
      repeat (first | simp only [go_sem, Nat.reduceLT, Nat.reduceEqDiff, reduceIte, Int.reduceEq, Int.reduceLE, Int.reduceLT, Nat.reduceMul, Nat.reduceAdd, Nat.reduceSub, Int.reduceNeg, Int.reduceAdd, Int.reduceMul, Int.reduceSub, Int.reduceToNat, Nat.reduceLeDiff, Nat.reduceDiv, Int.reduceDiv, reduceCtorEq, Option.some.injEq, exists_eq_left', t1, t2, t3] | refine AW.seq ?_ | refine AW.block ?_ | refine AW.scope ?_ | refine AW.cond_tt rfl ?_ | refine AW.cond_ff rfl ?_ | refine AW.label ?_ | refine AW.skip ?_ | refine AW.ret ?_ | refine AW.exit ?_ | refine AW.region ?_ | refine AW.draw (by kernel_rfl) (by decide +kernel) ?_ | refine AW.drawN (by kernel_rfl) (by decide +kernel) ?_ | ((with_reducible refine And.intro ?_ ?_); (focus ((repeat' (with_reducible apply And.intro)) <;> first | (with_reducible exact OrdAt.of (by kernel_rfl)) | (with_reducible exact OrdT.of (by kernel_rfl)) | exact True.intro | (with_reducible assumption) | omega | rfl | exact Nat.le_of_ble_eq_true rfl | exact Or.inl trivial | (unfold inI; omega)))))
      (first | refine CallE.mem (c33) (by first | rfl | (simp only [List.map_cons, List.map_nil, frz_sl, frz_agg8, frz_agg32, frz_vv, frz_hv]; done) | (simp only [List.map_cons, List.map_nil, frz_sl, frz_agg8, frz_agg32, frz_vv, frz_hv]; rfl)) (by simp [bor, look_cons, isBox]) (by rfl) ?_ | refine CallXE.mem (c33) (by first | rfl | (simp only [List.map_cons, List.map_nil, frz_sl, frz_agg8, frz_agg32, frz_vv, frz_hv]; done) | (simp only [List.map_cons, List.map_nil, frz_sl, frz_agg8, frz_agg32, frz_vv, frz_hv]; rfl)) (by simp [bor, look_cons, isBox]) (by rfl) ?_)
      repeat (first | simp only [go_sem, Nat.reduceLT, Nat.reduceEqDiff, reduceIte, Int.reduceEq, Int.reduceLE, Int.reduceLT, Nat.reduceMul, Nat.reduceAdd, Nat.reduceSub, Int.reduceNeg, Int.reduceAdd, Int.reduceMul, Int.reduceSub, Int.reduceToNat, Nat.reduceLeDiff, Nat.reduceDiv, Int.reduceDiv, reduceCtorEq, Option.some.injEq, exists_eq_left', t1, t2, t3, t4, t5, t6, t7, eL, eV, eW] | refine AW.seq ?_ | refine AW.block ?_ | refine AW.scope ?_ | refine AW.cond_tt rfl ?_ | refine AW.cond_ff rfl ?_ | refine AW.label ?_ | refine AW.skip ?_ | refine AW.ret ?_ | refine AW.exit ?_ | refine AW.region ?_ | refine AW.draw (by kernel_rfl) (by decide +kernel) ?_ | refine AW.drawN (by kernel_rfl) (by decide +kernel) ?_ | ((with_reducible refine And.intro ?_ ?_); (focus ((repeat' (with_reducible apply And.intro)) <;> first | (with_reducible exact OrdAt.of (by kernel_rfl)) | (with_reducible exact OrdT.of (by kernel_rfl)) | exact True.intro | (with_reducible assumption) | omega | rfl | exact Nat.le_of_ble_eq_true rfl | exact Or.inl trivial | (unfold inI; omega)))))
      have hL0 : (qVal b).take (b.length - (45 + qN b)) = qVal b := List.take_of_length_le (by rw [lV]; exact Nat.le_refl _)
      rw [hL0]
      have hw : WkO (.box (splice [nilS, int 0, nilS] 0 (splice (splice (splice [nilS, int 0, nilS] 0 [AV.sl 1 (bys (qLab b)) (qN b) (some 4)]) 1 [AV.v (Value.int IntKind.i64 (qVer b))]) 2 [AV.sl 1 (bys (qVal b)) (b.length - (45 + qN b)) (some 6)]))) (.box (itC (qLab b) (qVer b) (qVal b))) = True := by
        refine eq_true ?_
        show WkFL [AV.sl 1 (bys (qLab b)) (qN b) (some 4), int (qVer b), AV.sl 1 (bys (qVal b)) (b.length - (45 + qN b)) (some 6)] (itC (qLab b) (qVer b) (qVal b))
        rw [← lV, ← lL]
        exact WkFL.cons WkF.untok (WkFL.cons (WkF.refl _) (WkFL.cons WkF.untok WkFL.nil))
      have s0 : saltI b 0 = z32 := by simp [saltI, z32]
      refine AW.loop (fun s => ∃ i : Nat, i ≤ 32 ∧ s = sk17 b (qLab b) (qVer b) (qVal b) i) (fun s => (32 - slotN s 11).toNat) (s0 := sk17 b (qLab b) (qVer b) (qVal b) 0) ?_ ⟨0, by omega, rfl⟩ ?_
      · simp only [sk17, s0]
        exact (Sub.wk (by first | exact Nat.zero_le _ | exact Nat.le_refl _ | decide | omega) rfl rfl (by simp) (by simp [lab, labL, look_cons, labL_bys, labL_mapu8, labL_mapu32, WkF_self, hw]) (by simp [labO, lab, labL, look_cons, labL_bys, labL_mapu8, labL_mapu32, WkO_self, hw]))
      rintro s ⟨i, hi, rfl⟩
      simp only [sk17]
      have hsl := saltI_len b hlen i hi
      repeat (first | simp only [go_sem, Nat.reduceLT, Nat.reduceEqDiff, reduceIte, Int.reduceEq, Int.reduceLE, Int.reduceLT, Nat.reduceMul, Nat.reduceAdd, Nat.reduceSub, Int.reduceNeg, Int.reduceAdd, Int.reduceMul, Int.reduceSub, Int.reduceToNat, Nat.reduceLeDiff, Nat.reduceDiv, Int.reduceDiv, reduceCtorEq, Option.some.injEq, exists_eq_left'] | refine AW.seq ?_ | refine AW.block ?_ | refine AW.scope ?_ | refine AW.cond_tt rfl ?_ | refine AW.cond_ff rfl ?_ | refine AW.label ?_ | refine AW.skip ?_ | refine AW.ret ?_ | refine AW.exit ?_ | refine AW.region ?_ | refine AW.draw (by kernel_rfl) (by decide +kernel) ?_ | refine AW.drawN (by kernel_rfl) (by decide +kernel) ?_ | ((with_reducible refine And.intro ?_ ?_); (focus ((repeat' (with_reducible apply And.intro)) <;> first | (with_reducible exact OrdAt.of (by kernel_rfl)) | (with_reducible exact OrdT.of (by kernel_rfl)) | exact True.intro | (with_reducible assumption) | omega | rfl | exact Nat.le_of_ble_eq_true rfl | exact Or.inl trivial | (unfold inI; omega)))))
      refine AW.cond_dec rfl (fun h3 => ?_) (fun h3 => ?_)
      · have hi32 : i < 32 := by omega
        have hset := saltI_set b hlen i hi32
        have u1 : ((1 : Int) + (i : Int)).toNat = i + 1 := by omega
        have u1' : ((i : Int) + 1).toNat = i + 1 := by omega
        have u2 : 1 ≤ (b.drop (i + 1)).length := by rw [List.length_drop]; omega
        have u3 : 0 < (b.drop (i + 1)).length := u2
        have u4 : (b.drop (i + 1)).getD 0 0 = b.getD (i + 1) 0 := by simp [List.getD_eq_getElem?_getD]
        repeat (first | simp only [go_sem, Nat.reduceLT, Nat.reduceEqDiff, reduceIte, Int.reduceEq, Int.reduceLE, Int.reduceLT, Nat.reduceMul, Nat.reduceAdd, Nat.reduceSub, Int.reduceNeg, Int.reduceAdd, Int.reduceMul, Int.reduceSub, Int.reduceToNat, Nat.reduceLeDiff, Nat.reduceDiv, Int.reduceDiv, reduceCtorEq, Option.some.injEq, exists_eq_left', u1, u1', u2, u3, u4, bys_get, splice_u8, hsl, hi32, hset, List.length_map] | refine AW.seq ?_ | refine AW.block ?_ | refine AW.scope ?_ | refine AW.cond_tt rfl ?_ | refine AW.cond_ff rfl ?_ | refine AW.label ?_ | refine AW.skip ?_ | refine AW.ret ?_ | refine AW.exit ?_ | refine AW.region ?_ | refine AW.draw (by kernel_rfl) (by decide +kernel) ?_ | refine AW.drawN (by kernel_rfl) (by decide +kernel) ?_ | ((with_reducible refine And.intro ?_ ?_); (focus ((repeat' (with_reducible apply And.intro)) <;> first | (with_reducible exact OrdAt.of (by kernel_rfl)) | (with_reducible exact OrdT.of (by kernel_rfl)) | exact True.intro | (with_reducible assumption) | omega | rfl | exact Nat.le_of_ble_eq_true rfl | exact Or.inl trivial | (unfold inI; omega)))))
        rw [Qof_lp]
        refine ⟨sk17 b (qLab b) (qVer b) (qVal b) (i + 1), ?_, ⟨i + 1, by omega, rfl⟩, ?_⟩
        · simp only [sk17]
          exact (Sub.same (by first | exact Nat.zero_le _ | exact Nat.le_refl _ | decide | omega) rfl rfl (by simp) (by simp [lab, labL, ren, renL, look_cons, renL_bys, labL_bys, renL_mapu8, labL_mapu8, renL_mapu32, labL_mapu32]) (by simp [labO, renO, lab, labL, ren, renL, look_cons, renL_bys, labL_bys, renL_mapu8, labL_mapu8, renL_mapu32, labL_mapu32]))
        · simp [slotN, sk17, look_cons]; omega
      · have hi32 : i = 32 := by omega
        subst hi32
        have hsS : saltI b 32 = qSalt b := by simp [saltI, qSalt]
        rw [hsS] at hsl ⊢
        have tS : ((qSalt b).map u8).take 32 = (qSalt b).map u8 := List.take_of_length_le (by rw [List.length_map, hsl]; exact Nat.le_refl _)
        have hsp : splice (z32.map u8) 0 ((qSalt b).map u8) = (qSalt b).map u8 := spl8 (by rw [hsl]; rfl)
        have c13 := f13 (qSalt b) hsl (qLab b) (qVer b) (qVal b)
        unfold itemS at c13
        repeat (first | simp only [go_sem, Nat.reduceLT, Nat.reduceEqDiff, reduceIte, Int.reduceEq, Int.reduceLE, Int.reduceLT, Nat.reduceMul, Nat.reduceAdd, Nat.reduceSub, Int.reduceNeg, Int.reduceAdd, Int.reduceMul, Int.reduceSub, Int.reduceToNat, Nat.reduceLeDiff, Nat.reduceDiv, Int.reduceDiv, reduceCtorEq, Option.some.injEq, exists_eq_left', hsl, tS, List.length_map] | refine AW.seq ?_ | refine AW.block ?_ | refine AW.scope ?_ | refine AW.cond_tt rfl ?_ | refine AW.cond_ff rfl ?_ | refine AW.label ?_ | refine AW.skip ?_ | refine AW.ret ?_ | refine AW.exit ?_ | refine AW.region ?_ | refine AW.draw (by kernel_rfl) (by decide +kernel) ?_ | refine AW.drawN (by kernel_rfl) (by decide +kernel) ?_ | ((with_reducible refine And.intro ?_ ?_); (focus ((repeat' (with_reducible apply And.intro)) <;> first | (with_reducible exact OrdAt.of (by kernel_rfl)) | (with_reducible exact OrdT.of (by kernel_rfl)) | exact True.intro | (with_reducible assumption) | omega | rfl | exact Nat.le_of_ble_eq_true rfl | exact Or.inl trivial | (unfold inI; omega)))))
        by_cases hc : chkBad (qLab b) (qVer b) (qVal b)
        · rw [chk_bad hc, if_pos hc] at c13
          (first | refine CallE.mem (c13) (by first | rfl | (simp only [List.map_cons, List.map_nil, frz_sl, frz_agg8, frz_agg32, frz_vv, frz_hv]; done) | (simp only [List.map_cons, List.map_nil, frz_sl, frz_agg8, frz_agg32, frz_vv, frz_hv]; rfl)) (by simp [bor, look_cons, isBox]) (by rfl) ?_ | refine CallXE.mem (c13) (by first | rfl | (simp only [List.map_cons, List.map_nil, frz_sl, frz_agg8, frz_agg32, frz_vv, frz_hv]; done) | (simp only [List.map_cons, List.map_nil, frz_sl, frz_agg8, frz_agg32, frz_vv, frz_hv]; rfl)) (by simp [bor, look_cons, isBox]) (by rfl) ?_)
          repeat (first | simp only [go_sem, Nat.reduceLT, Nat.reduceEqDiff, reduceIte, Int.reduceEq, Int.reduceLE, Int.reduceLT, Nat.reduceMul, Nat.reduceAdd, Nat.reduceSub, Int.reduceNeg, Int.reduceAdd, Int.reduceMul, Int.reduceSub, Int.reduceToNat, Nat.reduceLeDiff, Nat.reduceDiv, Int.reduceDiv, reduceCtorEq, Option.some.injEq, exists_eq_left', z32_map, z32_len, List.length_map, tz, hz] | refine AW.seq ?_ | refine AW.block ?_ | refine AW.scope ?_ | refine AW.cond_tt rfl ?_ | refine AW.cond_ff rfl ?_ | refine AW.label ?_ | refine AW.skip ?_ | refine AW.ret ?_ | refine AW.exit ?_ | refine AW.region ?_ | refine AW.draw (by kernel_rfl) (by decide +kernel) ?_ | refine AW.drawN (by kernel_rfl) (by decide +kernel) ?_ | ((with_reducible refine And.intro ?_ ?_); (focus ((repeat' (with_reducible apply And.intro)) <;> first | (with_reducible exact OrdAt.of (by kernel_rfl)) | (with_reducible exact OrdT.of (by kernel_rfl)) | exact True.intro | (with_reducible assumption) | omega | rfl | exact Nat.le_of_ble_eq_true rfl | exact Or.inl trivial | (unfold inI; omega)))))
          exact qd_bad (.inr (.inr (.inl hc)))
        · rw [chk_ok hc, if_neg hc] at c13
          (first | refine CallE.mem (c13) (by first | rfl | (simp only [List.map_cons, List.map_nil, frz_sl, frz_agg8, frz_agg32, frz_vv, frz_hv]; done) | (simp only [List.map_cons, List.map_nil, frz_sl, frz_agg8, frz_agg32, frz_vv, frz_hv]; rfl)) (by simp [bor, look_cons, isBox]) (by rfl) ?_ | refine CallXE.mem (c13) (by first | rfl | (simp only [List.map_cons, List.map_nil, frz_sl, frz_agg8, frz_agg32, frz_vv, frz_hv]; done) | (simp only [List.map_cons, List.map_nil, frz_sl, frz_agg8, frz_agg32, frz_vv, frz_hv]; rfl)) (by simp [bor, look_cons, isBox]) (by rfl) ?_)
          repeat (first | simp only [go_sem, Nat.reduceLT, Nat.reduceEqDiff, reduceIte, Int.reduceEq, Int.reduceLE, Int.reduceLT, Nat.reduceMul, Nat.reduceAdd, Nat.reduceSub, Int.reduceNeg, Int.reduceAdd, Int.reduceMul, Int.reduceSub, Int.reduceToNat, Nat.reduceLeDiff, Nat.reduceDiv, Int.reduceDiv, reduceCtorEq, Option.some.injEq, exists_eq_left', bytesA_bys, bytesOk_bys] | refine AW.seq ?_ | refine AW.block ?_ | refine AW.scope ?_ | refine AW.cond_tt rfl ?_ | refine AW.cond_ff rfl ?_ | refine AW.label ?_ | refine AW.skip ?_ | refine AW.ret ?_ | refine AW.exit ?_ | refine AW.region ?_ | refine AW.draw (by kernel_rfl) (by decide +kernel) ?_ | refine AW.drawN (by kernel_rfl) (by decide +kernel) ?_ | ((with_reducible refine And.intro ?_ ?_); (focus ((repeat' (with_reducible apply And.intro)) <;> first | (with_reducible exact OrdAt.of (by kernel_rfl)) | (with_reducible exact OrdT.of (by kernel_rfl)) | exact True.intro | (with_reducible assumption) | omega | rfl | exact Nat.le_of_ble_eq_true rfl | exact Or.inl trivial | (unfold inI; omega)))))
          refine AW.cond_dec rfl (fun h4 => ?_) (fun h4 => ?_)
          · repeat (first | simp only [go_sem, Nat.reduceLT, Nat.reduceEqDiff, reduceIte, Int.reduceEq, Int.reduceLE, Int.reduceLT, Nat.reduceMul, Nat.reduceAdd, Nat.reduceSub, Int.reduceNeg, Int.reduceAdd, Int.reduceMul, Int.reduceSub, Int.reduceToNat, Nat.reduceLeDiff, Nat.reduceDiv, Int.reduceDiv, reduceCtorEq, Option.some.injEq, exists_eq_left', z32_map, z32_len, List.length_map, tz, hz] | refine AW.seq ?_ | refine AW.block ?_ | refine AW.scope ?_ | refine AW.cond_tt rfl ?_ | refine AW.cond_ff rfl ?_ | refine AW.label ?_ | refine AW.skip ?_ | refine AW.ret ?_ | refine AW.exit ?_ | refine AW.region ?_ | refine AW.draw (by kernel_rfl) (by decide +kernel) ?_ | refine AW.drawN (by kernel_rfl) (by decide +kernel) ?_ | ((with_reducible refine And.intro ?_ ?_); (focus ((repeat' (with_reducible apply And.intro)) <;> first | (with_reducible exact OrdAt.of (by kernel_rfl)) | (with_reducible exact OrdT.of (by kernel_rfl)) | exact True.intro | (with_reducible assumption) | omega | rfl | exact Nat.le_of_ble_eq_true rfl | exact Or.inl trivial | (unfold inI; omega)))))
            exact qd_bad (.inr (.inr (.inr h4)))
          · repeat (first | simp only [go_sem, Nat.reduceLT, Nat.reduceEqDiff, reduceIte, Int.reduceEq, Int.reduceLE, Int.reduceLT, Nat.reduceMul, Nat.reduceAdd, Nat.reduceSub, Int.reduceNeg, Int.reduceAdd, Int.reduceMul, Int.reduceSub, Int.reduceToNat, Nat.reduceLeDiff, Nat.reduceDiv, Int.reduceDiv, reduceCtorEq, Option.some.injEq, exists_eq_left', z32_map, z32_len, List.length_map, tz, hz, hsl, tS, hsp, List.length_cons, List.length_nil] | refine AW.seq ?_ | refine AW.block ?_ | refine AW.scope ?_ | refine AW.cond_tt rfl ?_ | refine AW.cond_ff rfl ?_ | refine AW.label ?_ | refine AW.skip ?_ | refine AW.ret ?_ | refine AW.exit ?_ | refine AW.region ?_ | refine AW.draw (by kernel_rfl) (by decide +kernel) ?_ | refine AW.drawN (by kernel_rfl) (by decide +kernel) ?_ | ((with_reducible refine And.intro ?_ ?_); (focus ((repeat' (with_reducible apply And.intro)) <;> first | (with_reducible exact OrdAt.of (by kernel_rfl)) | (with_reducible exact OrdT.of (by kernel_rfl)) | exact True.intro | (with_reducible assumption) | omega | rfl | exact Nat.le_of_ble_eq_true rfl | exact Or.inl trivial | (unfold inI; omega)))))
            exact hgood (by rintro (h | h | h | h) <;> first | exact hc h | exact h4 h | omega)
end Go.Proofs.YtaghnjehlpbdkaaDoor

namespace Go.Proofs.YtaghnjehlpbdkaaDoor
open Go Go.Eng Go.Proofs
set_option maxRecDepth 100000
set_option maxHeartbeats 1000000
set_option linter.unusedSimpArgs false
set_option linter.unusedVariables false
theorem takeF_app (a : List UInt8) (x : UInt8) : takeF (a ++ [x]) = takeF a * 256 + x.toUInt64 := by
  simp only [takeF, List.foldl_append, List.foldl_cons, List.foldl_nil]
  exact shl_or _ _
theorem takeF_bigE (n : UInt64) : ∀ j, j ≤ 8 → (takeF (bigE n 8 j)).toNat = n.toNat / 2 ^ (8 * (8 - j))
  | 0, _ => by
    have := n.toNat_lt
    simp only [bigE, List.range_zero, List.map_nil, takeF, List.foldl_nil]
    rw [show 2 ^ (8 * (8 - 0)) = 2 ^ 64 from rfl, Nat.div_eq_of_lt this]; rfl
  | j + 1, h => by
    have ih := takeF_bigE n j (by omega)
    have hn := n.toNat_lt
    have e1 : (8 * (8 - 1 - (j : Int))).toNat = 8 * (7 - j) := by omega
    have e2 : 8 * (8 - (j + 1)) = 8 * (7 - j) := by omega
    have e3 : 2 ^ (8 * (8 - j)) = 2 ^ (8 * (7 - j)) * 256 := by rw [show 8 * (8 - j) = 8 * (7 - j) + 8 by omega, Nat.pow_add]
    have hle : n.toNat / 2 ^ (8 * (7 - j)) ≤ n.toNat := Nat.div_le_self _ _
    rw [bigE_succ, takeF_app, UInt64.toNat_add, UInt64.toNat_mul, ih, e1, e2, e3, UInt8.toNat_toUInt64, UInt64.toNat_toUInt8, shr64_toNat, ← Nat.div_div_eq_div_mul, show (256 : UInt64).toNat = 256 from rfl]
    omega
theorem natOf_cons (x : UInt8) (a : List UInt8) : natOf (x :: a) = x.toNat * 256 ^ a.length + natOf a := by
  have : x :: a = [x] ++ a := rfl
  rw [this, natOf_app]
  simp [natOf]
theorem natOf_inj : ∀ (a b : List UInt8), a.length = b.length → natOf a = natOf b → a = b
  | [], [], _, _ => rfl
  | [], _ :: _, h, _ => by simp at h
  | _ :: _, [], h, _ => by simp at h
  | x :: a, y :: b, h, e => by
    have hl : a.length = b.length := by simpa using h
    rw [natOf_cons, natOf_cons, hl] at e
    have h1 := natOf_lt a
    have h2 := natOf_lt b
    rw [hl] at h1
    have hx : x.toNat = y.toNat := by
      have e1 : (x.toNat * 256 ^ b.length + natOf a) / 256 ^ b.length = (y.toNat * 256 ^ b.length + natOf b) / 256 ^ b.length := by rw [e]
      rwa [Nat.mul_comm, Nat.mul_add_div (Nat.pow_pos (by decide)), Nat.div_eq_of_lt h1, Nat.mul_comm y.toNat, Nat.mul_add_div (Nat.pow_pos (by decide)), Nat.div_eq_of_lt h2] at e1
    have hab : natOf a = natOf b := by rw [hx] at e; omega
    rw [UInt8.toNat_inj.1 hx, natOf_inj a b hl hab]
theorem takeF_nat : ∀ (b : List UInt8), b.length ≤ 8 → (takeF b).toNat = natOf b := by
  intro b
  have key : ∀ (n : Nat) (b : List UInt8), b.length = n → n ≤ 8 → (takeF b).toNat = natOf b := by
    intro n
    induction n with
    | zero => intro b h _; have : b = [] := List.eq_nil_of_length_eq_zero h; subst this; rfl
    | succ n ih =>
      intro b h h8
      obtain ⟨a, x, rfl⟩ : ∃ a x, b = a ++ [x] := ⟨b.dropLast, b.getLast (by intro h0; subst h0; simp at h), (List.dropLast_concat_getLast _).symm⟩
      have hl : a.length = n := by simpa using h
      have h1 := natOf_lt a
      have h2 := x.toNat_lt
      have h3 : natOf a * 256 + x.toNat < 2 ^ 64 := by
        have : (natOf a + 1) * 256 ≤ 256 ^ a.length * 256 := Nat.mul_le_mul_right _ h1
        rw [← Nat.pow_succ, hl] at this
        have h4 : 256 ^ (n + 1) ≤ 256 ^ 8 := Nat.pow_le_pow_right (by decide) h8
        omega
      rw [takeF_app, UInt64.toNat_add, UInt64.toNat_mul, ih a hl (by omega), UInt8.toNat_toUInt64, natOf_app]
      have : natOf [x] = x.toNat := by simp [natOf]
      rw [this]
      show (natOf a * 256 % 2 ^ 64 + x.toNat) % 2 ^ 64 = natOf a * 256 ^ 1 + x.toNat
      omega
  exact fun h => key b.length b rfl h
theorem takeF_inj {a b : List UInt8} (hl : a.length = b.length) (h8 : a.length ≤ 8) (h : takeF a = takeF b) : a = b := by
  refine natOf_inj a b hl ?_
  rw [← takeF_nat a h8, ← takeF_nat b (by omega), h]
theorem takeF_be8 (n : UInt64) : takeF (bigE n 8 8) = n := by
  apply UInt64.toNat_inj.1
  rw [takeF_bigE n 8 (Nat.le_refl _)]
  simp
theorem be8_takeF {c : List UInt8} (h : c.length = 8) : bigE (takeF c) 8 8 = c :=
  takeF_inj (by rw [bigE_length, h]) (by rw [bigE_length]; exact Nat.le_refl _) (takeF_be8 _)
theorem takeF_be2 (k : Nat) (h : k < 65536) : (takeF (be2 k)).toNat = k := by
  rw [takeF_nat _ (by simp [be2])]
  simp only [be2, natOf, List.foldl_cons, List.foldl_nil, UInt8.toNat_ofNat']
  omega
theorem be2_takeF {c : List UInt8} (h : c.length = 2) : be2 (takeF c).toNat = c :=
  takeF_inj (by rw [h]; rfl) (by simp [be2]) (UInt64.toNat_inj.1 (takeF_be2 _ (takeF_lt c (by omega))))
theorem be8_len (n : Int) : (be8 n).length = 8 := bigE_length _ _ _
theorem be2_len (n : Nat) : (be2 n).length = 2 := rfl
theorem takeF_be8i {n : Int} (h : 0 ≤ n) (h2 : n ≤ 2147483647) : ((takeF (be8 n)).toNat : Int) = n := by
  rw [be8, takeF_be8, UInt64.toNat_ofNat']; omega
theorem be8_nat (v : UInt64) : be8 (v.toNat : Int) = bigE v 8 8 := by
  rw [be8, Int.toNat_natCast, UInt64.ofNat_toNat]
/-! cuts -/
theorem cut_app (x y : List UInt8) {n : Nat} (h : x.length = n) (w : Bool) : cutV (x ++ y) n = x ∧ cutL (x ++ y) n = y ∧ cutW (x ++ y) w n = w := by
  subst h
  have h : ¬ (x ++ y).length < x.length := by simp
  rw [cutV, cutL, cutW, if_neg h, if_neg h, if_neg h]
  simp
theorem cut_true {L : List UInt8} {w : Bool} {n : Nat} (h : cutW L w n = true) : w = true ∧ L = cutV L n ++ cutL L n := by
  unfold cutW at h
  split at h
  · cases h
  · rename_i hn
    rw [cutV, cutL, if_neg hn, if_neg hn]
    exact ⟨h, (List.take_append_drop _ _).symm⟩
theorem tx_app {t y : List UInt8} (h : t.length < 65536) (w : Bool) : txV (be2 t.length ++ (t ++ y)) = t ∧ txL (be2 t.length ++ (t ++ y)) = y ∧ txW (be2 t.length ++ (t ++ y)) w = w := by
  obtain ⟨h1, h2, h3⟩ := cut_app (be2 t.length) (t ++ y) (n := 2) rfl w
  have hm : txM (be2 t.length ++ (t ++ y)) = t.length := by rw [txM, h1, takeF_be2 _ h]
  obtain ⟨k1, k2, k3⟩ := cut_app t y (n := t.length) rfl w
  rw [txV, txL, txW, h2, h3, hm]
  exact ⟨k1, k2, k3⟩
theorem tx_true {L : List UInt8} {w : Bool} (h : txW L w = true) : w = true ∧ L = be2 (txV L).length ++ (txV L ++ txL L) := by
  obtain ⟨h1, h2⟩ := cut_true h
  obtain ⟨h3, h4⟩ := cut_true h1
  refine ⟨h3, ?_⟩
  rw [txV_len, txM, be2_takeF (cutV_len L 2)]
  conv => lhs; rw [h4, h2]
  rfl
theorem itemT_eq (s l : List UInt8) (n : Int) (v : List UInt8) : itemT s l n v = [5] ++ (s ++ (be2 l.length ++ (l ++ (be8 n ++ (be2 v.length ++ (v ++ [])))))) := by
  simp [itemT]
theorem rd_item {s l : List UInt8} {n : Int} {v : List UInt8} (hs : s.length = 32) (hc : ¬ chkBad l n v) : ¬ rBad (itemT s l n v) ∧ rSalt (itemT s l n v) = s ∧ rLab (itemT s l n v) = l ∧ ((rVer (itemT s l n v)).toNat : Int) = n ∧ rVal (itemT s l n v) = v := by
  have hc' := hc
  unfold chkBad at hc'
  rw [itemT_eq]
  obtain ⟨a1, a2, a3⟩ := cut_app [5] (s ++ (be2 l.length ++ (l ++ (be8 n ++ (be2 v.length ++ (v ++ [])))))) (n := 1) rfl true
  obtain ⟨b1, b2, b3⟩ := cut_app s (be2 l.length ++ (l ++ (be8 n ++ (be2 v.length ++ (v ++ []))))) (n := 32) hs true
  obtain ⟨c1, c2, c3⟩ := tx_app (t := l) (y := be8 n ++ (be2 v.length ++ (v ++ []))) (by omega) true
  obtain ⟨d1, d2, d3⟩ := cut_app (be8 n) (be2 v.length ++ (v ++ [])) (n := 8) (be8_len n) true
  obtain ⟨e1, e2, e3⟩ := tx_app (t := v) (y := []) (by omega) true
  have r1 : rSalt ([5] ++ (s ++ (be2 l.length ++ (l ++ (be8 n ++ (be2 v.length ++ (v ++ []))))))) = s := by rw [rSalt, rL1, a2, b1]
  have r2 : rLab ([5] ++ (s ++ (be2 l.length ++ (l ++ (be8 n ++ (be2 v.length ++ (v ++ []))))))) = l := by rw [rLab, rL2, rL1, a2, b2, c1]
  have r3 : ((rVer ([5] ++ (s ++ (be2 l.length ++ (l ++ (be8 n ++ (be2 v.length ++ (v ++ [])))))))).toNat : Int) = n := by rw [rVer, rL3, rL2, rL1, a2, b2, c2, d1, takeF_be8i (by omega) (by omega)]
  have r4 : rVal ([5] ++ (s ++ (be2 l.length ++ (l ++ (be8 n ++ (be2 v.length ++ (v ++ []))))))) = v := by rw [rVal, rL4, rL3, rL2, rL1, a2, b2, c2, d2, e1]
  have r5 : rL5 ([5] ++ (s ++ (be2 l.length ++ (l ++ (be8 n ++ (be2 v.length ++ (v ++ []))))))) = [] := by rw [rL5, rL4, rL3, rL2, rL1, a2, b2, c2, d2, e2]
  have r6 : rW5 ([5] ++ (s ++ (be2 l.length ++ (l ++ (be8 n ++ (be2 v.length ++ (v ++ []))))))) = true := by
    rw [rW5, rL4, rW4, rL3, rW3, rL2, rW2, rL1, rW1, a2, a3, b2, b3, c2, c3, d2, d3, e3]
  have r7 : (rTag ([5] ++ (s ++ (be2 l.length ++ (l ++ (be8 n ++ (be2 v.length ++ (v ++ []))))))) ).toNat = 5 := by rw [rTag, a1]; decide
  refine ⟨?_, r1, r2, r3, r4⟩
  unfold rBad
  rw [r2, r3, r4, r5, r6, r7]
  rintro (h | h | h | h | h)
  · cases h
  · simp at h
  · exact h rfl
  · omega
  · exact hc h
theorem rd_exact {b : List UInt8} (h : ¬ rBad b) : b = itemT (rSalt b) (rLab b) (rVer b).toNat (rVal b) ∧ ¬ chkBad (rLab b) (rVer b).toNat (rVal b) := by
  unfold rBad at h
  have h1 : rW5 b = true := by cases e : rW5 b with
    | true => rfl
    | false => exact absurd (.inl e) h
  have h2 : rL5 b = [] := by
    have : ¬ 0 < (rL5 b).length := fun e => h (.inr (.inl e))
    exact List.eq_nil_of_length_eq_zero (by omega)
  have h3 : (rTag b).toNat = 5 := Classical.byContradiction fun e => h (.inr (.inr (.inl e)))
  refine ⟨?_, fun e => h (.inr (.inr (.inr (.inr e))))⟩
  obtain ⟨w4, e5⟩ := tx_true h1
  obtain ⟨w3, e4⟩ := cut_true w4
  obtain ⟨w2, e3⟩ := tx_true w3
  obtain ⟨w1, e2⟩ := cut_true w2
  obtain ⟨_, e1⟩ := cut_true w1
  have t5 : cutV b 1 = [5] := takeF_inj (by rw [cutV_len]; rfl) (by rw [cutV_len]; decide) (UInt64.toNat_inj.1 (by rw [show takeF (cutV b 1) = rTag b from rfl, h3]; decide))
  have hv : be8 ((rVer b).toNat : Int) = cutV (rL3 b) 8 := by rw [be8_nat, rVer, be8_takeF (cutV_len _ _)]
  rw [itemT_eq, hv]
  have g5 : rL4 b = be2 (rVal b).length ++ (rVal b ++ []) := by rw [← h2]; exact e5
  have g4 : rL3 b = cutV (rL3 b) 8 ++ rL4 b := e4
  have g3 : rL2 b = be2 (rLab b).length ++ (rLab b ++ rL3 b) := e3
  have g2 : rL1 b = rSalt b ++ rL2 b := e2
  have g1 : b = [5] ++ rL1 b := by rw [← t5]; exact e1
  rw [← g5, ← g4, ← g3, ← g2, ← g1]
end Go.Proofs.YtaghnjehlpbdkaaDoor

namespace Go.Proofs.YtaghnjehlpbdkaaDoor
open Go Go.Eng Go.Proofs
set_option maxRecDepth 100000
set_option maxHeartbeats 1000000
set_option linter.unusedSimpArgs false
set_option linter.unusedVariables false
theorem drop_at {x y : List UInt8} {n : Nat} (h : x.length = n) : (x ++ y).drop n = y := by subst h; simp
theorem qd_item {s l : List UInt8} {n : Int} {v : List UInt8} (hs : s.length = 32) (hc : ¬ chkBad l n v) : ¬ qBad (itemT s l n v) ∧ qSalt (itemT s l n v) = s ∧ qLab (itemT s l n v) = l ∧ qVer (itemT s l n v) = n ∧ qVal (itemT s l n v) = v := by
  have hc' := hc
  unfold chkBad at hc'
  have hlen := itemT_len (l := l) (n := n) (v := v) hs
  have e0 : (itemT s l n v).drop 1 = s ++ (be2 l.length ++ (l ++ (be8 n ++ (be2 v.length ++ v)))) := by
    have : itemT s l n v = [5] ++ (s ++ (be2 l.length ++ (l ++ (be8 n ++ (be2 v.length ++ v))))) := by simp [itemT]
    rw [this, drop_at (x := [5]) (n := 1) rfl]
  have e1 : (itemT s l n v).drop 33 = be2 l.length ++ (l ++ (be8 n ++ (be2 v.length ++ v))) := by
    have : itemT s l n v = ([5] ++ s) ++ (be2 l.length ++ (l ++ (be8 n ++ (be2 v.length ++ v)))) := by simp [itemT]
    rw [this, drop_at (by simp [hs])]
  have e2 : (itemT s l n v).drop 35 = l ++ (be8 n ++ (be2 v.length ++ v)) := by
    have : itemT s l n v = ([5] ++ s ++ be2 l.length) ++ (l ++ (be8 n ++ (be2 v.length ++ v))) := by simp [itemT]
    rw [this, drop_at (by simp [hs, be2_len])]
  have e3 : (itemT s l n v).drop (35 + l.length) = be8 n ++ (be2 v.length ++ v) := by
    have : itemT s l n v = ([5] ++ s ++ be2 l.length ++ l) ++ (be8 n ++ (be2 v.length ++ v)) := by simp [itemT]
    rw [this, drop_at (by simp [hs, be2_len]; omega)]
  have e4 : (itemT s l n v).drop (45 + l.length) = v := by
    have : itemT s l n v = ([5] ++ s ++ be2 l.length ++ l ++ be8 n ++ be2 v.length) ++ v := by simp [itemT]
    rw [this, drop_at (by simp [hs, be2_len, be8_len]; omega)]
  have hN : qN (itemT s l n v) = l.length := by
    have h33 : (itemT s l n v).getD 33 0 = UInt8.ofNat (l.length / 256) := by
      have : (itemT s l n v).getD 33 0 = ((itemT s l n v).drop 33).getD 0 0 := by simp [List.getD_eq_getElem?_getD]
      rw [this, e1]; rfl
    have h34 : (itemT s l n v).getD 34 0 = UInt8.ofNat l.length := by
      have : (itemT s l n v).getD 34 0 = ((itemT s l n v).drop 33).getD 1 0 := by simp [List.getD_eq_getElem?_getD]
      rw [this, e1]; rfl
    rw [qN, h33, h34, UInt8.toNat_ofNat', UInt8.toNat_ofNat']
    omega
  have q1 : qSalt (itemT s l n v) = s := by rw [qSalt, e0, List.take_left' hs]
  have q2 : qLab (itemT s l n v) = l := by rw [qLab, hN, e2, List.take_left' rfl]
  have q4 : qVal (itemT s l n v) = v := by rw [qVal, hN, e4]
  have q3 : qVer (itemT s l n v) = n := by
    rw [qVer, hN, e3]
    have hb : ¬ takeBad (be8 n ++ (be2 v.length ++ v)) 8 := by unfold takeBad; rw [List.length_append, be8_len]; omega
    rw [takeN, if_neg hb, show (8 : Int).toNat = 8 from rfl, List.take_left' (be8_len n), takeF_be8i (by omega) (by omega)]
    exact wrapI _ (by unfold inI; omega)
  refine ⟨?_, q1, q2, q3, q4⟩
  unfold qBad
  rw [q1, q2, q3, q4, hN, hlen]
  rintro (h | h | h | h)
  · omega
  · omega
  · exact hc h
  · exact h rfl
theorem rq_bad (b : List UInt8) : rBad b ↔ qBad b := by
  constructor
  · intro h
    refine Classical.byContradiction fun hq => ?_
    have hq' := hq
    unfold qBad at hq'
    have h1 : ¬ b.length < 45 := fun e => hq' (.inl e)
    have h3 : ¬ chkBad (qLab b) (qVer b) (qVal b) := fun e => hq' (.inr (.inr (.inl e)))
    have h4 : itemT (qSalt b) (qLab b) (qVer b) (qVal b) = b := Classical.byContradiction fun e => hq' (.inr (.inr (.inr e)))
    have hs : (qSalt b).length = 32 := by rw [qSalt, List.length_take, List.length_drop]; omega
    have := (rd_item hs h3).1
    rw [h4] at this
    exact this h
  · intro h
    refine Classical.byContradiction fun hr => ?_
    obtain ⟨e, hc⟩ := rd_exact hr
    have := (qd_item (rSalt_len b) hc).1
    rw [← e] at this
    exact this h
theorem rq_eq (b : List UInt8) : qdS b = rdS b ∧ qdL b = rdL b ∧ qdN b = rdN b ∧ qdV b = rdV b ∧ qdE b = rdE b := by
  unfold qdS qdL qdN qdV qdE rdS rdL rdN rdV rdE
  by_cases h : rBad b
  · have h' := (rq_bad b).1 h
    simp [h, h']
  · have h' : ¬ qBad b := fun e => h ((rq_bad b).2 e)
    obtain ⟨e, hc⟩ := rd_exact h
    have := (qd_item (rSalt_len b) hc).2
    rw [← e] at this
    obtain ⟨q1, q2, q3, q4⟩ := this
    simp [h, h', q1, q2, q3, q4]
theorem itemT_inj {s l : List UInt8} {n : Int} {v s' l' : List UInt8} {n' : Int} {v' : List UInt8} (hs : s.length = 32) (hs' : s'.length = 32) (hc : ¬ chkBad l n v) (hc' : ¬ chkBad l' n' v') (h : itemT s l n v = itemT s' l' n' v') : s = s' ∧ l = l' ∧ n = n' ∧ v = v' := by
  obtain ⟨_, a1, a2, a3, a4⟩ := rd_item hs hc
  obtain ⟨_, b1, b2, b3, b4⟩ := rd_item hs' hc'
  rw [h] at a1 a2 a3 a4
  exact ⟨a1.symm.trans b1, a2.symm.trans b2, a3.symm.trans b3, a4.symm.trans b4⟩
theorem nameT_inj {l : List UInt8} {n : Int} {l' : List UInt8} {n' : Int} (hc : ¬ chkBad l n []) (hc' : ¬ chkBad l' n' []) (h : nameT l n = nameT l' n') : l = l' ∧ n = n' := by
  unfold chkBad at hc hc'
  unfold nameT at h
  rw [List.append_assoc, List.append_assoc, List.append_assoc, List.append_assoc] at h
  have h1 : be2 l.length ++ (l ++ be8 n) = be2 l'.length ++ (l' ++ be8 n') := List.append_cancel_left h
  have a := tx_app (t := l) (y := be8 n) (by omega) true
  have b := tx_app (t := l') (y := be8 n') (by omega) true
  rw [h1] at a
  have e1 : l = l' := a.1.symm.trans b.1
  have e2 : be8 n = be8 n' := a.2.1.symm.trans b.2.1
  refine ⟨e1, ?_⟩
  have f1 := takeF_be8i (n := n) (by omega) (by omega)
  have f2 := takeF_be8i (n := n') (by omega) (by omega)
  rw [e2] at f1
  exact f1.symm.trans f2
theorem name_item (l : List UInt8) (n : Int) (s l' : List UInt8) (n' : Int) (v' : List UInt8) : nameT l n ≠ itemT s l' n' v' := by
  intro h
  have := congrArg (fun b => b.getD 0 0) h
  simp [nameT, itemT] at this
end Go.Proofs.YtaghnjehlpbdkaaDoor

namespace Go.Proofs.YtaghnjehlpbdkaaDoor
open Go Go.Eng Go.Proofs
set_option maxRecDepth 100000
set_option maxHeartbeats 2000000
set_option linter.unusedSimpArgs false
set_option linter.unusedVariables false
def s7 : List UInt8 := 7 :: List.replicate 31 0
def aT : List UInt8 := itemT s7 [97] 2 [118]
theorem aT_ok : ¬ chkBad [97] 2 [118] := by decide
theorem aT_sum : sumOf aT = toB 90426869172567607942174235428467445377976882893882179991700428534899551937528 := by
  refine sum_N aT _ 1 _ (by decide +kernel) rfl ?_
  kernel_rfl
theorem aT_z : sumOf aT ≠ z32 := by rw [aT_sum]; decide +kernel
theorem aT_rd : rdS aT = s7 ∧ rdL aT = [97] ∧ rdN aT = 2 ∧ rdV aT = [118] ∧ rdE aT = 0 := by
  obtain ⟨h, a, b, c, d⟩ := rd_item (s := s7) (l := [97]) (n := 2) (v := [118]) rfl aT_ok
  rw [rdS, rdL, rdN, rdV, rdE]
  simp only [show aT = itemT s7 [97] 2 [118] from rfl]
  rw [if_neg h, if_neg h, if_neg h, if_neg h, if_neg h]
  exact ⟨a, b, c, d, rfl⟩
theorem aT_name : nameS [97] 2 = [4, 0, 1, 97, 0, 0, 0, 0, 0, 0, 0, 2] := by decide +kernel
theorem rdE_nil : rdE [] = 1 := by decide +kernel
theorem rd_nil : rdS [] = z32 ∧ rdL [] = [] ∧ rdN [] = 0 ∧ rdV [] = [] := by decide +kernel
theorem f8 : AFun Tryd.prog 8 [] (boo true) := by
  refine AFun.enterW Tryd.func8 rfl Tryd.call8 (by simp [Tryd.ntmps8]) fun γ1 => ?_
  simp only [frameOf, Tryd.ntmps8]
  have c10 := f10 [97] 2
  rw [aT_name, show nameE [97] 2 = 0 from rfl] at c10
  have c12 := f12 s7 rfl [97] 2 [118]
  rw [itemS, if_neg aT_ok, chk_ok aT_ok, show itemT s7 [97] 2 [118] = aT from rfl] at c12
  have c16 := f16 aT (by decide +kernel)
  obtain ⟨r1, r2, r3, r4, r5⟩ := aT_rd
  rw [r1, r2, r3, r4, r5] at c16
  have c14 := f14 s7 rfl [97] 2 [118]
  rw [sealS, if_neg aT_ok, chk_ok aT_ok, show itemT s7 [97] 2 [118] = aT from rfl] at c14
  have c14z := f14 z32 rfl [] 0 []
  have hE : chkE [] 0 [] = 100 := rfl
  rw [hE] at c14z
  have c16n := f16 [] (by decide)
  obtain ⟨n1, n2, n3, n4⟩ := rd_nil
  rw [rdE_nil, n1, n2, n3, n4] at c16n
  have c21 := f21 (sumOf aT) (sumOf_len _) s7 rfl [97] 2 [118]
  have o1 : opens (sumOf aT) s7 [97] 2 [118] = True := eq_true ⟨aT_ok, rfl⟩
  have c21z := f21 z32 rfl s7 rfl [97] 2 [118]
  have o2 : opens z32 s7 [97] 2 [118] = False := eq_false fun h => aT_z h.2
  simp only [o1] at c21
  simp only [o2] at c21z
  have hz := aT_z
  have hl := sumOf_len aT
  have haT : aT.length = 47 := by decide +kernel
  generalize hAT : aT = T at c12 c16 haT
  generalize sumOf aT = C at *
  have hs7 : splice (List.replicate 32 (u8 0)) 0 [u8 (UInt8.ofNat 7)] = s7.map u8 := rfl
  have hs7' : splice (z32.map u8) 0 [u8 (UInt8.ofNat 7)] = s7.map u8 := rfl
  have l7 : s7.length = 32 := rfl
  have t7 : (s7.map u8).take 32 = s7.map u8 := rfl
  have hz7 : splice (z32.map u8) 0 (s7.map u8) = s7.map u8 := rfl
  have hC : splice (z32.map u8) 0 (C.map u8) = C.map u8 := spl8 (by rw [hl]; rfl)
  have tC : (C.map u8).take 32 = C.map u8 := List.take_of_length_le (by rw [List.length_map, hl]; exact Nat.le_refl _)
  repeat (first | simp only [go_sem, Nat.reduceLT, Nat.reduceEqDiff, reduceIte, Int.reduceEq, Int.reduceLE, Int.reduceLT, Nat.reduceMul, Nat.reduceAdd, Nat.reduceSub, Int.reduceNeg, Int.reduceAdd, Int.reduceMul, Int.reduceSub, Int.reduceToNat, Nat.reduceLeDiff, Nat.reduceDiv, Int.reduceDiv, reduceCtorEq, Option.some.injEq, exists_eq_left', hs7, List.length_map, z32_map, z32_len, l7, t7, hz7, hC, tC, hl, List.length_cons, List.length_nil, hs7'] | refine AW.seq ?_ | refine AW.block ?_ | refine AW.scope ?_ | refine AW.cond_tt rfl ?_ | refine AW.cond_ff rfl ?_ | refine AW.label ?_ | refine AW.skip ?_ | refine AW.ret ?_ | refine AW.exit ?_ | refine AW.region ?_ | refine AW.draw (by kernel_rfl) (by decide +kernel) ?_ | refine AW.drawN (by kernel_rfl) (by decide +kernel) ?_ | ((with_reducible refine And.intro ?_ ?_); (focus ((repeat' (with_reducible apply And.intro)) <;> first | (with_reducible exact OrdAt.of (by kernel_rfl)) | (with_reducible exact OrdT.of (by kernel_rfl)) | exact True.intro | (with_reducible assumption) | omega | rfl | exact Nat.le_of_ble_eq_true rfl | exact Or.inl trivial | (unfold inI; omega)))))
  (first | refine CallE.mem (c10) (by first | rfl | (simp only [List.map_cons, List.map_nil, frz_sl, frz_agg8, frz_agg32, frz_vv, frz_hv]; done) | (simp only [List.map_cons, List.map_nil, frz_sl, frz_agg8, frz_agg32, frz_vv, frz_hv]; rfl)) (by simp [bor, look_cons, isBox]) (by rfl) ?_ | refine CallXE.mem (c10) (by first | rfl | (simp only [List.map_cons, List.map_nil, frz_sl, frz_agg8, frz_agg32, frz_vv, frz_hv]; done) | (simp only [List.map_cons, List.map_nil, frz_sl, frz_agg8, frz_agg32, frz_vv, frz_hv]; rfl)) (by simp [bor, look_cons, isBox]) (by rfl) ?_)
  repeat (first | simp only [go_sem, Nat.reduceLT, Nat.reduceEqDiff, reduceIte, Int.reduceEq, Int.reduceLE, Int.reduceLT, Nat.reduceMul, Nat.reduceAdd, Nat.reduceSub, Int.reduceNeg, Int.reduceAdd, Int.reduceMul, Int.reduceSub, Int.reduceToNat, Nat.reduceLeDiff, Nat.reduceDiv, Int.reduceDiv, reduceCtorEq, Option.some.injEq, exists_eq_left', hs7, List.length_map, z32_map, z32_len, l7, t7, hz7, hC, tC, hl, List.length_cons, List.length_nil, hs7'] | refine AW.seq ?_ | refine AW.block ?_ | refine AW.scope ?_ | refine AW.cond_tt rfl ?_ | refine AW.cond_ff rfl ?_ | refine AW.label ?_ | refine AW.skip ?_ | refine AW.ret ?_ | refine AW.exit ?_ | refine AW.region ?_ | refine AW.draw (by kernel_rfl) (by decide +kernel) ?_ | refine AW.drawN (by kernel_rfl) (by decide +kernel) ?_ | ((with_reducible refine And.intro ?_ ?_); (focus ((repeat' (with_reducible apply And.intro)) <;> first | (with_reducible exact OrdAt.of (by kernel_rfl)) | (with_reducible exact OrdT.of (by kernel_rfl)) | exact True.intro | (with_reducible assumption) | omega | rfl | exact Nat.le_of_ble_eq_true rfl | exact Or.inl trivial | (unfold inI; omega)))))
  (first | refine CallE.mem (c12) (by first | rfl | (simp only [List.map_cons, List.map_nil, frz_sl, frz_agg8, frz_agg32, frz_vv, frz_hv]; done) | (simp only [List.map_cons, List.map_nil, frz_sl, frz_agg8, frz_agg32, frz_vv, frz_hv]; rfl)) (by simp [bor, look_cons, isBox]) (by rfl) ?_ | refine CallXE.mem (c12) (by first | rfl | (simp only [List.map_cons, List.map_nil, frz_sl, frz_agg8, frz_agg32, frz_vv, frz_hv]; done) | (simp only [List.map_cons, List.map_nil, frz_sl, frz_agg8, frz_agg32, frz_vv, frz_hv]; rfl)) (by simp [bor, look_cons, isBox]) (by rfl) ?_)
  repeat (first | simp only [go_sem, Nat.reduceLT, Nat.reduceEqDiff, reduceIte, Int.reduceEq, Int.reduceLE, Int.reduceLT, Nat.reduceMul, Nat.reduceAdd, Nat.reduceSub, Int.reduceNeg, Int.reduceAdd, Int.reduceMul, Int.reduceSub, Int.reduceToNat, Nat.reduceLeDiff, Nat.reduceDiv, Int.reduceDiv, reduceCtorEq, Option.some.injEq, exists_eq_left', hs7, List.length_map, z32_map, z32_len, l7, t7, hz7, hC, tC, hl, List.length_cons, List.length_nil, hs7'] | refine AW.seq ?_ | refine AW.block ?_ | refine AW.scope ?_ | refine AW.cond_tt rfl ?_ | refine AW.cond_ff rfl ?_ | refine AW.label ?_ | refine AW.skip ?_ | refine AW.ret ?_ | refine AW.exit ?_ | refine AW.region ?_ | refine AW.draw (by kernel_rfl) (by decide +kernel) ?_ | refine AW.drawN (by kernel_rfl) (by decide +kernel) ?_ | ((with_reducible refine And.intro ?_ ?_); (focus ((repeat' (with_reducible apply And.intro)) <;> first | (with_reducible exact OrdAt.of (by kernel_rfl)) | (with_reducible exact OrdT.of (by kernel_rfl)) | exact True.intro | (with_reducible assumption) | omega | rfl | exact Nat.le_of_ble_eq_true rfl | exact Or.inl trivial | (unfold inI; omega)))))
  (first | refine CallE.mem (c16) (by first | rfl | (simp only [List.map_cons, List.map_nil, frz_sl, frz_agg8, frz_agg32, frz_vv, frz_hv]; done) | (simp only [List.map_cons, List.map_nil, frz_sl, frz_agg8, frz_agg32, frz_vv, frz_hv]; rfl)) (by simp [bor, look_cons, isBox]) (by rfl) ?_ | refine CallXE.mem (c16) (by first | rfl | (simp only [List.map_cons, List.map_nil, frz_sl, frz_agg8, frz_agg32, frz_vv, frz_hv]; done) | (simp only [List.map_cons, List.map_nil, frz_sl, frz_agg8, frz_agg32, frz_vv, frz_hv]; rfl)) (by simp [bor, look_cons, isBox]) (by rfl) ?_)
  repeat (first | simp only [go_sem, Nat.reduceLT, Nat.reduceEqDiff, reduceIte, Int.reduceEq, Int.reduceLE, Int.reduceLT, Nat.reduceMul, Nat.reduceAdd, Nat.reduceSub, Int.reduceNeg, Int.reduceAdd, Int.reduceMul, Int.reduceSub, Int.reduceToNat, Nat.reduceLeDiff, Nat.reduceDiv, Int.reduceDiv, reduceCtorEq, Option.some.injEq, exists_eq_left', hs7, List.length_map, z32_map, z32_len, l7, t7, hz7, hC, tC, hl, List.length_cons, List.length_nil, hs7'] | refine AW.seq ?_ | refine AW.block ?_ | refine AW.scope ?_ | refine AW.cond_tt rfl ?_ | refine AW.cond_ff rfl ?_ | refine AW.label ?_ | refine AW.skip ?_ | refine AW.ret ?_ | refine AW.exit ?_ | refine AW.region ?_ | refine AW.draw (by kernel_rfl) (by decide +kernel) ?_ | refine AW.drawN (by kernel_rfl) (by decide +kernel) ?_ | ((with_reducible refine And.intro ?_ ?_); (focus ((repeat' (with_reducible apply And.intro)) <;> first | (with_reducible exact OrdAt.of (by kernel_rfl)) | (with_reducible exact OrdT.of (by kernel_rfl)) | exact True.intro | (with_reducible assumption) | omega | rfl | exact Nat.le_of_ble_eq_true rfl | exact Or.inl trivial | (unfold inI; omega)))))
  (first | refine CallE.mem (c14) (by first | rfl | (simp only [List.map_cons, List.map_nil, frz_sl, frz_agg8, frz_agg32, frz_vv, frz_hv]; done) | (simp only [List.map_cons, List.map_nil, frz_sl, frz_agg8, frz_agg32, frz_vv, frz_hv]; rfl)) (by simp [bor, look_cons, isBox]) (by rfl) ?_ | refine CallXE.mem (c14) (by first | rfl | (simp only [List.map_cons, List.map_nil, frz_sl, frz_agg8, frz_agg32, frz_vv, frz_hv]; done) | (simp only [List.map_cons, List.map_nil, frz_sl, frz_agg8, frz_agg32, frz_vv, frz_hv]; rfl)) (by simp [bor, look_cons, isBox]) (by rfl) ?_)
  repeat (first | simp only [go_sem, Nat.reduceLT, Nat.reduceEqDiff, reduceIte, Int.reduceEq, Int.reduceLE, Int.reduceLT, Nat.reduceMul, Nat.reduceAdd, Nat.reduceSub, Int.reduceNeg, Int.reduceAdd, Int.reduceMul, Int.reduceSub, Int.reduceToNat, Nat.reduceLeDiff, Nat.reduceDiv, Int.reduceDiv, reduceCtorEq, Option.some.injEq, exists_eq_left', hs7, List.length_map, z32_map, z32_len, l7, t7, hz7, hC, tC, hl, List.length_cons, List.length_nil, hs7'] | refine AW.seq ?_ | refine AW.block ?_ | refine AW.scope ?_ | refine AW.cond_tt rfl ?_ | refine AW.cond_ff rfl ?_ | refine AW.label ?_ | refine AW.skip ?_ | refine AW.ret ?_ | refine AW.exit ?_ | refine AW.region ?_ | refine AW.draw (by kernel_rfl) (by decide +kernel) ?_ | refine AW.drawN (by kernel_rfl) (by decide +kernel) ?_ | ((with_reducible refine And.intro ?_ ?_); (focus ((repeat' (with_reducible apply And.intro)) <;> first | (with_reducible exact OrdAt.of (by kernel_rfl)) | (with_reducible exact OrdT.of (by kernel_rfl)) | exact True.intro | (with_reducible assumption) | omega | rfl | exact Nat.le_of_ble_eq_true rfl | exact Or.inl trivial | (unfold inI; omega)))))
  refine CallE.memW c14z (show WkL [AV.agg (z32.map u8), AV.agg [nilS, int 0, nilS]] _ from ⟨Wk.refl _, Wk.agg ⟨Wk.nil rfl rfl, Wk.refl _, Wk.nil rfl rfl, trivial⟩, trivial⟩) (by simp [bor]) (by rfl) ?_
  repeat (first | simp only [go_sem, Nat.reduceLT, Nat.reduceEqDiff, reduceIte, Int.reduceEq, Int.reduceLE, Int.reduceLT, Nat.reduceMul, Nat.reduceAdd, Nat.reduceSub, Int.reduceNeg, Int.reduceAdd, Int.reduceMul, Int.reduceSub, Int.reduceToNat, Nat.reduceLeDiff, Nat.reduceDiv, Int.reduceDiv, reduceCtorEq, Option.some.injEq, exists_eq_left', hs7, List.length_map, z32_map, z32_len, l7, t7, hz7, hC, tC, hl, List.length_cons, List.length_nil, hs7'] | refine AW.seq ?_ | refine AW.block ?_ | refine AW.scope ?_ | refine AW.cond_tt rfl ?_ | refine AW.cond_ff rfl ?_ | refine AW.label ?_ | refine AW.skip ?_ | refine AW.ret ?_ | refine AW.exit ?_ | refine AW.region ?_ | refine AW.draw (by kernel_rfl) (by decide +kernel) ?_ | refine AW.drawN (by kernel_rfl) (by decide +kernel) ?_ | ((with_reducible refine And.intro ?_ ?_); (focus ((repeat' (with_reducible apply And.intro)) <;> first | (with_reducible exact OrdAt.of (by kernel_rfl)) | (with_reducible exact OrdT.of (by kernel_rfl)) | exact True.intro | (with_reducible assumption) | omega | rfl | exact Nat.le_of_ble_eq_true rfl | exact Or.inl trivial | (unfold inI; omega)))))
  have hzz : splice (z32.map u8) 0 (z32.map u8) = z32.map u8 := rfl
  refine CallE.memW c16n (show WkL [nilS] _ from ⟨Wk.nil rfl rfl, trivial⟩) (by simp [bor]) (by rfl) ?_
  repeat (first | simp only [go_sem, Nat.reduceLT, Nat.reduceEqDiff, reduceIte, Int.reduceEq, Int.reduceLE, Int.reduceLT, Nat.reduceMul, Nat.reduceAdd, Nat.reduceSub, Int.reduceNeg, Int.reduceAdd, Int.reduceMul, Int.reduceSub, Int.reduceToNat, Nat.reduceLeDiff, Nat.reduceDiv, Int.reduceDiv, reduceCtorEq, Option.some.injEq, exists_eq_left', hs7, List.length_map, z32_map, z32_len, l7, t7, hz7, hC, tC, hl, List.length_cons, List.length_nil, hs7', hzz] | refine AW.seq ?_ | refine AW.block ?_ | refine AW.scope ?_ | refine AW.cond_tt rfl ?_ | refine AW.cond_ff rfl ?_ | refine AW.label ?_ | refine AW.skip ?_ | refine AW.ret ?_ | refine AW.exit ?_ | refine AW.region ?_ | refine AW.draw (by kernel_rfl) (by decide +kernel) ?_ | refine AW.drawN (by kernel_rfl) (by decide +kernel) ?_ | ((with_reducible refine And.intro ?_ ?_); (focus ((repeat' (with_reducible apply And.intro)) <;> first | (with_reducible exact OrdAt.of (by kernel_rfl)) | (with_reducible exact OrdT.of (by kernel_rfl)) | exact True.intro | (with_reducible assumption) | omega | rfl | exact Nat.le_of_ble_eq_true rfl | exact Or.inl trivial | (unfold inI; omega)))))
  (first | refine CallE.flat (f18 [97] 2 [118] [97] 2 [118]) (by first | rfl | (simp only [List.map_cons, List.map_nil, frz_sl, frz_agg8, frz_agg32, frz_vv, frz_hv]; done) | (simp only [List.map_cons, List.map_nil, frz_sl, frz_agg8, frz_agg32, frz_vv, frz_hv]; rfl)) (by rfl) (by rfl) ?_ | refine CallXE.flat (f18 [97] 2 [118] [97] 2 [118]) (by first | rfl | (simp only [List.map_cons, List.map_nil, frz_sl, frz_agg8, frz_agg32, frz_vv, frz_hv]; done) | (simp only [List.map_cons, List.map_nil, frz_sl, frz_agg8, frz_agg32, frz_vv, frz_hv]; rfl)) (by rfl) (by rfl) ?_)
  have k1 : ([AV.v (.int .u8 ((UInt8.ofNat 4).toNat : Int)), AV.v (.int .u8 ((UInt8.ofNat 0).toNat : Int)), AV.v (.int .u8 ((UInt8.ofNat 1).toNat : Int)), AV.v (.int .u8 ((UInt8.ofNat 97).toNat : Int)), AV.v (.int .u8 ((UInt8.ofNat 0).toNat : Int)), AV.v (.int .u8 ((UInt8.ofNat 0).toNat : Int)), AV.v (.int .u8 ((UInt8.ofNat 0).toNat : Int)), AV.v (.int .u8 ((UInt8.ofNat 0).toNat : Int)), AV.v (.int .u8 ((UInt8.ofNat 0).toNat : Int)), AV.v (.int .u8 ((UInt8.ofNat 0).toNat : Int)), AV.v (.int .u8 ((UInt8.ofNat 0).toNat : Int)), AV.v (.int .u8 ((UInt8.ofNat 2).toNat : Int))] : List AV) = bys [4, 0, 1, 97, 0, 0, 0, 0, 0, 0, 0, 2] := rfl
  have hzF : (C = z32) = False := eq_false hz
  repeat (first | simp only [go_sem, Nat.reduceLT, Nat.reduceEqDiff, reduceIte, Int.reduceEq, Int.reduceLE, Int.reduceLT, Nat.reduceMul, Nat.reduceAdd, Nat.reduceSub, Int.reduceNeg, Int.reduceAdd, Int.reduceMul, Int.reduceSub, Int.reduceToNat, Nat.reduceLeDiff, Nat.reduceDiv, Int.reduceDiv, reduceCtorEq, Option.some.injEq, exists_eq_left', hs7, List.length_map, z32_map, z32_len, l7, t7, hz7, hC, tC, hl, List.length_cons, List.length_nil, hs7', hzz, bytesA_bys, bytesOk_bys, eq_self, and_self, decide_true, exG_tt, k1, hzF, haT, aggEq_u8, intsOk_u8] | refine AW.seq ?_ | refine AW.block ?_ | refine AW.scope ?_ | refine AW.cond_tt rfl ?_ | refine AW.cond_ff rfl ?_ | refine AW.label ?_ | refine AW.skip ?_ | refine AW.ret ?_ | refine AW.exit ?_ | refine AW.region ?_ | refine AW.draw (by kernel_rfl) (by decide +kernel) ?_ | refine AW.drawN (by kernel_rfl) (by decide +kernel) ?_ | ((with_reducible refine And.intro ?_ ?_); (focus ((repeat' (with_reducible apply And.intro)) <;> first | (with_reducible exact OrdAt.of (by kernel_rfl)) | (with_reducible exact OrdT.of (by kernel_rfl)) | exact True.intro | (with_reducible assumption) | omega | rfl | exact Nat.le_of_ble_eq_true rfl | exact Or.inl trivial | (unfold inI; omega)))))
  refine CallE.flat c21 (by simp only [List.map_cons, List.map_nil, frz_agg8]; rfl) (by rfl) (by rfl) ?_
  repeat (first | simp only [go_sem, Nat.reduceLT, Nat.reduceEqDiff, reduceIte, Int.reduceEq, Int.reduceLE, Int.reduceLT, Nat.reduceMul, Nat.reduceAdd, Nat.reduceSub, Int.reduceNeg, Int.reduceAdd, Int.reduceMul, Int.reduceSub, Int.reduceToNat, Nat.reduceLeDiff, Nat.reduceDiv, Int.reduceDiv, reduceCtorEq, Option.some.injEq, exists_eq_left', hs7, List.length_map, z32_map, z32_len, l7, t7, hz7, hC, tC, hl, List.length_cons, List.length_nil, hs7', hzz, eq_self, decide_true, exG_tt, Bool.and_true] | refine AW.seq ?_ | refine AW.block ?_ | refine AW.scope ?_ | refine AW.cond_tt rfl ?_ | refine AW.cond_ff rfl ?_ | refine AW.label ?_ | refine AW.skip ?_ | refine AW.ret ?_ | refine AW.exit ?_ | refine AW.region ?_ | refine AW.draw (by kernel_rfl) (by decide +kernel) ?_ | refine AW.drawN (by kernel_rfl) (by decide +kernel) ?_ | ((with_reducible refine And.intro ?_ ?_); (focus ((repeat' (with_reducible apply And.intro)) <;> first | (with_reducible exact OrdAt.of (by kernel_rfl)) | (with_reducible exact OrdT.of (by kernel_rfl)) | exact True.intro | (with_reducible assumption) | omega | rfl | exact Nat.le_of_ble_eq_true rfl | exact Or.inl trivial | (unfold inI; omega)))))
  refine CallE.flat c21z (by simp only [List.map_cons, List.map_nil, frz_agg8]; rfl) (by rfl) (by rfl) ?_
  repeat (first | simp only [go_sem, Nat.reduceLT, Nat.reduceEqDiff, reduceIte, Int.reduceEq, Int.reduceLE, Int.reduceLT, Nat.reduceMul, Nat.reduceAdd, Nat.reduceSub, Int.reduceNeg, Int.reduceAdd, Int.reduceMul, Int.reduceSub, Int.reduceToNat, Nat.reduceLeDiff, Nat.reduceDiv, Int.reduceDiv, reduceCtorEq, Option.some.injEq, exists_eq_left', hs7, List.length_map, z32_map, z32_len, l7, t7, hz7, hC, tC, hl, List.length_cons, List.length_nil, hs7', hzz, eq_self, decide_true, decide_false, exG_tt] | refine AW.seq ?_ | refine AW.block ?_ | refine AW.scope ?_ | refine AW.cond_tt rfl ?_ | refine AW.cond_ff rfl ?_ | refine AW.label ?_ | refine AW.skip ?_ | refine AW.ret ?_ | refine AW.exit ?_ | refine AW.region ?_ | refine AW.draw (by kernel_rfl) (by decide +kernel) ?_ | refine AW.drawN (by kernel_rfl) (by decide +kernel) ?_ | ((with_reducible refine And.intro ?_ ?_); (focus ((repeat' (with_reducible apply And.intro)) <;> first | (with_reducible exact OrdAt.of (by kernel_rfl)) | (with_reducible exact OrdT.of (by kernel_rfl)) | exact True.intro | (with_reducible assumption) | omega | rfl | exact Nat.le_of_ble_eq_true rfl | exact Or.inl trivial | (unfold inI; omega)))))
  exact Wk.refl _
end Go.Proofs.YtaghnjehlpbdkaaDoor
