/- What the five laws of octet compute; no condition. -/
import Derived.Test.YtapjkdmdckfjbaaWalkB
set_option linter.unusedVariables false
set_option linter.unusedSimpArgs false
namespace Go.Proofs.Ytapjkdmdckfjbaa
open Go Go.Eng Go.Proofs
set_option maxRecDepth 100000
set_option linter.unusedSimpArgs false
set_option linter.unusedVariables false
open Lib in
theorem cmp_anti : ∀ (a b : List UInt8), compareBytes b a = - compareBytes a b
  | [], [] => rfl
  | [], _ :: _ => rfl
  | _ :: _, [] => rfl
  | x :: a, y :: b => by
    simp only [compareBytes]
    by_cases h : x < y
    · have h2 : ¬ y < x := UInt8.lt_asymm h
      simp [h, h2]
    · by_cases h2 : y < x
      · simp [h, h2]
      · simp only [h, h2, if_false]; exact cmp_anti a b
open Lib in
theorem cmp_abs : ∀ (a b : List UInt8), compareBytes a b = -1 ∨ compareBytes a b = 0 ∨ compareBytes a b = 1
  | [], [] => by simp [compareBytes]
  | [], _ :: _ => by simp [compareBytes]
  | _ :: _, [] => by simp [compareBytes]
  | x :: a, y :: b => by
    simp only [compareBytes]
    split
    · simp
    · split
      · simp
      · exact cmp_abs a b
open Lib in
theorem cmp_zero : ∀ (a b : List UInt8), compareBytes a b = 0 ↔ a = b
  | [], [] => by simp [compareBytes]
  | [], _ :: _ => by simp [compareBytes]
  | _ :: _, [] => by simp [compareBytes]
  | x :: a, y :: b => by
    simp only [compareBytes]
    by_cases h : x < y
    · have : x ≠ y := by rintro rfl; exact UInt8.lt_irrefl _ h
      simp [h, this]
    · by_cases h2 : y < x
      · have : x ≠ y := by rintro rfl; exact UInt8.lt_irrefl _ h2
        simp [h, h2, this]
      · have : x = y := UInt8.le_antisymm (UInt8.not_lt.1 h2) (UInt8.not_lt.1 h)
        subst this
        simp only [h, if_false, List.cons.injEq, true_and]
        exact cmp_zero a b
open Lib in
theorem cmp_trans : ∀ (a b c : List UInt8), compareBytes a b ≤ 0 → compareBytes b c ≤ 0 → compareBytes a c ≤ 0
  | [], _, [], _, _ => by simp [compareBytes]
  | [], _, _ :: _, _, _ => by simp [compareBytes]
  | _ :: _, [], _, h, _ => by simp [compareBytes] at h
  | _ :: _, _ :: _, [], _, h => by simp [compareBytes] at h
  | x :: a, y :: b, z :: c, h, h' => by
    simp only [compareBytes] at h h' ⊢
    by_cases h1 : x < y
    · by_cases h2 : y < z
      · simp [UInt8.lt_trans h1 h2]
      · by_cases h3 : z < y
        · simp [h2, h3] at h'
        · have : y = z := UInt8.le_antisymm (UInt8.not_lt.1 h3) (UInt8.not_lt.1 h2)
          subst this; simp [h1]
    · by_cases h2 : y < x
      · simp [h1, h2] at h
      · have : x = y := UInt8.le_antisymm (UInt8.not_lt.1 h2) (UInt8.not_lt.1 h1)
        subst this
        by_cases h3 : x < z
        · simp [h3]
        · by_cases h4 : z < x
          · simp [h3, h4] at h'
          · simp only [h3, h4, h1, if_false] at h h' ⊢
            exact cmp_trans a b c h h'
open Lib in
theorem cmp_zeros : ∀ (a : List UInt8), 0 ≤ compareBytes a (List.replicate a.length 0)
  | [] => by simp [compareBytes]
  | x :: a => by
    simp only [List.length_cons, List.replicate_succ, compareBytes]
    have : ¬ x < 0 := by simp
    simp only [this, if_false]
    split
    · decide
    · exact cmp_zeros a
theorem frz_zrow (hp : List (Nat × Ob)) (n : Nat) (x : UInt8) : frz hp (.agg (List.replicate n (u8 x))) = .agg ((List.replicate n x).map u8) := by
  rw [zrow_u8, frz_agg8]
theorem f7 (a b c : List UInt8) (ha : a.length = 32) (hb : b.length = 32) (hc : c.length = 32) : AFun Try.prog 7 [.agg (a.map u8), .agg (b.map u8), .agg (c.map u8)] (boo true) := by
  have z1 : (Lib.compareBytes a b = 0) = (a = b) := propext (cmp_zero a b)
  have z2 : 0 ≤ Lib.compareBytes a (List.replicate 32 0) := by have := cmp_zeros a; rwa [ha] at this
  have z3 : Lib.compareBytes a (turnS a 0) + Lib.compareBytes (turnS a 0) a = 0 := by rw [cmp_anti a (turnS a 0)]; omega
  have hT : (turnS a 0).length = 32 := by rw [turnS_length, ha]
  have h0 : inI 0 := by unfold inI; omega
  have z4 := cmp_abs a (turnS a 0)
  have z5 := cmp_abs (turnS a 0) a
  have hm : ∀ h : Lib.compareBytes a b ≤ 0, Lib.compareBytes b c ≤ 0 → Lib.compareBytes a c ≤ 0 := fun h h' => cmp_trans a b c h h'
  refine AFun.enterW Try.func7 rfl Try.call7 (by simp [Try.ntmps7]) fun γ1 => ?_
  simp only [frameOf, Try.ntmps7]
  repeat (first | simp only [go_sem, Nat.reduceLT, Nat.reduceEqDiff, reduceIte, Int.reduceEq, Int.reduceLE, Int.reduceLT, Nat.reduceMul, Nat.reduceAdd, Nat.reduceSub, Int.reduceNeg, Int.reduceAdd, Int.reduceMul, Int.reduceSub, Int.reduceToNat, Nat.reduceLeDiff, Nat.reduceDiv, Int.reduceDiv, reduceCtorEq] | refine AW.seq ?_ | refine AW.block ?_ | refine AW.scope ?_ | refine AW.cond_tt rfl ?_ | refine AW.cond_ff rfl ?_ | refine AW.label ?_ | refine AW.skip ?_ | refine AW.ret ?_ | refine AW.exit ?_ | refine AW.region ?_ | refine AW.draw (by kernel_rfl) (by kernel_rfl) ?_ | ((with_reducible refine And.intro ?_ ?_); (focus ((repeat' (with_reducible apply And.intro)) <;> first | trivial | omega | rfl | (unfold inI; omega)))))
  refine CallE.flat f8 rfl rfl (by rfl) ?_
  repeat (first | simp only [go_sem, Nat.reduceLT, Nat.reduceEqDiff, reduceIte, Int.reduceEq, Int.reduceLE, Int.reduceLT, Nat.reduceMul, Nat.reduceAdd, Nat.reduceSub, Int.reduceNeg, Int.reduceAdd, Int.reduceMul, Int.reduceSub, Int.reduceToNat, Nat.reduceLeDiff, Nat.reduceDiv, Int.reduceDiv, reduceCtorEq, List.length_map, List.length_set, List.length_replicate, List.length_drop, List.length_take, List.length_append, List.drop_zero, List.take_of_length_le, Nat.le_refl, Nat.sub_zero, splice_all, row_u8, splice_u8, wrap_u64c, ha, hb, hc] | refine AW.seq ?_ | refine AW.block ?_ | refine AW.scope ?_ | refine AW.cond_tt rfl ?_ | refine AW.cond_ff rfl ?_ | refine AW.label ?_ | refine AW.skip ?_ | refine AW.ret ?_ | refine AW.exit ?_ | refine AW.region ?_ | refine AW.draw (by kernel_rfl) (by kernel_rfl) ?_ | ((with_reducible refine And.intro ?_ ?_); (focus ((repeat' (with_reducible apply And.intro)) <;> first | trivial | omega | rfl | (unfold inI; omega)))))
  refine CallE.flat (f22 a b ha hb) (by simp only [List.map_cons, List.map_nil, frz_sl, frz_agg8, frz_vv]) rfl (by rfl) ?_
  repeat (first | simp only [go_sem, Nat.reduceLT, Nat.reduceEqDiff, reduceIte, Int.reduceEq, Int.reduceLE, Int.reduceLT, Nat.reduceMul, Nat.reduceAdd, Nat.reduceSub, Int.reduceNeg, Int.reduceAdd, Int.reduceMul, Int.reduceSub, Int.reduceToNat, Nat.reduceLeDiff, Nat.reduceDiv, Int.reduceDiv, reduceCtorEq, List.length_map, List.length_set, List.length_replicate, List.length_drop, List.length_take, List.length_append, List.drop_zero, List.take_of_length_le, Nat.le_refl, Nat.sub_zero, splice_all, row_u8, splice_u8, wrap_u64c, ha, hb, hc] | refine AW.seq ?_ | refine AW.block ?_ | refine AW.scope ?_ | refine AW.cond_tt rfl ?_ | refine AW.cond_ff rfl ?_ | refine AW.label ?_ | refine AW.skip ?_ | refine AW.ret ?_ | refine AW.exit ?_ | refine AW.region ?_ | refine AW.draw (by kernel_rfl) (by kernel_rfl) ?_ | ((with_reducible refine And.intro ?_ ?_); (focus ((repeat' (with_reducible apply And.intro)) <;> first | trivial | omega | rfl | (unfold inI; omega)))))
  refine exG_decf (fun h1 => ?_) (fun h1 => ?_)
  · repeat (first | simp only [go_sem, Nat.reduceLT, Nat.reduceEqDiff, reduceIte, Int.reduceEq, Int.reduceLE, Int.reduceLT, Nat.reduceMul, Nat.reduceAdd, Nat.reduceSub, Int.reduceNeg, Int.reduceAdd, Int.reduceMul, Int.reduceSub, Int.reduceToNat, Nat.reduceLeDiff, Nat.reduceDiv, Int.reduceDiv, reduceCtorEq, List.length_map, List.length_set, List.length_replicate, List.length_drop, List.length_take, List.length_append, List.drop_zero, List.take_of_length_le, Nat.le_refl, Nat.sub_zero, splice_all, row_u8, splice_u8, wrap_u64c, ha, hb, hc] | refine AW.seq ?_ | refine AW.block ?_ | refine AW.scope ?_ | refine AW.cond_tt rfl ?_ | refine AW.cond_ff rfl ?_ | refine AW.label ?_ | refine AW.skip ?_ | refine AW.ret ?_ | refine AW.exit ?_ | refine AW.region ?_ | refine AW.draw (by kernel_rfl) (by kernel_rfl) ?_ | ((with_reducible refine And.intro ?_ ?_); (focus ((repeat' (with_reducible apply And.intro)) <;> first | trivial | omega | rfl | (unfold inI; omega)))))
    refine CallE.flat (f22 b c hb hc) (by simp only [List.map_cons, List.map_nil, frz_sl, frz_agg8, frz_vv]) rfl (by rfl) ?_
    repeat (first | simp only [go_sem, Nat.reduceLT, Nat.reduceEqDiff, reduceIte, Int.reduceEq, Int.reduceLE, Int.reduceLT, Nat.reduceMul, Nat.reduceAdd, Nat.reduceSub, Int.reduceNeg, Int.reduceAdd, Int.reduceMul, Int.reduceSub, Int.reduceToNat, Nat.reduceLeDiff, Nat.reduceDiv, Int.reduceDiv, reduceCtorEq, List.length_map, List.length_set, List.length_replicate, List.length_drop, List.length_take, List.length_append, List.drop_zero, List.take_of_length_le, Nat.le_refl, Nat.sub_zero, splice_all, row_u8, splice_u8, wrap_u64c, ha, hb, hc] | refine AW.seq ?_ | refine AW.block ?_ | refine AW.scope ?_ | refine AW.cond_tt rfl ?_ | refine AW.cond_ff rfl ?_ | refine AW.label ?_ | refine AW.skip ?_ | refine AW.ret ?_ | refine AW.exit ?_ | refine AW.region ?_ | refine AW.draw (by kernel_rfl) (by kernel_rfl) ?_ | ((with_reducible refine And.intro ?_ ?_); (focus ((repeat' (with_reducible apply And.intro)) <;> first | trivial | omega | rfl | (unfold inI; omega)))))
    refine exG_decf (fun h2 => ?_) (fun h2 => ?_)
    · repeat (first | simp only [go_sem, Nat.reduceLT, Nat.reduceEqDiff, reduceIte, Int.reduceEq, Int.reduceLE, Int.reduceLT, Nat.reduceMul, Nat.reduceAdd, Nat.reduceSub, Int.reduceNeg, Int.reduceAdd, Int.reduceMul, Int.reduceSub, Int.reduceToNat, Nat.reduceLeDiff, Nat.reduceDiv, Int.reduceDiv, reduceCtorEq, List.length_map, List.length_set, List.length_replicate, List.length_drop, List.length_take, List.length_append, List.drop_zero, List.take_of_length_le, Nat.le_refl, Nat.sub_zero, splice_all, row_u8, splice_u8, wrap_u64c, ha, hb, hc] | refine AW.seq ?_ | refine AW.block ?_ | refine AW.scope ?_ | refine AW.cond_tt rfl ?_ | refine AW.cond_ff rfl ?_ | refine AW.label ?_ | refine AW.skip ?_ | refine AW.ret ?_ | refine AW.exit ?_ | refine AW.region ?_ | refine AW.draw (by kernel_rfl) (by kernel_rfl) ?_ | ((with_reducible refine And.intro ?_ ?_); (focus ((repeat' (with_reducible apply And.intro)) <;> first | trivial | omega | rfl | (unfold inI; omega)))))
      refine CallE.flat (f22 a c ha hc) (by simp only [List.map_cons, List.map_nil, frz_sl, frz_agg8, frz_vv]) rfl (by rfl) ?_
      have h3 : Lib.compareBytes a c ≤ 0 := hm (by omega) (by omega)
      repeat (first | simp only [go_sem, Nat.reduceLT, Nat.reduceEqDiff, reduceIte, Int.reduceEq, Int.reduceLE, Int.reduceLT, Nat.reduceMul, Nat.reduceAdd, Nat.reduceSub, Int.reduceNeg, Int.reduceAdd, Int.reduceMul, Int.reduceSub, Int.reduceToNat, Nat.reduceLeDiff, Nat.reduceDiv, Int.reduceDiv, reduceCtorEq, List.length_map, List.length_set, List.length_replicate, List.length_drop, List.length_take, List.length_append, List.drop_zero, List.take_of_length_le, Nat.le_refl, Nat.sub_zero, splice_all, row_u8, splice_u8, wrap_u64c, ha, hb, hc, h3] | refine AW.seq ?_ | refine AW.block ?_ | refine AW.scope ?_ | refine AW.cond_tt rfl ?_ | refine AW.cond_ff rfl ?_ | refine AW.label ?_ | refine AW.skip ?_ | refine AW.ret ?_ | refine AW.exit ?_ | refine AW.region ?_ | refine AW.draw (by kernel_rfl) (by kernel_rfl) ?_ | ((with_reducible refine And.intro ?_ ?_); (focus ((repeat' (with_reducible apply And.intro)) <;> first | trivial | omega | rfl | (unfold inI; omega)))))
      refine CallXE.flat (f22 a b ha hb) (by simp only [List.map_cons, List.map_nil, frz_sl, frz_agg8, frz_vv]) rfl (by rfl) ?_
      repeat (first | simp only [go_sem, Nat.reduceLT, Nat.reduceEqDiff, reduceIte, Int.reduceEq, Int.reduceLE, Int.reduceLT, Nat.reduceMul, Nat.reduceAdd, Nat.reduceSub, Int.reduceNeg, Int.reduceAdd, Int.reduceMul, Int.reduceSub, Int.reduceToNat, Nat.reduceLeDiff, Nat.reduceDiv, Int.reduceDiv, reduceCtorEq, List.length_map, List.length_set, List.length_replicate, List.length_drop, List.length_take, List.length_append, List.drop_zero, List.take_of_length_le, Nat.le_refl, Nat.sub_zero, splice_all, row_u8, splice_u8, wrap_u64c, ha, hb, hc, hT, z1, z2, z3, beq_self_eq_true] | refine AW.seq ?_ | refine AW.block ?_ | refine AW.scope ?_ | refine AW.cond_tt rfl ?_ | refine AW.cond_ff rfl ?_ | refine AW.label ?_ | refine AW.skip ?_ | refine AW.ret ?_ | refine AW.exit ?_ | refine AW.region ?_ | refine AW.draw (by kernel_rfl) (by kernel_rfl) ?_ | ((with_reducible refine And.intro ?_ ?_); (focus ((repeat' (with_reducible apply And.intro)) <;> first | trivial | omega | rfl | (unfold inI; omega)))))
      refine CallXE.flat (f22 a (List.replicate 32 0) ha (by decide)) (by simp only [List.map_cons, List.map_nil, frz_agg8, frz_zrow]) rfl (by rfl) ?_
      repeat (first | simp only [go_sem, Nat.reduceLT, Nat.reduceEqDiff, reduceIte, Int.reduceEq, Int.reduceLE, Int.reduceLT, Nat.reduceMul, Nat.reduceAdd, Nat.reduceSub, Int.reduceNeg, Int.reduceAdd, Int.reduceMul, Int.reduceSub, Int.reduceToNat, Nat.reduceLeDiff, Nat.reduceDiv, Int.reduceDiv, reduceCtorEq, List.length_map, List.length_set, List.length_replicate, List.length_drop, List.length_take, List.length_append, List.drop_zero, List.take_of_length_le, Nat.le_refl, Nat.sub_zero, splice_all, row_u8, splice_u8, wrap_u64c, ha, hb, hc, hT, z1, z2, z3, beq_self_eq_true] | refine AW.seq ?_ | refine AW.block ?_ | refine AW.scope ?_ | refine AW.cond_tt rfl ?_ | refine AW.cond_ff rfl ?_ | refine AW.label ?_ | refine AW.skip ?_ | refine AW.ret ?_ | refine AW.exit ?_ | refine AW.region ?_ | refine AW.draw (by kernel_rfl) (by kernel_rfl) ?_ | ((with_reducible refine And.intro ?_ ?_); (focus ((repeat' (with_reducible apply And.intro)) <;> first | trivial | omega | rfl | (unfold inI; omega)))))
      refine CallXE.flat (f20 a ha 0 h0) (by simp only [List.map_cons, List.map_nil, frz_sl, frz_agg8, frz_vv]) (flat_agg8 _) (by rfl) ?_
      repeat (first | simp only [go_sem, Nat.reduceLT, Nat.reduceEqDiff, reduceIte, Int.reduceEq, Int.reduceLE, Int.reduceLT, Nat.reduceMul, Nat.reduceAdd, Nat.reduceSub, Int.reduceNeg, Int.reduceAdd, Int.reduceMul, Int.reduceSub, Int.reduceToNat, Nat.reduceLeDiff, Nat.reduceDiv, Int.reduceDiv, reduceCtorEq, List.length_map, List.length_set, List.length_replicate, List.length_drop, List.length_take, List.length_append, List.drop_zero, List.take_of_length_le, Nat.le_refl, Nat.sub_zero, splice_all, row_u8, splice_u8, wrap_u64c, ha, hb, hc, hT, z1, z2, z3, beq_self_eq_true] | refine AW.seq ?_ | refine AW.block ?_ | refine AW.scope ?_ | refine AW.cond_tt rfl ?_ | refine AW.cond_ff rfl ?_ | refine AW.label ?_ | refine AW.skip ?_ | refine AW.ret ?_ | refine AW.exit ?_ | refine AW.region ?_ | refine AW.draw (by kernel_rfl) (by kernel_rfl) ?_ | ((with_reducible refine And.intro ?_ ?_); (focus ((repeat' (with_reducible apply And.intro)) <;> first | trivial | omega | rfl | (unfold inI; omega)))))
      refine CallXE.flat (f22 a (turnS a 0) ha hT) (by simp only [List.map_cons, List.map_nil, frz_sl, frz_agg8, frz_vv]) rfl (by rfl) ?_
      repeat (first | simp only [go_sem, Nat.reduceLT, Nat.reduceEqDiff, reduceIte, Int.reduceEq, Int.reduceLE, Int.reduceLT, Nat.reduceMul, Nat.reduceAdd, Nat.reduceSub, Int.reduceNeg, Int.reduceAdd, Int.reduceMul, Int.reduceSub, Int.reduceToNat, Nat.reduceLeDiff, Nat.reduceDiv, Int.reduceDiv, reduceCtorEq, List.length_map, List.length_set, List.length_replicate, List.length_drop, List.length_take, List.length_append, List.drop_zero, List.take_of_length_le, Nat.le_refl, Nat.sub_zero, splice_all, row_u8, splice_u8, wrap_u64c, ha, hb, hc, hT, z1, z2, z3, beq_self_eq_true] | refine AW.seq ?_ | refine AW.block ?_ | refine AW.scope ?_ | refine AW.cond_tt rfl ?_ | refine AW.cond_ff rfl ?_ | refine AW.label ?_ | refine AW.skip ?_ | refine AW.ret ?_ | refine AW.exit ?_ | refine AW.region ?_ | refine AW.draw (by kernel_rfl) (by kernel_rfl) ?_ | ((with_reducible refine And.intro ?_ ?_); (focus ((repeat' (with_reducible apply And.intro)) <;> first | trivial | omega | rfl | (unfold inI; omega)))))
      refine CallXE.flat (f20 a ha 0 h0) (by simp only [List.map_cons, List.map_nil, frz_sl, frz_agg8, frz_vv]) (flat_agg8 _) (by rfl) ?_
      repeat (first | simp only [go_sem, Nat.reduceLT, Nat.reduceEqDiff, reduceIte, Int.reduceEq, Int.reduceLE, Int.reduceLT, Nat.reduceMul, Nat.reduceAdd, Nat.reduceSub, Int.reduceNeg, Int.reduceAdd, Int.reduceMul, Int.reduceSub, Int.reduceToNat, Nat.reduceLeDiff, Nat.reduceDiv, Int.reduceDiv, reduceCtorEq, List.length_map, List.length_set, List.length_replicate, List.length_drop, List.length_take, List.length_append, List.drop_zero, List.take_of_length_le, Nat.le_refl, Nat.sub_zero, splice_all, row_u8, splice_u8, wrap_u64c, ha, hb, hc, hT, z1, z2, z3, beq_self_eq_true] | refine AW.seq ?_ | refine AW.block ?_ | refine AW.scope ?_ | refine AW.cond_tt rfl ?_ | refine AW.cond_ff rfl ?_ | refine AW.label ?_ | refine AW.skip ?_ | refine AW.ret ?_ | refine AW.exit ?_ | refine AW.region ?_ | refine AW.draw (by kernel_rfl) (by kernel_rfl) ?_ | ((with_reducible refine And.intro ?_ ?_); (focus ((repeat' (with_reducible apply And.intro)) <;> first | trivial | omega | rfl | (unfold inI; omega)))))
      refine CallXE.flat (f22 (turnS a 0) a hT ha) (by simp only [List.map_cons, List.map_nil, frz_sl, frz_agg8, frz_vv]) rfl (by rfl) ?_
      repeat (first | simp only [go_sem, Nat.reduceLT, Nat.reduceEqDiff, reduceIte, Int.reduceEq, Int.reduceLE, Int.reduceLT, Nat.reduceMul, Nat.reduceAdd, Nat.reduceSub, Int.reduceNeg, Int.reduceAdd, Int.reduceMul, Int.reduceSub, Int.reduceToNat, Nat.reduceLeDiff, Nat.reduceDiv, Int.reduceDiv, reduceCtorEq, List.length_map, List.length_set, List.length_replicate, List.length_drop, List.length_take, List.length_append, List.drop_zero, List.take_of_length_le, Nat.le_refl, Nat.sub_zero, splice_all, row_u8, splice_u8, wrap_u64c, ha, hb, hc, hT, z1, z2, z3, beq_self_eq_true] | refine AW.seq ?_ | refine AW.block ?_ | refine AW.scope ?_ | refine AW.cond_tt rfl ?_ | refine AW.cond_ff rfl ?_ | refine AW.label ?_ | refine AW.skip ?_ | refine AW.ret ?_ | refine AW.exit ?_ | refine AW.region ?_ | refine AW.draw (by kernel_rfl) (by kernel_rfl) ?_ | ((with_reducible refine And.intro ?_ ?_); (focus ((repeat' (with_reducible apply And.intro)) <;> first | trivial | omega | rfl | (unfold inI; omega)))))
      exact Wk.refl _
    · repeat (first | simp only [go_sem, Nat.reduceLT, Nat.reduceEqDiff, reduceIte, Int.reduceEq, Int.reduceLE, Int.reduceLT, Nat.reduceMul, Nat.reduceAdd, Nat.reduceSub, Int.reduceNeg, Int.reduceAdd, Int.reduceMul, Int.reduceSub, Int.reduceToNat, Nat.reduceLeDiff, Nat.reduceDiv, Int.reduceDiv, reduceCtorEq, List.length_map, List.length_set, List.length_replicate, List.length_drop, List.length_take, List.length_append, List.drop_zero, List.take_of_length_le, Nat.le_refl, Nat.sub_zero, splice_all, row_u8, splice_u8, wrap_u64c, ha, hb, hc] | refine AW.seq ?_ | refine AW.block ?_ | refine AW.scope ?_ | refine AW.cond_tt rfl ?_ | refine AW.cond_ff rfl ?_ | refine AW.label ?_ | refine AW.skip ?_ | refine AW.ret ?_ | refine AW.exit ?_ | refine AW.region ?_ | refine AW.draw (by kernel_rfl) (by kernel_rfl) ?_ | ((with_reducible refine And.intro ?_ ?_); (focus ((repeat' (with_reducible apply And.intro)) <;> first | trivial | omega | rfl | (unfold inI; omega)))))
      refine CallXE.flat (f22 a b ha hb) (by simp only [List.map_cons, List.map_nil, frz_sl, frz_agg8, frz_vv]) rfl (by rfl) ?_
      repeat (first | simp only [go_sem, Nat.reduceLT, Nat.reduceEqDiff, reduceIte, Int.reduceEq, Int.reduceLE, Int.reduceLT, Nat.reduceMul, Nat.reduceAdd, Nat.reduceSub, Int.reduceNeg, Int.reduceAdd, Int.reduceMul, Int.reduceSub, Int.reduceToNat, Nat.reduceLeDiff, Nat.reduceDiv, Int.reduceDiv, reduceCtorEq, List.length_map, List.length_set, List.length_replicate, List.length_drop, List.length_take, List.length_append, List.drop_zero, List.take_of_length_le, Nat.le_refl, Nat.sub_zero, splice_all, row_u8, splice_u8, wrap_u64c, ha, hb, hc, hT, z1, z2, z3, beq_self_eq_true] | refine AW.seq ?_ | refine AW.block ?_ | refine AW.scope ?_ | refine AW.cond_tt rfl ?_ | refine AW.cond_ff rfl ?_ | refine AW.label ?_ | refine AW.skip ?_ | refine AW.ret ?_ | refine AW.exit ?_ | refine AW.region ?_ | refine AW.draw (by kernel_rfl) (by kernel_rfl) ?_ | ((with_reducible refine And.intro ?_ ?_); (focus ((repeat' (with_reducible apply And.intro)) <;> first | trivial | omega | rfl | (unfold inI; omega)))))
      refine CallXE.flat (f22 a (List.replicate 32 0) ha (by decide)) (by simp only [List.map_cons, List.map_nil, frz_agg8, frz_zrow]) rfl (by rfl) ?_
      repeat (first | simp only [go_sem, Nat.reduceLT, Nat.reduceEqDiff, reduceIte, Int.reduceEq, Int.reduceLE, Int.reduceLT, Nat.reduceMul, Nat.reduceAdd, Nat.reduceSub, Int.reduceNeg, Int.reduceAdd, Int.reduceMul, Int.reduceSub, Int.reduceToNat, Nat.reduceLeDiff, Nat.reduceDiv, Int.reduceDiv, reduceCtorEq, List.length_map, List.length_set, List.length_replicate, List.length_drop, List.length_take, List.length_append, List.drop_zero, List.take_of_length_le, Nat.le_refl, Nat.sub_zero, splice_all, row_u8, splice_u8, wrap_u64c, ha, hb, hc, hT, z1, z2, z3, beq_self_eq_true] | refine AW.seq ?_ | refine AW.block ?_ | refine AW.scope ?_ | refine AW.cond_tt rfl ?_ | refine AW.cond_ff rfl ?_ | refine AW.label ?_ | refine AW.skip ?_ | refine AW.ret ?_ | refine AW.exit ?_ | refine AW.region ?_ | refine AW.draw (by kernel_rfl) (by kernel_rfl) ?_ | ((with_reducible refine And.intro ?_ ?_); (focus ((repeat' (with_reducible apply And.intro)) <;> first | trivial | omega | rfl | (unfold inI; omega)))))
      refine CallXE.flat (f20 a ha 0 h0) (by simp only [List.map_cons, List.map_nil, frz_sl, frz_agg8, frz_vv]) (flat_agg8 _) (by rfl) ?_
      repeat (first | simp only [go_sem, Nat.reduceLT, Nat.reduceEqDiff, reduceIte, Int.reduceEq, Int.reduceLE, Int.reduceLT, Nat.reduceMul, Nat.reduceAdd, Nat.reduceSub, Int.reduceNeg, Int.reduceAdd, Int.reduceMul, Int.reduceSub, Int.reduceToNat, Nat.reduceLeDiff, Nat.reduceDiv, Int.reduceDiv, reduceCtorEq, List.length_map, List.length_set, List.length_replicate, List.length_drop, List.length_take, List.length_append, List.drop_zero, List.take_of_length_le, Nat.le_refl, Nat.sub_zero, splice_all, row_u8, splice_u8, wrap_u64c, ha, hb, hc, hT, z1, z2, z3, beq_self_eq_true] | refine AW.seq ?_ | refine AW.block ?_ | refine AW.scope ?_ | refine AW.cond_tt rfl ?_ | refine AW.cond_ff rfl ?_ | refine AW.label ?_ | refine AW.skip ?_ | refine AW.ret ?_ | refine AW.exit ?_ | refine AW.region ?_ | refine AW.draw (by kernel_rfl) (by kernel_rfl) ?_ | ((with_reducible refine And.intro ?_ ?_); (focus ((repeat' (with_reducible apply And.intro)) <;> first | trivial | omega | rfl | (unfold inI; omega)))))
      refine CallXE.flat (f22 a (turnS a 0) ha hT) (by simp only [List.map_cons, List.map_nil, frz_sl, frz_agg8, frz_vv]) rfl (by rfl) ?_
      repeat (first | simp only [go_sem, Nat.reduceLT, Nat.reduceEqDiff, reduceIte, Int.reduceEq, Int.reduceLE, Int.reduceLT, Nat.reduceMul, Nat.reduceAdd, Nat.reduceSub, Int.reduceNeg, Int.reduceAdd, Int.reduceMul, Int.reduceSub, Int.reduceToNat, Nat.reduceLeDiff, Nat.reduceDiv, Int.reduceDiv, reduceCtorEq, List.length_map, List.length_set, List.length_replicate, List.length_drop, List.length_take, List.length_append, List.drop_zero, List.take_of_length_le, Nat.le_refl, Nat.sub_zero, splice_all, row_u8, splice_u8, wrap_u64c, ha, hb, hc, hT, z1, z2, z3, beq_self_eq_true] | refine AW.seq ?_ | refine AW.block ?_ | refine AW.scope ?_ | refine AW.cond_tt rfl ?_ | refine AW.cond_ff rfl ?_ | refine AW.label ?_ | refine AW.skip ?_ | refine AW.ret ?_ | refine AW.exit ?_ | refine AW.region ?_ | refine AW.draw (by kernel_rfl) (by kernel_rfl) ?_ | ((with_reducible refine And.intro ?_ ?_); (focus ((repeat' (with_reducible apply And.intro)) <;> first | trivial | omega | rfl | (unfold inI; omega)))))
      refine CallXE.flat (f20 a ha 0 h0) (by simp only [List.map_cons, List.map_nil, frz_sl, frz_agg8, frz_vv]) (flat_agg8 _) (by rfl) ?_
      repeat (first | simp only [go_sem, Nat.reduceLT, Nat.reduceEqDiff, reduceIte, Int.reduceEq, Int.reduceLE, Int.reduceLT, Nat.reduceMul, Nat.reduceAdd, Nat.reduceSub, Int.reduceNeg, Int.reduceAdd, Int.reduceMul, Int.reduceSub, Int.reduceToNat, Nat.reduceLeDiff, Nat.reduceDiv, Int.reduceDiv, reduceCtorEq, List.length_map, List.length_set, List.length_replicate, List.length_drop, List.length_take, List.length_append, List.drop_zero, List.take_of_length_le, Nat.le_refl, Nat.sub_zero, splice_all, row_u8, splice_u8, wrap_u64c, ha, hb, hc, hT, z1, z2, z3, beq_self_eq_true] | refine AW.seq ?_ | refine AW.block ?_ | refine AW.scope ?_ | refine AW.cond_tt rfl ?_ | refine AW.cond_ff rfl ?_ | refine AW.label ?_ | refine AW.skip ?_ | refine AW.ret ?_ | refine AW.exit ?_ | refine AW.region ?_ | refine AW.draw (by kernel_rfl) (by kernel_rfl) ?_ | ((with_reducible refine And.intro ?_ ?_); (focus ((repeat' (with_reducible apply And.intro)) <;> first | trivial | omega | rfl | (unfold inI; omega)))))
      refine CallXE.flat (f22 (turnS a 0) a hT ha) (by simp only [List.map_cons, List.map_nil, frz_sl, frz_agg8, frz_vv]) rfl (by rfl) ?_
      repeat (first | simp only [go_sem, Nat.reduceLT, Nat.reduceEqDiff, reduceIte, Int.reduceEq, Int.reduceLE, Int.reduceLT, Nat.reduceMul, Nat.reduceAdd, Nat.reduceSub, Int.reduceNeg, Int.reduceAdd, Int.reduceMul, Int.reduceSub, Int.reduceToNat, Nat.reduceLeDiff, Nat.reduceDiv, Int.reduceDiv, reduceCtorEq, List.length_map, List.length_set, List.length_replicate, List.length_drop, List.length_take, List.length_append, List.drop_zero, List.take_of_length_le, Nat.le_refl, Nat.sub_zero, splice_all, row_u8, splice_u8, wrap_u64c, ha, hb, hc, hT, z1, z2, z3, beq_self_eq_true] | refine AW.seq ?_ | refine AW.block ?_ | refine AW.scope ?_ | refine AW.cond_tt rfl ?_ | refine AW.cond_ff rfl ?_ | refine AW.label ?_ | refine AW.skip ?_ | refine AW.ret ?_ | refine AW.exit ?_ | refine AW.region ?_ | refine AW.draw (by kernel_rfl) (by kernel_rfl) ?_ | ((with_reducible refine And.intro ?_ ?_); (focus ((repeat' (with_reducible apply And.intro)) <;> first | trivial | omega | rfl | (unfold inI; omega)))))
      exact Wk.refl _
  · repeat (first | simp only [go_sem, Nat.reduceLT, Nat.reduceEqDiff, reduceIte, Int.reduceEq, Int.reduceLE, Int.reduceLT, Nat.reduceMul, Nat.reduceAdd, Nat.reduceSub, Int.reduceNeg, Int.reduceAdd, Int.reduceMul, Int.reduceSub, Int.reduceToNat, Nat.reduceLeDiff, Nat.reduceDiv, Int.reduceDiv, reduceCtorEq, List.length_map, List.length_set, List.length_replicate, List.length_drop, List.length_take, List.length_append, List.drop_zero, List.take_of_length_le, Nat.le_refl, Nat.sub_zero, splice_all, row_u8, splice_u8, wrap_u64c, ha, hb, hc] | refine AW.seq ?_ | refine AW.block ?_ | refine AW.scope ?_ | refine AW.cond_tt rfl ?_ | refine AW.cond_ff rfl ?_ | refine AW.label ?_ | refine AW.skip ?_ | refine AW.ret ?_ | refine AW.exit ?_ | refine AW.region ?_ | refine AW.draw (by kernel_rfl) (by kernel_rfl) ?_ | ((with_reducible refine And.intro ?_ ?_); (focus ((repeat' (with_reducible apply And.intro)) <;> first | trivial | omega | rfl | (unfold inI; omega)))))
    refine CallXE.flat (f22 a b ha hb) (by simp only [List.map_cons, List.map_nil, frz_sl, frz_agg8, frz_vv]) rfl (by rfl) ?_
    repeat (first | simp only [go_sem, Nat.reduceLT, Nat.reduceEqDiff, reduceIte, Int.reduceEq, Int.reduceLE, Int.reduceLT, Nat.reduceMul, Nat.reduceAdd, Nat.reduceSub, Int.reduceNeg, Int.reduceAdd, Int.reduceMul, Int.reduceSub, Int.reduceToNat, Nat.reduceLeDiff, Nat.reduceDiv, Int.reduceDiv, reduceCtorEq, List.length_map, List.length_set, List.length_replicate, List.length_drop, List.length_take, List.length_append, List.drop_zero, List.take_of_length_le, Nat.le_refl, Nat.sub_zero, splice_all, row_u8, splice_u8, wrap_u64c, ha, hb, hc, hT, z1, z2, z3, beq_self_eq_true] | refine AW.seq ?_ | refine AW.block ?_ | refine AW.scope ?_ | refine AW.cond_tt rfl ?_ | refine AW.cond_ff rfl ?_ | refine AW.label ?_ | refine AW.skip ?_ | refine AW.ret ?_ | refine AW.exit ?_ | refine AW.region ?_ | refine AW.draw (by kernel_rfl) (by kernel_rfl) ?_ | ((with_reducible refine And.intro ?_ ?_); (focus ((repeat' (with_reducible apply And.intro)) <;> first | trivial | omega | rfl | (unfold inI; omega)))))
    refine CallXE.flat (f22 a (List.replicate 32 0) ha (by decide)) (by simp only [List.map_cons, List.map_nil, frz_agg8, frz_zrow]) rfl (by rfl) ?_
    repeat (first | simp only [go_sem, Nat.reduceLT, Nat.reduceEqDiff, reduceIte, Int.reduceEq, Int.reduceLE, Int.reduceLT, Nat.reduceMul, Nat.reduceAdd, Nat.reduceSub, Int.reduceNeg, Int.reduceAdd, Int.reduceMul, Int.reduceSub, Int.reduceToNat, Nat.reduceLeDiff, Nat.reduceDiv, Int.reduceDiv, reduceCtorEq, List.length_map, List.length_set, List.length_replicate, List.length_drop, List.length_take, List.length_append, List.drop_zero, List.take_of_length_le, Nat.le_refl, Nat.sub_zero, splice_all, row_u8, splice_u8, wrap_u64c, ha, hb, hc, hT, z1, z2, z3, beq_self_eq_true] | refine AW.seq ?_ | refine AW.block ?_ | refine AW.scope ?_ | refine AW.cond_tt rfl ?_ | refine AW.cond_ff rfl ?_ | refine AW.label ?_ | refine AW.skip ?_ | refine AW.ret ?_ | refine AW.exit ?_ | refine AW.region ?_ | refine AW.draw (by kernel_rfl) (by kernel_rfl) ?_ | ((with_reducible refine And.intro ?_ ?_); (focus ((repeat' (with_reducible apply And.intro)) <;> first | trivial | omega | rfl | (unfold inI; omega)))))
    refine CallXE.flat (f20 a ha 0 h0) (by simp only [List.map_cons, List.map_nil, frz_sl, frz_agg8, frz_vv]) (flat_agg8 _) (by rfl) ?_
    repeat (first | simp only [go_sem, Nat.reduceLT, Nat.reduceEqDiff, reduceIte, Int.reduceEq, Int.reduceLE, Int.reduceLT, Nat.reduceMul, Nat.reduceAdd, Nat.reduceSub, Int.reduceNeg, Int.reduceAdd, Int.reduceMul, Int.reduceSub, Int.reduceToNat, Nat.reduceLeDiff, Nat.reduceDiv, Int.reduceDiv, reduceCtorEq, List.length_map, List.length_set, List.length_replicate, List.length_drop, List.length_take, List.length_append, List.drop_zero, List.take_of_length_le, Nat.le_refl, Nat.sub_zero, splice_all, row_u8, splice_u8, wrap_u64c, ha, hb, hc, hT, z1, z2, z3, beq_self_eq_true] | refine AW.seq ?_ | refine AW.block ?_ | refine AW.scope ?_ | refine AW.cond_tt rfl ?_ | refine AW.cond_ff rfl ?_ | refine AW.label ?_ | refine AW.skip ?_ | refine AW.ret ?_ | refine AW.exit ?_ | refine AW.region ?_ | refine AW.draw (by kernel_rfl) (by kernel_rfl) ?_ | ((with_reducible refine And.intro ?_ ?_); (focus ((repeat' (with_reducible apply And.intro)) <;> first | trivial | omega | rfl | (unfold inI; omega)))))
    refine CallXE.flat (f22 a (turnS a 0) ha hT) (by simp only [List.map_cons, List.map_nil, frz_sl, frz_agg8, frz_vv]) rfl (by rfl) ?_
    repeat (first | simp only [go_sem, Nat.reduceLT, Nat.reduceEqDiff, reduceIte, Int.reduceEq, Int.reduceLE, Int.reduceLT, Nat.reduceMul, Nat.reduceAdd, Nat.reduceSub, Int.reduceNeg, Int.reduceAdd, Int.reduceMul, Int.reduceSub, Int.reduceToNat, Nat.reduceLeDiff, Nat.reduceDiv, Int.reduceDiv, reduceCtorEq, List.length_map, List.length_set, List.length_replicate, List.length_drop, List.length_take, List.length_append, List.drop_zero, List.take_of_length_le, Nat.le_refl, Nat.sub_zero, splice_all, row_u8, splice_u8, wrap_u64c, ha, hb, hc, hT, z1, z2, z3, beq_self_eq_true] | refine AW.seq ?_ | refine AW.block ?_ | refine AW.scope ?_ | refine AW.cond_tt rfl ?_ | refine AW.cond_ff rfl ?_ | refine AW.label ?_ | refine AW.skip ?_ | refine AW.ret ?_ | refine AW.exit ?_ | refine AW.region ?_ | refine AW.draw (by kernel_rfl) (by kernel_rfl) ?_ | ((with_reducible refine And.intro ?_ ?_); (focus ((repeat' (with_reducible apply And.intro)) <;> first | trivial | omega | rfl | (unfold inI; omega)))))
    refine CallXE.flat (f20 a ha 0 h0) (by simp only [List.map_cons, List.map_nil, frz_sl, frz_agg8, frz_vv]) (flat_agg8 _) (by rfl) ?_
    repeat (first | simp only [go_sem, Nat.reduceLT, Nat.reduceEqDiff, reduceIte, Int.reduceEq, Int.reduceLE, Int.reduceLT, Nat.reduceMul, Nat.reduceAdd, Nat.reduceSub, Int.reduceNeg, Int.reduceAdd, Int.reduceMul, Int.reduceSub, Int.reduceToNat, Nat.reduceLeDiff, Nat.reduceDiv, Int.reduceDiv, reduceCtorEq, List.length_map, List.length_set, List.length_replicate, List.length_drop, List.length_take, List.length_append, List.drop_zero, List.take_of_length_le, Nat.le_refl, Nat.sub_zero, splice_all, row_u8, splice_u8, wrap_u64c, ha, hb, hc, hT, z1, z2, z3, beq_self_eq_true] | refine AW.seq ?_ | refine AW.block ?_ | refine AW.scope ?_ | refine AW.cond_tt rfl ?_ | refine AW.cond_ff rfl ?_ | refine AW.label ?_ | refine AW.skip ?_ | refine AW.ret ?_ | refine AW.exit ?_ | refine AW.region ?_ | refine AW.draw (by kernel_rfl) (by kernel_rfl) ?_ | ((with_reducible refine And.intro ?_ ?_); (focus ((repeat' (with_reducible apply And.intro)) <;> first | trivial | omega | rfl | (unfold inI; omega)))))
    refine CallXE.flat (f22 (turnS a 0) a hT ha) (by simp only [List.map_cons, List.map_nil, frz_sl, frz_agg8, frz_vv]) rfl (by rfl) ?_
    repeat (first | simp only [go_sem, Nat.reduceLT, Nat.reduceEqDiff, reduceIte, Int.reduceEq, Int.reduceLE, Int.reduceLT, Nat.reduceMul, Nat.reduceAdd, Nat.reduceSub, Int.reduceNeg, Int.reduceAdd, Int.reduceMul, Int.reduceSub, Int.reduceToNat, Nat.reduceLeDiff, Nat.reduceDiv, Int.reduceDiv, reduceCtorEq, List.length_map, List.length_set, List.length_replicate, List.length_drop, List.length_take, List.length_append, List.drop_zero, List.take_of_length_le, Nat.le_refl, Nat.sub_zero, splice_all, row_u8, splice_u8, wrap_u64c, ha, hb, hc, hT, z1, z2, z3, beq_self_eq_true] | refine AW.seq ?_ | refine AW.block ?_ | refine AW.scope ?_ | refine AW.cond_tt rfl ?_ | refine AW.cond_ff rfl ?_ | refine AW.label ?_ | refine AW.skip ?_ | refine AW.ret ?_ | refine AW.exit ?_ | refine AW.region ?_ | refine AW.draw (by kernel_rfl) (by kernel_rfl) ?_ | ((with_reducible refine And.intro ?_ ?_); (focus ((repeat' (with_reducible apply And.intro)) <;> first | trivial | omega | rfl | (unfold inI; omega)))))
    exact Wk.refl _
end Go.Proofs.Ytapjkdmdckfjbaa

namespace Go.Proofs.Ytapjkdmdckfjbaa
open Go Go.Eng Go.Proofs
set_option maxRecDepth 100000
set_option linter.unusedSimpArgs false
set_option linter.unusedVariables false
theorem hi_bits {x y : Nat} (hx : x < 256) (hy : y < 256) : ∀ r, r ≤ 8 → (∀ k, k < r → x / 2 ^ (7 - k) % 2 = y / 2 ^ (7 - k) % 2) → x / 2 ^ (8 - r) = y / 2 ^ (8 - r)
  | 0, _, _ => by rw [Nat.div_eq_of_lt (by simpa using hx), Nat.div_eq_of_lt (by simpa using hy)]
  | r + 1, h, hk => by
    have ih := hi_bits hx hy r (by omega) fun k hk' => hk k (by omega)
    have e := hk r (by omega)
    have e1 : 8 - (r + 1) = 7 - r := by omega
    have e2 : 2 ^ (8 - r) = 2 ^ (7 - r) * 2 := by rw [← Nat.pow_succ]; congr 1; omega
    rw [e1]
    rw [e2, ← Nat.div_div_eq_div_mul, ← Nat.div_div_eq_div_mul] at ih
    omega
theorem bit_lt {x y : Nat} (hx : x < 256) (hy : y < 256) (r : Nat) (hr : r < 8) (hk : ∀ k, k < r → x / 2 ^ (7 - k) % 2 = y / 2 ^ (7 - k) % 2) (hd : x / 2 ^ (7 - r) % 2 ≠ y / 2 ^ (7 - r) % 2) : x ≠ y ∧ (x < y ↔ x / 2 ^ (7 - r) % 2 = 0) := by
  have e := hi_bits hx hy r (by omega) hk
  have e2 : 2 ^ (8 - r) = 2 ^ (7 - r) * 2 := by rw [← Nat.pow_succ]; congr 1; omega
  rw [e2, ← Nat.div_div_eq_div_mul, ← Nat.div_div_eq_div_mul] at e
  have h1 : x ≤ y → x / 2 ^ (7 - r) ≤ y / 2 ^ (7 - r) := fun h => Nat.div_le_div_right h
  have h2 : y ≤ x → y / 2 ^ (7 - r) ≤ x / 2 ^ (7 - r) := fun h => Nat.div_le_div_right h
  refine ⟨by rintro rfl; exact hd rfl, ?_⟩
  constructor
  · intro h; have := h1 (by omega); omega
  · intro h
    rcases Nat.lt_or_ge x y with h' | h'
    · exact h'
    · have := h2 h'; omega
open Lib in
theorem cmp_drop (a b : List UInt8) (hl : a.length = b.length) : ∀ q, q ≤ a.length → (∀ j, j < q → a.getD j 0 = b.getD j 0) → compareBytes a b = compareBytes (a.drop q) (b.drop q)
  | 0, _, _ => rfl
  | q + 1, h, hk => by
    rw [cmp_drop a b hl q (by omega) fun j hj => hk j (by omega), cmp_step a b q (by omega) (by omega)]
    have := hk q (by omega)
    simp only [this, UInt8.lt_irrefl, if_false]
theorem bytes_eq {a b : List UInt8} {q : Nat} (h : ∀ k, k < 8 → bitN a (8 * q + k) = bitN b (8 * q + k)) : a.getD q 0 = b.getD q 0 := by
  have := hi_bits (UInt8.toNat_lt (a.getD q 0)) (UInt8.toNat_lt (b.getD q 0)) 8 (Nat.le_refl _) fun k hk => by
    have := h k hk
    simp only [bitN, show (8 * q + k) / 8 = q by omega, show (8 * q + k) % 8 = k by omega] at this
    exact this
  simp only [Nat.sub_self, Nat.pow_zero, Nat.div_one] at this
  exact UInt8.toNat_inj.1 this
theorem all_bits {a b : List UInt8} (ha : a.length = 32) (hb : b.length = 32) (h : ∀ j, j < 256 → bitN a j = bitN b j) : a = b := by
  apply List.ext_getElem (by omega)
  intro q h1 h2
  have := bytes_eq (a := a) (b := b) (q := q) fun k hk => h _ (by omega)
  simpa [List.getD_eq_getElem?_getD, h1, h2] using this
theorem first_bit {a b : List UInt8} (ha : a.length = 32) (hb : b.length = 32) {j : Nat} (hj : j < 256) (h : ∀ k, k < j → bitN a k = bitN b k) (hd : bitN a j ≠ bitN b j) :
    Lib.compareBytes a b ≠ 0 ∧ (Lib.compareBytes a b < 0 ↔ bitN a j = 0) := by
  have hpre : ∀ q, q < j / 8 → a.getD q 0 = b.getD q 0 := fun q hq => bytes_eq fun k hk => h _ (by omega)
  rw [cmp_drop a b (by omega) (j / 8) (by omega) hpre, cmp_step a b (j / 8) (by omega) (by omega)]
  obtain ⟨h1, h2⟩ := bit_lt (UInt8.toNat_lt (a.getD (j / 8) 0)) (UInt8.toNat_lt (b.getD (j / 8) 0)) (j % 8) (by omega) (fun k hk => by
    have := h (8 * (j / 8) + k) (by omega)
    simp only [bitN, show (8 * (j / 8) + k) / 8 = j / 8 by omega, show (8 * (j / 8) + k) % 8 = k by omega] at this
    exact this) hd
  have e1 : (a.getD (j / 8) 0 < b.getD (j / 8) 0) ↔ ((a.getD (j / 8) 0).toNat < (b.getD (j / 8) 0).toNat) := UInt8.lt_iff_toNat_lt
  have e2 : (b.getD (j / 8) 0 < a.getD (j / 8) 0) ↔ ((b.getD (j / 8) 0).toNat < (a.getD (j / 8) 0).toNat) := UInt8.lt_iff_toNat_lt
  by_cases hlt : (a.getD (j / 8) 0).toNat < (b.getD (j / 8) 0).toNat
  · rw [if_pos (e1.2 hlt)]
    exact ⟨by decide, by constructor; · intro _; exact h2.1 hlt
                         · intro _; decide⟩
  · rw [if_neg (fun h => hlt (e1.1 h)), if_pos (e2.2 (by omega))]
    exact ⟨by decide, by constructor; · intro h; exact absurd h (by decide)
                         · intro h; exact absurd (h2.2 h) hlt⟩
theorem byte_turn : ∀ n, n < 256 → ∀ r, r < 8 → ∀ s, s < 8 → ((UInt8.ofNat n ^^^ shr8 (UInt8.ofNat 128) r).toNat / 2 ^ (7 - s) % 2 ≠ n / 2 ^ (7 - s) % 2 ↔ s = r) := by
  decide +kernel
theorem turn_bit {a : List UInt8} (ha : a.length = 32) {i k : Nat} (hi : i < 256) (hk : k < 256) : bitN (turnS a i) k ≠ bitN a k ↔ k = i := by
  have e1 : ((i : Int) / 8).toNat = i / 8 := by omega
  have e2 : ((i : Int) % 8).toNat = i % 8 := by omega
  rw [turnS, if_pos (by omega), e1, e2]
  unfold bitN
  by_cases h : k / 8 = i / 8
  · have hg : (a.set (i / 8) (a.getD (i / 8) 0 ^^^ shr8 (UInt8.ofNat 128) (i % 8))).getD (k / 8) 0 = a.getD (i / 8) 0 ^^^ shr8 (UInt8.ofNat 128) (i % 8) := by
      rw [h]; simp [List.getD_eq_getElem?_getD, show i / 8 < a.length by omega]
    have := byte_turn (a.getD (i / 8) 0).toNat (UInt8.toNat_lt _) (i % 8) (by omega) (k % 8) (by omega)
    rw [UInt8.ofNat_toNat] at this
    rw [hg, h, this]
    omega
  · have hg : (a.set (i / 8) (a.getD (i / 8) 0 ^^^ shr8 (UInt8.ofNat 128) (i % 8))).getD (k / 8) 0 = a.getD (k / 8) 0 := by
      simp [List.getD_eq_getElem?_getD, List.getElem?_set, Ne.symm h]
    rw [hg]
    constructor
    · intro h'; exact absurd rfl h'
    · rintro rfl; exact absurd rfl h
theorem turn_turn {a : List UInt8} (ha : a.length = 32) {i : Nat} (hi : i < 256) : turnS (turnS a i) i = a := by
  have e1 : ((i : Int) / 8).toNat = i / 8 := by omega
  have e2 : ((i : Int) % 8).toNat = i % 8 := by omega
  have hq : i / 8 < a.length := by omega
  simp only [turnS, if_pos (show (0 : Int) ≤ i ∧ (i : Int) ≤ 255 by omega), e1, e2, List.set_set]
  have hg : (a.set (i / 8) (a.getD (i / 8) 0 ^^^ shr8 (UInt8.ofNat 128) (i % 8))).getD (i / 8) 0 = a.getD (i / 8) 0 ^^^ shr8 (UInt8.ofNat 128) (i % 8) := by
    simp [List.getD_eq_getElem?_getD, hq]
  rw [hg, UInt8.xor_assoc, UInt8.xor_self, UInt8.xor_zero]
  have : a.getD (i / 8) 0 = a[i / 8] := by simp [List.getD_eq_getElem?_getD, hq]
  rw [this]
  exact List.set_getElem_self hq
end Go.Proofs.Ytapjkdmdckfjbaa

namespace Go.Proofs.Ytapjkdmdckfjbaa
open Go Go.Eng Go.Proofs
set_option maxRecDepth 100000
set_option maxHeartbeats 4000000
set_option linter.unusedSimpArgs false
set_option linter.unusedVariables false
def st6a (a b : List UInt8) (i : UInt8) (j : Nat) : S := ⟨[(9, int j), (8, int (Lib.compareBytes a b)), (7, boo true), (3, .loc 0 0), (4, .loc 1 0), (2, u8 i)], 86, [(1, .box (b.map u8)), (0, .box (a.map u8))], 2, []⟩
def st6b (a b : List UInt8) (i : UInt8) (j : Nat) (k : Nat) : S := ⟨[(11, int k), (10, .loc 2 0), (9, int j), (8, int (Lib.compareBytes a b)), (7, boo true), (3, .loc 0 0), (4, .loc 1 0), (2, u8 i)], 86, [(2, .box ((turnS a i.toNat).map u8)), (1, .box (b.map u8)), (0, .box (a.map u8))], 3, []⟩
theorem f6 (a b : List UInt8) (ha : a.length = 32) (hb : b.length = 32) (i : UInt8) : AFun Try.prog 6 [.agg (a.map u8), .agg (b.map u8), u8 i] (boo true) := by
  have hi := i.toNat_lt
  have hT : (turnS a i.toNat).length = 32 := by rw [turnS_length, ha]
  have hsp : splice (List.replicate 32 (u8 0)) 0 ((turnS a i.toNat).map u8) = (turnS a i.toNat).map u8 := splice_all (by rw [List.length_map, hT, List.length_replicate])
  have htt := turn_turn ha hi
  have hanti : Lib.compareBytes b a = 0 - Lib.compareBytes a b := by rw [cmp_anti a b, Int.zero_sub]
  have habs := cmp_abs a b
  refine AFun.enterW Try.func6 rfl Try.call6 (by simp [Try.ntmps6]) fun γ1 => ?_
  simp only [frameOf, Try.ntmps6]
  repeat (first | simp only [go_sem, Nat.reduceLT, Nat.reduceEqDiff, reduceIte, Int.reduceEq, Int.reduceLE, Int.reduceLT, Nat.reduceMul, Nat.reduceAdd, Nat.reduceSub, Int.reduceNeg, Int.reduceAdd, Int.reduceMul, Int.reduceSub, Int.reduceToNat, Nat.reduceLeDiff, Nat.reduceDiv, Int.reduceDiv, reduceCtorEq] | refine AW.seq ?_ | refine AW.block ?_ | refine AW.scope ?_ | refine AW.cond_tt rfl ?_ | refine AW.cond_ff rfl ?_ | refine AW.label ?_ | refine AW.skip ?_ | refine AW.ret ?_ | refine AW.exit ?_ | refine AW.region ?_ | refine AW.draw (by kernel_rfl) (by kernel_rfl) ?_ | ((with_reducible refine And.intro ?_ ?_); (focus ((repeat' (with_reducible apply And.intro)) <;> first | trivial | omega | rfl | (unfold inI; omega)))))
  refine CallE.flat f8 rfl rfl (by rfl) ?_
  repeat (first | simp only [go_sem, Nat.reduceLT, Nat.reduceEqDiff, reduceIte, Int.reduceEq, Int.reduceLE, Int.reduceLT, Nat.reduceMul, Nat.reduceAdd, Nat.reduceSub, Int.reduceNeg, Int.reduceAdd, Int.reduceMul, Int.reduceSub, Int.reduceToNat, Nat.reduceLeDiff, Nat.reduceDiv, Int.reduceDiv, reduceCtorEq, List.length_map, List.length_set, List.length_replicate, List.length_drop, List.length_take, List.length_append, List.drop_zero, List.take_of_length_le, Nat.le_refl, Nat.sub_zero, splice_all, row_u8, splice_u8, wrap_u64c, ha, hb] | refine AW.seq ?_ | refine AW.block ?_ | refine AW.scope ?_ | refine AW.cond_tt rfl ?_ | refine AW.cond_ff rfl ?_ | refine AW.label ?_ | refine AW.skip ?_ | refine AW.ret ?_ | refine AW.exit ?_ | refine AW.region ?_ | refine AW.draw (by kernel_rfl) (by kernel_rfl) ?_ | ((with_reducible refine And.intro ?_ ?_); (focus ((repeat' (with_reducible apply And.intro)) <;> first | trivial | omega | rfl | (unfold inI; omega)))))
  refine CallE.flat (f22 a b ha hb) (by simp only [List.map_cons, List.map_nil, frz_sl, frz_agg8, frz_vv]) rfl (by rfl) ?_
  repeat (first | simp only [go_sem, Nat.reduceLT, Nat.reduceEqDiff, reduceIte, Int.reduceEq, Int.reduceLE, Int.reduceLT, Nat.reduceMul, Nat.reduceAdd, Nat.reduceSub, Int.reduceNeg, Int.reduceAdd, Int.reduceMul, Int.reduceSub, Int.reduceToNat, Nat.reduceLeDiff, Nat.reduceDiv, Int.reduceDiv, reduceCtorEq, List.length_map, List.length_set, List.length_replicate, List.length_drop, List.length_take, List.length_append, List.drop_zero, List.take_of_length_le, Nat.le_refl, Nat.sub_zero, splice_all, row_u8, splice_u8, wrap_u64c, ha, hb] | refine AW.seq ?_ | refine AW.block ?_ | refine AW.scope ?_ | refine AW.cond_tt rfl ?_ | refine AW.cond_ff rfl ?_ | refine AW.label ?_ | refine AW.skip ?_ | refine AW.ret ?_ | refine AW.exit ?_ | refine AW.region ?_ | refine AW.draw (by kernel_rfl) (by kernel_rfl) ?_ | ((with_reducible refine And.intro ?_ ?_); (focus ((repeat' (with_reducible apply And.intro)) <;> first | trivial | omega | rfl | (unfold inI; omega)))))
  refine AW.loop (fun s => ∃ j : Nat, j ≤ 256 ∧ (∀ k, k < j → bitN a k = bitN b k) ∧ s = st6a a b i j) (fun s => (256 - slotN s 9).toNat) (s0 := st6a a b i 0) ?_ ⟨0, by omega, fun k hk => absurd hk (Nat.not_lt_zero _), rfl⟩ ?_
  · simp only [st6a]; exact (Sub.same (by first | exact Nat.zero_le _ | exact Nat.le_refl _ | decide | omega) rfl rfl (by simp) (by simp [lab, labL, ren, renL, look_cons, renL_bys, labL_bys, renL_mapu8, labL_mapu8]) (by simp [labO, renO, lab, labL, ren, renL, look_cons, renL_bys, labL_bys, renL_mapu8, labL_mapu8]))
  rintro s ⟨j, hj, hp, rfl⟩
  simp only [st6a]
  repeat (first | simp only [go_sem, Nat.reduceLT, Nat.reduceEqDiff, reduceIte, Int.reduceEq, Int.reduceLE, Int.reduceLT, Nat.reduceMul, Nat.reduceAdd, Nat.reduceSub, Int.reduceNeg, Int.reduceAdd, Int.reduceMul, Int.reduceSub, Int.reduceToNat, Nat.reduceLeDiff, Nat.reduceDiv, Int.reduceDiv, reduceCtorEq] | refine AW.seq ?_ | refine AW.block ?_ | refine AW.scope ?_ | refine AW.cond_tt rfl ?_ | refine AW.cond_ff rfl ?_ | refine AW.label ?_ | refine AW.skip ?_ | refine AW.ret ?_ | refine AW.exit ?_ | refine AW.region ?_ | refine AW.draw (by kernel_rfl) (by kernel_rfl) ?_ | ((with_reducible refine And.intro ?_ ?_); (focus ((repeat' (with_reducible apply And.intro)) <;> first | trivial | omega | rfl | (unfold inI; omega)))))
  refine drG_dec (fun h1 => ?_) (fun h1 => ?_)
  · have hb1 := bitS_nat a j (by omega)
    have hb2 := bitS_nat b j (by omega)
    repeat (first | simp only [go_sem, Nat.reduceLT, Nat.reduceEqDiff, reduceIte, Int.reduceEq, Int.reduceLE, Int.reduceLT, Nat.reduceMul, Nat.reduceAdd, Nat.reduceSub, Int.reduceNeg, Int.reduceAdd, Int.reduceMul, Int.reduceSub, Int.reduceToNat, Nat.reduceLeDiff, Nat.reduceDiv, Int.reduceDiv, reduceCtorEq, List.length_map, List.length_set, List.length_replicate, List.length_drop, List.length_take, List.length_append, List.drop_zero, List.take_of_length_le, Nat.le_refl, Nat.sub_zero, splice_all, row_u8, splice_u8, wrap_u64c, ha, hb] | refine AW.seq ?_ | refine AW.block ?_ | refine AW.scope ?_ | refine AW.cond_tt rfl ?_ | refine AW.cond_ff rfl ?_ | refine AW.label ?_ | refine AW.skip ?_ | refine AW.ret ?_ | refine AW.exit ?_ | refine AW.region ?_ | refine AW.draw (by kernel_rfl) (by kernel_rfl) ?_ | ((with_reducible refine And.intro ?_ ?_); (focus ((repeat' (with_reducible apply And.intro)) <;> first | trivial | omega | rfl | (unfold inI; omega)))))
    refine CallXE.flat (f18 a ha j (by unfold inI; omega)) (by simp only [List.map_cons, List.map_nil, frz_sl, frz_agg8, frz_vv]) rfl (by rfl) ?_
    repeat (first | simp only [go_sem, Nat.reduceLT, Nat.reduceEqDiff, reduceIte, Int.reduceEq, Int.reduceLE, Int.reduceLT, Nat.reduceMul, Nat.reduceAdd, Nat.reduceSub, Int.reduceNeg, Int.reduceAdd, Int.reduceMul, Int.reduceSub, Int.reduceToNat, Nat.reduceLeDiff, Nat.reduceDiv, Int.reduceDiv, reduceCtorEq, List.length_map, List.length_set, List.length_replicate, List.length_drop, List.length_take, List.length_append, List.drop_zero, List.take_of_length_le, Nat.le_refl, Nat.sub_zero, splice_all, row_u8, splice_u8, wrap_u64c, ha, hb] | refine AW.seq ?_ | refine AW.block ?_ | refine AW.scope ?_ | refine AW.cond_tt rfl ?_ | refine AW.cond_ff rfl ?_ | refine AW.label ?_ | refine AW.skip ?_ | refine AW.ret ?_ | refine AW.exit ?_ | refine AW.region ?_ | refine AW.draw (by kernel_rfl) (by kernel_rfl) ?_ | ((with_reducible refine And.intro ?_ ?_); (focus ((repeat' (with_reducible apply And.intro)) <;> first | trivial | omega | rfl | (unfold inI; omega)))))
    refine CallXE.flat (f18 b hb j (by unfold inI; omega)) (by simp only [List.map_cons, List.map_nil, frz_sl, frz_agg8, frz_vv]) rfl (by rfl) ?_
    repeat (first | simp only [go_sem, Nat.reduceLT, Nat.reduceEqDiff, reduceIte, Int.reduceEq, Int.reduceLE, Int.reduceLT, Nat.reduceMul, Nat.reduceAdd, Nat.reduceSub, Int.reduceNeg, Int.reduceAdd, Int.reduceMul, Int.reduceSub, Int.reduceToNat, Nat.reduceLeDiff, Nat.reduceDiv, Int.reduceDiv, reduceCtorEq, List.length_map, List.length_set, List.length_replicate, List.length_drop, List.length_take, List.length_append, List.drop_zero, List.take_of_length_le, Nat.le_refl, Nat.sub_zero, splice_all, row_u8, splice_u8, wrap_u64c, ha, hb, hb1, hb2] | refine AW.seq ?_ | refine AW.block ?_ | refine AW.scope ?_ | refine AW.cond_tt rfl ?_ | refine AW.cond_ff rfl ?_ | refine AW.label ?_ | refine AW.skip ?_ | refine AW.ret ?_ | refine AW.exit ?_ | refine AW.region ?_ | refine AW.draw (by kernel_rfl) (by kernel_rfl) ?_ | ((with_reducible refine And.intro ?_ ?_); (focus ((repeat' (with_reducible apply And.intro)) <;> first | trivial | omega | rfl | (unfold inI; omega)))))
    refine AW.cond_dec rfl (fun h2 => ?_) (fun h2 => ?_)
    · repeat (first | simp only [go_sem, Nat.reduceLT, Nat.reduceEqDiff, reduceIte, Int.reduceEq, Int.reduceLE, Int.reduceLT, Nat.reduceMul, Nat.reduceAdd, Nat.reduceSub, Int.reduceNeg, Int.reduceAdd, Int.reduceMul, Int.reduceSub, Int.reduceToNat, Nat.reduceLeDiff, Nat.reduceDiv, Int.reduceDiv, reduceCtorEq] | refine AW.seq ?_ | refine AW.block ?_ | refine AW.scope ?_ | refine AW.cond_tt rfl ?_ | refine AW.cond_ff rfl ?_ | refine AW.label ?_ | refine AW.skip ?_ | refine AW.ret ?_ | refine AW.exit ?_ | refine AW.region ?_ | refine AW.draw (by kernel_rfl) (by kernel_rfl) ?_ | ((with_reducible refine And.intro ?_ ?_); (focus ((repeat' (with_reducible apply And.intro)) <;> first | trivial | omega | rfl | (unfold inI; omega)))))
      rw [Qof_lp]
      refine ⟨st6a a b i (j + 1), ?_, ⟨j + 1, by omega, fun k hk => ?_, rfl⟩, ?_⟩
      · simp only [st6a]; exact (Sub.same (by first | exact Nat.zero_le _ | exact Nat.le_refl _ | decide | omega) rfl rfl (by simp) (by simp [lab, labL, ren, renL, look_cons, renL_bys, labL_bys, renL_mapu8, labL_mapu8]) (by simp [labO, renO, lab, labL, ren, renL, look_cons, renL_bys, labL_bys, renL_mapu8, labL_mapu8]))
      · rcases Nat.lt_succ_iff_lt_or_eq.1 hk with h | rfl
        · exact hp k h
        · omega
      · simp [slotN, st6a, look_cons]; omega
    · obtain ⟨hc0, hlt0⟩ := first_bit ha hb (by omega) hp (j := j) (fun h => h2 (by rw [h]))
      have hj256 : ((j : Int) = 256) = False := by apply eq_false; omega
      have hc0' : (Lib.compareBytes a b = 0) = False := eq_false hc0
      have hlt : (Lib.compareBytes a b < 0) = ((bitN a j : Int) = 0) := by apply propext; rw [hlt0]; omega
      repeat (first | simp only [go_sem, Nat.reduceLT, Nat.reduceEqDiff, reduceIte, Int.reduceEq, Int.reduceLE, Int.reduceLT, Nat.reduceMul, Nat.reduceAdd, Nat.reduceSub, Int.reduceNeg, Int.reduceAdd, Int.reduceMul, Int.reduceSub, Int.reduceToNat, Nat.reduceLeDiff, Nat.reduceDiv, Int.reduceDiv, reduceCtorEq, List.length_map, List.length_set, List.length_replicate, List.length_drop, List.length_take, List.length_append, List.drop_zero, List.take_of_length_le, Nat.le_refl, Nat.sub_zero, splice_all, row_u8, splice_u8, wrap_u64c, ha, hb, hT, hsp, eq_self, beq_self_eq_true] | refine AW.seq ?_ | refine AW.block ?_ | refine AW.scope ?_ | refine AW.cond_tt rfl ?_ | refine AW.cond_ff rfl ?_ | refine AW.label ?_ | refine AW.skip ?_ | refine AW.ret ?_ | refine AW.exit ?_ | refine AW.region ?_ | refine AW.draw (by kernel_rfl) (by kernel_rfl) ?_ | ((with_reducible refine And.intro ?_ ?_); (focus ((repeat' (with_reducible apply And.intro)) <;> first | trivial | omega | rfl | (unfold inI; omega)))))
      refine CallE.flat (f20 a ha i.toNat (by unfold inI; omega)) (by simp only [List.map_cons, List.map_nil, frz_sl, frz_agg8, frz_vv]) (flat_agg8 _) (by rfl) ?_
      repeat (first | simp only [go_sem, Nat.reduceLT, Nat.reduceEqDiff, reduceIte, Int.reduceEq, Int.reduceLE, Int.reduceLT, Nat.reduceMul, Nat.reduceAdd, Nat.reduceSub, Int.reduceNeg, Int.reduceAdd, Int.reduceMul, Int.reduceSub, Int.reduceToNat, Nat.reduceLeDiff, Nat.reduceDiv, Int.reduceDiv, reduceCtorEq, List.length_map, List.length_set, List.length_replicate, List.length_drop, List.length_take, List.length_append, List.drop_zero, List.take_of_length_le, Nat.le_refl, Nat.sub_zero, splice_all, row_u8, splice_u8, wrap_u64c, ha, hb, hT, hsp, eq_self, beq_self_eq_true] | refine AW.seq ?_ | refine AW.block ?_ | refine AW.scope ?_ | refine AW.cond_tt rfl ?_ | refine AW.cond_ff rfl ?_ | refine AW.label ?_ | refine AW.skip ?_ | refine AW.ret ?_ | refine AW.exit ?_ | refine AW.region ?_ | refine AW.draw (by kernel_rfl) (by kernel_rfl) ?_ | ((with_reducible refine And.intro ?_ ?_); (focus ((repeat' (with_reducible apply And.intro)) <;> first | trivial | omega | rfl | (unfold inI; omega)))))
      refine AW.loop (fun s => ∃ k : Nat, k ≤ 256 ∧ s = st6b a b i j k) (fun s => (256 - slotN s 11).toNat) (s0 := st6b a b i j 0) ?_ ⟨0, by omega, rfl⟩ ?_
      · simp only [st6b]; exact (Sub.same (by first | exact Nat.zero_le _ | exact Nat.le_refl _ | decide | omega) rfl rfl (by simp) (by simp [lab, labL, ren, renL, look_cons, renL_bys, labL_bys, renL_mapu8, labL_mapu8]) (by simp [labO, renO, lab, labL, ren, renL, look_cons, renL_bys, labL_bys, renL_mapu8, labL_mapu8]))
      rintro s ⟨k, hk, rfl⟩
      simp only [st6b]
      repeat (first | simp only [go_sem, Nat.reduceLT, Nat.reduceEqDiff, reduceIte, Int.reduceEq, Int.reduceLE, Int.reduceLT, Nat.reduceMul, Nat.reduceAdd, Nat.reduceSub, Int.reduceNeg, Int.reduceAdd, Int.reduceMul, Int.reduceSub, Int.reduceToNat, Nat.reduceLeDiff, Nat.reduceDiv, Int.reduceDiv, reduceCtorEq] | refine AW.seq ?_ | refine AW.block ?_ | refine AW.scope ?_ | refine AW.cond_tt rfl ?_ | refine AW.cond_ff rfl ?_ | refine AW.label ?_ | refine AW.skip ?_ | refine AW.ret ?_ | refine AW.exit ?_ | refine AW.region ?_ | refine AW.draw (by kernel_rfl) (by kernel_rfl) ?_ | ((with_reducible refine And.intro ?_ ?_); (focus ((repeat' (with_reducible apply And.intro)) <;> first | trivial | omega | rfl | (unfold inI; omega)))))
      refine AW.cond_dec rfl (fun h3 => ?_) (fun h3 => ?_)
      · have hb3 := bitS_nat (turnS a i.toNat) k (by omega)
        have hb4 := bitS_nat a k (by omega)
        have heq : (¬ (bitN (turnS a i.toNat) k : Int) = (bitN a k : Int)) = ((k : Int) = (i.toNat : Int)) := by
          have := turn_bit ha (i := i.toNat) (k := k) (by omega) (by omega)
          apply propext; constructor
          · intro h; have := this.1 (by omega); omega
          · intro h; have := this.2 (by omega); omega
        repeat (first | simp only [go_sem, Nat.reduceLT, Nat.reduceEqDiff, reduceIte, Int.reduceEq, Int.reduceLE, Int.reduceLT, Nat.reduceMul, Nat.reduceAdd, Nat.reduceSub, Int.reduceNeg, Int.reduceAdd, Int.reduceMul, Int.reduceSub, Int.reduceToNat, Nat.reduceLeDiff, Nat.reduceDiv, Int.reduceDiv, reduceCtorEq, List.length_map, List.length_set, List.length_replicate, List.length_drop, List.length_take, List.length_append, List.drop_zero, List.take_of_length_le, Nat.le_refl, Nat.sub_zero, splice_all, row_u8, splice_u8, wrap_u64c, ha, hb, hT, hsp, eq_self, beq_self_eq_true] | refine AW.seq ?_ | refine AW.block ?_ | refine AW.scope ?_ | refine AW.cond_tt rfl ?_ | refine AW.cond_ff rfl ?_ | refine AW.label ?_ | refine AW.skip ?_ | refine AW.ret ?_ | refine AW.exit ?_ | refine AW.region ?_ | refine AW.draw (by kernel_rfl) (by kernel_rfl) ?_ | ((with_reducible refine And.intro ?_ ?_); (focus ((repeat' (with_reducible apply And.intro)) <;> first | trivial | omega | rfl | (unfold inI; omega)))))
        refine CallXE.flat (f18 (turnS a i.toNat) hT k (by unfold inI; omega)) (by simp only [List.map_cons, List.map_nil, frz_sl, frz_agg8, frz_vv]) rfl (by rfl) ?_
        repeat (first | simp only [go_sem, Nat.reduceLT, Nat.reduceEqDiff, reduceIte, Int.reduceEq, Int.reduceLE, Int.reduceLT, Nat.reduceMul, Nat.reduceAdd, Nat.reduceSub, Int.reduceNeg, Int.reduceAdd, Int.reduceMul, Int.reduceSub, Int.reduceToNat, Nat.reduceLeDiff, Nat.reduceDiv, Int.reduceDiv, reduceCtorEq, List.length_map, List.length_set, List.length_replicate, List.length_drop, List.length_take, List.length_append, List.drop_zero, List.take_of_length_le, Nat.le_refl, Nat.sub_zero, splice_all, row_u8, splice_u8, wrap_u64c, ha, hb, hT, hsp, eq_self, beq_self_eq_true] | refine AW.seq ?_ | refine AW.block ?_ | refine AW.scope ?_ | refine AW.cond_tt rfl ?_ | refine AW.cond_ff rfl ?_ | refine AW.label ?_ | refine AW.skip ?_ | refine AW.ret ?_ | refine AW.exit ?_ | refine AW.region ?_ | refine AW.draw (by kernel_rfl) (by kernel_rfl) ?_ | ((with_reducible refine And.intro ?_ ?_); (focus ((repeat' (with_reducible apply And.intro)) <;> first | trivial | omega | rfl | (unfold inI; omega)))))
        refine CallXE.flat (f18 a ha k (by unfold inI; omega)) (by simp only [List.map_cons, List.map_nil, frz_sl, frz_agg8, frz_vv]) rfl (by rfl) ?_
        repeat (first | simp only [go_sem, Nat.reduceLT, Nat.reduceEqDiff, reduceIte, Int.reduceEq, Int.reduceLE, Int.reduceLT, Nat.reduceMul, Nat.reduceAdd, Nat.reduceSub, Int.reduceNeg, Int.reduceAdd, Int.reduceMul, Int.reduceSub, Int.reduceToNat, Nat.reduceLeDiff, Nat.reduceDiv, Int.reduceDiv, reduceCtorEq, List.length_map, List.length_set, List.length_replicate, List.length_drop, List.length_take, List.length_append, List.drop_zero, List.take_of_length_le, Nat.le_refl, Nat.sub_zero, splice_all, row_u8, splice_u8, wrap_u64c, ha, hb, hT, hsp, eq_self, beq_self_eq_true, hb3, hb4, heq, bne_self_eq_false] | refine AW.seq ?_ | refine AW.block ?_ | refine AW.scope ?_ | refine AW.cond_tt rfl ?_ | refine AW.cond_ff rfl ?_ | refine AW.label ?_ | refine AW.skip ?_ | refine AW.ret ?_ | refine AW.exit ?_ | refine AW.region ?_ | refine AW.draw (by kernel_rfl) (by kernel_rfl) ?_ | ((with_reducible refine And.intro ?_ ?_); (focus ((repeat' (with_reducible apply And.intro)) <;> first | trivial | omega | rfl | (unfold inI; omega)))))
        rw [Qof_lp]
        refine ⟨st6b a b i j (k + 1), ?_, ⟨k + 1, by omega, rfl⟩, ?_⟩
        · simp only [st6b]; exact (Sub.same (by first | exact Nat.zero_le _ | exact Nat.le_refl _ | decide | omega) rfl rfl (by simp) (by simp [lab, labL, ren, renL, look_cons, renL_bys, labL_bys, renL_mapu8, labL_mapu8]) (by simp [labO, renO, lab, labL, ren, renL, look_cons, renL_bys, labL_bys, renL_mapu8, labL_mapu8]))
        · simp [slotN, st6b, look_cons]; omega
      · repeat (first | simp only [go_sem, Nat.reduceLT, Nat.reduceEqDiff, reduceIte, Int.reduceEq, Int.reduceLE, Int.reduceLT, Nat.reduceMul, Nat.reduceAdd, Nat.reduceSub, Int.reduceNeg, Int.reduceAdd, Int.reduceMul, Int.reduceSub, Int.reduceToNat, Nat.reduceLeDiff, Nat.reduceDiv, Int.reduceDiv, reduceCtorEq, List.length_map, List.length_set, List.length_replicate, List.length_drop, List.length_take, List.length_append, List.drop_zero, List.take_of_length_le, Nat.le_refl, Nat.sub_zero, splice_all, row_u8, splice_u8, wrap_u64c, ha, hb, hT, hsp, eq_self, beq_self_eq_true, hc0', hj256, hlt, hanti] | refine AW.seq ?_ | refine AW.block ?_ | refine AW.scope ?_ | refine AW.cond_tt rfl ?_ | refine AW.cond_ff rfl ?_ | refine AW.label ?_ | refine AW.skip ?_ | refine AW.ret ?_ | refine AW.exit ?_ | refine AW.region ?_ | refine AW.draw (by kernel_rfl) (by kernel_rfl) ?_ | ((with_reducible refine And.intro ?_ ?_); (focus ((repeat' (with_reducible apply And.intro)) <;> first | trivial | omega | rfl | (unfold inI; omega)))))
        refine CallXE.flat (f18 a ha j (by unfold inI; omega)) (by simp only [List.map_cons, List.map_nil, frz_sl, frz_agg8, frz_vv]) rfl (by rfl) ?_
        repeat (first | simp only [go_sem, Nat.reduceLT, Nat.reduceEqDiff, reduceIte, Int.reduceEq, Int.reduceLE, Int.reduceLT, Nat.reduceMul, Nat.reduceAdd, Nat.reduceSub, Int.reduceNeg, Int.reduceAdd, Int.reduceMul, Int.reduceSub, Int.reduceToNat, Nat.reduceLeDiff, Nat.reduceDiv, Int.reduceDiv, reduceCtorEq, List.length_map, List.length_set, List.length_replicate, List.length_drop, List.length_take, List.length_append, List.drop_zero, List.take_of_length_le, Nat.le_refl, Nat.sub_zero, splice_all, row_u8, splice_u8, wrap_u64c, ha, hb, hT, hsp, eq_self, beq_self_eq_true, hc0', hj256, hlt, hanti, hb1] | refine AW.seq ?_ | refine AW.block ?_ | refine AW.scope ?_ | refine AW.cond_tt rfl ?_ | refine AW.cond_ff rfl ?_ | refine AW.label ?_ | refine AW.skip ?_ | refine AW.ret ?_ | refine AW.exit ?_ | refine AW.region ?_ | refine AW.draw (by kernel_rfl) (by kernel_rfl) ?_ | ((with_reducible refine And.intro ?_ ?_); (focus ((repeat' (with_reducible apply And.intro)) <;> first | trivial | omega | rfl | (unfold inI; omega)))))
        refine CallXE.flat (f20 (turnS a i.toNat) hT i.toNat (by unfold inI; omega)) (by simp only [List.map_cons, List.map_nil, frz_sl, frz_agg8, frz_vv]) (flat_agg8 _) (by rfl) ?_
        repeat (first | simp only [go_sem, Nat.reduceLT, Nat.reduceEqDiff, reduceIte, Int.reduceEq, Int.reduceLE, Int.reduceLT, Nat.reduceMul, Nat.reduceAdd, Nat.reduceSub, Int.reduceNeg, Int.reduceAdd, Int.reduceMul, Int.reduceSub, Int.reduceToNat, Nat.reduceLeDiff, Nat.reduceDiv, Int.reduceDiv, reduceCtorEq, List.length_map, List.length_set, List.length_replicate, List.length_drop, List.length_take, List.length_append, List.drop_zero, List.take_of_length_le, Nat.le_refl, Nat.sub_zero, splice_all, row_u8, splice_u8, wrap_u64c, ha, hb, hT, hsp, eq_self, beq_self_eq_true, hc0', hj256, hlt, hanti, htt] | refine AW.seq ?_ | refine AW.block ?_ | refine AW.scope ?_ | refine AW.cond_tt rfl ?_ | refine AW.cond_ff rfl ?_ | refine AW.label ?_ | refine AW.skip ?_ | refine AW.ret ?_ | refine AW.exit ?_ | refine AW.region ?_ | refine AW.draw (by kernel_rfl) (by kernel_rfl) ?_ | ((with_reducible refine And.intro ?_ ?_); (focus ((repeat' (with_reducible apply And.intro)) <;> first | trivial | omega | rfl | (unfold inI; omega)))))
        refine CallXE.flat (f22 b a hb ha) (by simp only [List.map_cons, List.map_nil, frz_sl, frz_agg8, frz_vv]) rfl (by rfl) ?_
        repeat (first | simp only [go_sem, Nat.reduceLT, Nat.reduceEqDiff, reduceIte, Int.reduceEq, Int.reduceLE, Int.reduceLT, Nat.reduceMul, Nat.reduceAdd, Nat.reduceSub, Int.reduceNeg, Int.reduceAdd, Int.reduceMul, Int.reduceSub, Int.reduceToNat, Nat.reduceLeDiff, Nat.reduceDiv, Int.reduceDiv, reduceCtorEq, List.length_map, List.length_set, List.length_replicate, List.length_drop, List.length_take, List.length_append, List.drop_zero, List.take_of_length_le, Nat.le_refl, Nat.sub_zero, splice_all, row_u8, splice_u8, wrap_u64c, ha, hb, hT, hsp, eq_self, beq_self_eq_true, hc0', hj256, hlt, hanti] | refine AW.seq ?_ | refine AW.block ?_ | refine AW.scope ?_ | refine AW.cond_tt rfl ?_ | refine AW.cond_ff rfl ?_ | refine AW.label ?_ | refine AW.skip ?_ | refine AW.ret ?_ | refine AW.exit ?_ | refine AW.region ?_ | refine AW.draw (by kernel_rfl) (by kernel_rfl) ?_ | ((with_reducible refine And.intro ?_ ?_); (focus ((repeat' (with_reducible apply And.intro)) <;> first | trivial | omega | rfl | (unfold inI; omega)))))
        exact Wk.refl _
  · have hj2 : j = 256 := by omega
    subst hj2
    have hc0' : Lib.compareBytes a b = 0 := by rw [cmp_zero]; exact all_bits ha hb hp
    have hj256 : (((256 : Nat) : Int) = 256) = True := by simp
    repeat (first | simp only [go_sem, Nat.reduceLT, Nat.reduceEqDiff, reduceIte, Int.reduceEq, Int.reduceLE, Int.reduceLT, Nat.reduceMul, Nat.reduceAdd, Nat.reduceSub, Int.reduceNeg, Int.reduceAdd, Int.reduceMul, Int.reduceSub, Int.reduceToNat, Nat.reduceLeDiff, Nat.reduceDiv, Int.reduceDiv, reduceCtorEq, List.length_map, List.length_set, List.length_replicate, List.length_drop, List.length_take, List.length_append, List.drop_zero, List.take_of_length_le, Nat.le_refl, Nat.sub_zero, splice_all, row_u8, splice_u8, wrap_u64c, ha, hb, hT, hsp, eq_self, beq_self_eq_true] | refine AW.seq ?_ | refine AW.block ?_ | refine AW.scope ?_ | refine AW.cond_tt rfl ?_ | refine AW.cond_ff rfl ?_ | refine AW.label ?_ | refine AW.skip ?_ | refine AW.ret ?_ | refine AW.exit ?_ | refine AW.region ?_ | refine AW.draw (by kernel_rfl) (by kernel_rfl) ?_ | ((with_reducible refine And.intro ?_ ?_); (focus ((repeat' (with_reducible apply And.intro)) <;> first | trivial | omega | rfl | (unfold inI; omega)))))
    refine CallE.flat (f20 a ha i.toNat (by unfold inI; omega)) (by simp only [List.map_cons, List.map_nil, frz_sl, frz_agg8, frz_vv]) (flat_agg8 _) (by rfl) ?_
    repeat (first | simp only [go_sem, Nat.reduceLT, Nat.reduceEqDiff, reduceIte, Int.reduceEq, Int.reduceLE, Int.reduceLT, Nat.reduceMul, Nat.reduceAdd, Nat.reduceSub, Int.reduceNeg, Int.reduceAdd, Int.reduceMul, Int.reduceSub, Int.reduceToNat, Nat.reduceLeDiff, Nat.reduceDiv, Int.reduceDiv, reduceCtorEq, List.length_map, List.length_set, List.length_replicate, List.length_drop, List.length_take, List.length_append, List.drop_zero, List.take_of_length_le, Nat.le_refl, Nat.sub_zero, splice_all, row_u8, splice_u8, wrap_u64c, ha, hb, hT, hsp, eq_self, beq_self_eq_true] | refine AW.seq ?_ | refine AW.block ?_ | refine AW.scope ?_ | refine AW.cond_tt rfl ?_ | refine AW.cond_ff rfl ?_ | refine AW.label ?_ | refine AW.skip ?_ | refine AW.ret ?_ | refine AW.exit ?_ | refine AW.region ?_ | refine AW.draw (by kernel_rfl) (by kernel_rfl) ?_ | ((with_reducible refine And.intro ?_ ?_); (focus ((repeat' (with_reducible apply And.intro)) <;> first | trivial | omega | rfl | (unfold inI; omega)))))
    refine AW.loop (fun s => ∃ k : Nat, k ≤ 256 ∧ s = st6b a b i 256 k) (fun s => (256 - slotN s 11).toNat) (s0 := st6b a b i 256 0) ?_ ⟨0, by omega, rfl⟩ ?_
    · simp only [st6b]; exact (Sub.same (by first | exact Nat.zero_le _ | exact Nat.le_refl _ | decide | omega) rfl rfl (by simp) (by simp [lab, labL, ren, renL, look_cons, renL_bys, labL_bys, renL_mapu8, labL_mapu8]) (by simp [labO, renO, lab, labL, ren, renL, look_cons, renL_bys, labL_bys, renL_mapu8, labL_mapu8]))
    rintro s ⟨k, hk, rfl⟩
    simp only [st6b]
    repeat (first | simp only [go_sem, Nat.reduceLT, Nat.reduceEqDiff, reduceIte, Int.reduceEq, Int.reduceLE, Int.reduceLT, Nat.reduceMul, Nat.reduceAdd, Nat.reduceSub, Int.reduceNeg, Int.reduceAdd, Int.reduceMul, Int.reduceSub, Int.reduceToNat, Nat.reduceLeDiff, Nat.reduceDiv, Int.reduceDiv, reduceCtorEq] | refine AW.seq ?_ | refine AW.block ?_ | refine AW.scope ?_ | refine AW.cond_tt rfl ?_ | refine AW.cond_ff rfl ?_ | refine AW.label ?_ | refine AW.skip ?_ | refine AW.ret ?_ | refine AW.exit ?_ | refine AW.region ?_ | refine AW.draw (by kernel_rfl) (by kernel_rfl) ?_ | ((with_reducible refine And.intro ?_ ?_); (focus ((repeat' (with_reducible apply And.intro)) <;> first | trivial | omega | rfl | (unfold inI; omega)))))
    refine AW.cond_dec rfl (fun h3 => ?_) (fun h3 => ?_)
    · have hb3 := bitS_nat (turnS a i.toNat) k (by omega)
      have hb4 := bitS_nat a k (by omega)
      have heq : (¬ (bitN (turnS a i.toNat) k : Int) = (bitN a k : Int)) = ((k : Int) = (i.toNat : Int)) := by
        have := turn_bit ha (i := i.toNat) (k := k) (by omega) (by omega)
        apply propext; constructor
        · intro h; have := this.1 (by omega); omega
        · intro h; have := this.2 (by omega); omega
      repeat (first | simp only [go_sem, Nat.reduceLT, Nat.reduceEqDiff, reduceIte, Int.reduceEq, Int.reduceLE, Int.reduceLT, Nat.reduceMul, Nat.reduceAdd, Nat.reduceSub, Int.reduceNeg, Int.reduceAdd, Int.reduceMul, Int.reduceSub, Int.reduceToNat, Nat.reduceLeDiff, Nat.reduceDiv, Int.reduceDiv, reduceCtorEq, List.length_map, List.length_set, List.length_replicate, List.length_drop, List.length_take, List.length_append, List.drop_zero, List.take_of_length_le, Nat.le_refl, Nat.sub_zero, splice_all, row_u8, splice_u8, wrap_u64c, ha, hb, hT, hsp, eq_self, beq_self_eq_true] | refine AW.seq ?_ | refine AW.block ?_ | refine AW.scope ?_ | refine AW.cond_tt rfl ?_ | refine AW.cond_ff rfl ?_ | refine AW.label ?_ | refine AW.skip ?_ | refine AW.ret ?_ | refine AW.exit ?_ | refine AW.region ?_ | refine AW.draw (by kernel_rfl) (by kernel_rfl) ?_ | ((with_reducible refine And.intro ?_ ?_); (focus ((repeat' (with_reducible apply And.intro)) <;> first | trivial | omega | rfl | (unfold inI; omega)))))
      refine CallXE.flat (f18 (turnS a i.toNat) hT k (by unfold inI; omega)) (by simp only [List.map_cons, List.map_nil, frz_sl, frz_agg8, frz_vv]) rfl (by rfl) ?_
      repeat (first | simp only [go_sem, Nat.reduceLT, Nat.reduceEqDiff, reduceIte, Int.reduceEq, Int.reduceLE, Int.reduceLT, Nat.reduceMul, Nat.reduceAdd, Nat.reduceSub, Int.reduceNeg, Int.reduceAdd, Int.reduceMul, Int.reduceSub, Int.reduceToNat, Nat.reduceLeDiff, Nat.reduceDiv, Int.reduceDiv, reduceCtorEq, List.length_map, List.length_set, List.length_replicate, List.length_drop, List.length_take, List.length_append, List.drop_zero, List.take_of_length_le, Nat.le_refl, Nat.sub_zero, splice_all, row_u8, splice_u8, wrap_u64c, ha, hb, hT, hsp, eq_self, beq_self_eq_true] | refine AW.seq ?_ | refine AW.block ?_ | refine AW.scope ?_ | refine AW.cond_tt rfl ?_ | refine AW.cond_ff rfl ?_ | refine AW.label ?_ | refine AW.skip ?_ | refine AW.ret ?_ | refine AW.exit ?_ | refine AW.region ?_ | refine AW.draw (by kernel_rfl) (by kernel_rfl) ?_ | ((with_reducible refine And.intro ?_ ?_); (focus ((repeat' (with_reducible apply And.intro)) <;> first | trivial | omega | rfl | (unfold inI; omega)))))
      refine CallXE.flat (f18 a ha k (by unfold inI; omega)) (by simp only [List.map_cons, List.map_nil, frz_sl, frz_agg8, frz_vv]) rfl (by rfl) ?_
      repeat (first | simp only [go_sem, Nat.reduceLT, Nat.reduceEqDiff, reduceIte, Int.reduceEq, Int.reduceLE, Int.reduceLT, Nat.reduceMul, Nat.reduceAdd, Nat.reduceSub, Int.reduceNeg, Int.reduceAdd, Int.reduceMul, Int.reduceSub, Int.reduceToNat, Nat.reduceLeDiff, Nat.reduceDiv, Int.reduceDiv, reduceCtorEq, List.length_map, List.length_set, List.length_replicate, List.length_drop, List.length_take, List.length_append, List.drop_zero, List.take_of_length_le, Nat.le_refl, Nat.sub_zero, splice_all, row_u8, splice_u8, wrap_u64c, ha, hb, hT, hsp, eq_self, beq_self_eq_true, hb3, hb4, heq, bne_self_eq_false] | refine AW.seq ?_ | refine AW.block ?_ | refine AW.scope ?_ | refine AW.cond_tt rfl ?_ | refine AW.cond_ff rfl ?_ | refine AW.label ?_ | refine AW.skip ?_ | refine AW.ret ?_ | refine AW.exit ?_ | refine AW.region ?_ | refine AW.draw (by kernel_rfl) (by kernel_rfl) ?_ | ((with_reducible refine And.intro ?_ ?_); (focus ((repeat' (with_reducible apply And.intro)) <;> first | trivial | omega | rfl | (unfold inI; omega)))))
      rw [Qof_lp]
      refine ⟨st6b a b i 256 (k + 1), ?_, ⟨k + 1, by omega, rfl⟩, ?_⟩
      · simp only [st6b]; exact (Sub.same (by first | exact Nat.zero_le _ | exact Nat.le_refl _ | decide | omega) rfl rfl (by simp) (by simp [lab, labL, ren, renL, look_cons, renL_bys, labL_bys, renL_mapu8, labL_mapu8]) (by simp [labO, renO, lab, labL, ren, renL, look_cons, renL_bys, labL_bys, renL_mapu8, labL_mapu8]))
      · simp [slotN, st6b, look_cons]; omega
    · repeat (first | simp only [go_sem, Nat.reduceLT, Nat.reduceEqDiff, reduceIte, Int.reduceEq, Int.reduceLE, Int.reduceLT, Nat.reduceMul, Nat.reduceAdd, Nat.reduceSub, Int.reduceNeg, Int.reduceAdd, Int.reduceMul, Int.reduceSub, Int.reduceToNat, Nat.reduceLeDiff, Nat.reduceDiv, Int.reduceDiv, reduceCtorEq, List.length_map, List.length_set, List.length_replicate, List.length_drop, List.length_take, List.length_append, List.drop_zero, List.take_of_length_le, Nat.le_refl, Nat.sub_zero, splice_all, row_u8, splice_u8, wrap_u64c, ha, hb, hT, hsp, eq_self, beq_self_eq_true, hc0', hj256, hanti] | refine AW.seq ?_ | refine AW.block ?_ | refine AW.scope ?_ | refine AW.cond_tt rfl ?_ | refine AW.cond_ff rfl ?_ | refine AW.label ?_ | refine AW.skip ?_ | refine AW.ret ?_ | refine AW.exit ?_ | refine AW.region ?_ | refine AW.draw (by kernel_rfl) (by kernel_rfl) ?_ | ((with_reducible refine And.intro ?_ ?_); (focus ((repeat' (with_reducible apply And.intro)) <;> first | trivial | omega | rfl | (unfold inI; omega)))))
      refine CallXE.flat (f20 (turnS a i.toNat) hT i.toNat (by unfold inI; omega)) (by simp only [List.map_cons, List.map_nil, frz_sl, frz_agg8, frz_vv]) (flat_agg8 _) (by rfl) ?_
      repeat (first | simp only [go_sem, Nat.reduceLT, Nat.reduceEqDiff, reduceIte, Int.reduceEq, Int.reduceLE, Int.reduceLT, Nat.reduceMul, Nat.reduceAdd, Nat.reduceSub, Int.reduceNeg, Int.reduceAdd, Int.reduceMul, Int.reduceSub, Int.reduceToNat, Nat.reduceLeDiff, Nat.reduceDiv, Int.reduceDiv, reduceCtorEq, List.length_map, List.length_set, List.length_replicate, List.length_drop, List.length_take, List.length_append, List.drop_zero, List.take_of_length_le, Nat.le_refl, Nat.sub_zero, splice_all, row_u8, splice_u8, wrap_u64c, ha, hb, hT, hsp, eq_self, beq_self_eq_true, hc0', hj256, hanti, htt] | refine AW.seq ?_ | refine AW.block ?_ | refine AW.scope ?_ | refine AW.cond_tt rfl ?_ | refine AW.cond_ff rfl ?_ | refine AW.label ?_ | refine AW.skip ?_ | refine AW.ret ?_ | refine AW.exit ?_ | refine AW.region ?_ | refine AW.draw (by kernel_rfl) (by kernel_rfl) ?_ | ((with_reducible refine And.intro ?_ ?_); (focus ((repeat' (with_reducible apply And.intro)) <;> first | trivial | omega | rfl | (unfold inI; omega)))))
      refine CallXE.flat (f22 b a hb ha) (by simp only [List.map_cons, List.map_nil, frz_sl, frz_agg8, frz_vv]) rfl (by rfl) ?_
      repeat (first | simp only [go_sem, Nat.reduceLT, Nat.reduceEqDiff, reduceIte, Int.reduceEq, Int.reduceLE, Int.reduceLT, Nat.reduceMul, Nat.reduceAdd, Nat.reduceSub, Int.reduceNeg, Int.reduceAdd, Int.reduceMul, Int.reduceSub, Int.reduceToNat, Nat.reduceLeDiff, Nat.reduceDiv, Int.reduceDiv, reduceCtorEq, List.length_map, List.length_set, List.length_replicate, List.length_drop, List.length_take, List.length_append, List.drop_zero, List.take_of_length_le, Nat.le_refl, Nat.sub_zero, splice_all, row_u8, splice_u8, wrap_u64c, ha, hb, hT, hsp, eq_self, beq_self_eq_true, hc0', hj256, hanti] | refine AW.seq ?_ | refine AW.block ?_ | refine AW.scope ?_ | refine AW.cond_tt rfl ?_ | refine AW.cond_ff rfl ?_ | refine AW.label ?_ | refine AW.skip ?_ | refine AW.ret ?_ | refine AW.exit ?_ | refine AW.region ?_ | refine AW.draw (by kernel_rfl) (by kernel_rfl) ?_ | ((with_reducible refine And.intro ?_ ?_); (focus ((repeat' (with_reducible apply And.intro)) <;> first | trivial | omega | rfl | (unfold inI; omega)))))
      exact Wk.refl _
end Go.Proofs.Ytapjkdmdckfjbaa

namespace Go.Proofs.Ytapjkdmdckfjbaa
open Go Go.Eng Go.Proofs
set_option maxRecDepth 100000
set_option maxHeartbeats 4000000
set_option linter.unusedSimpArgs false
set_option linter.unusedVariables false
theorem shl_or (n : UInt64) (x : UInt8) : shl64 n 8 ||| x.toUInt64 = n * 256 + x.toUInt64 := by
  have hx := x.toNat_lt
  have hs : (shl64 n 8).toNat = n.toNat * 256 % 2 ^ 64 := by
    show (n.toBitVec <<< 8).toNat = _
    rw [BitVec.toNat_shiftLeft, Nat.shiftLeft_eq]; rfl
  apply UInt64.toNat_inj.1
  rw [UInt64.toNat_or, UInt64.toNat_add, UInt64.toNat_mul, UInt8.toNat_toUInt64, hs, show (256 : UInt64).toNat = 256 from rfl]
  have e : n.toNat * 256 % 2 ^ 64 = (n.toNat % 2 ^ 56) <<< 8 := by rw [Nat.shiftLeft_eq]; omega
  rw [e, ← Nat.shiftLeft_add_eq_or_of_lt (by simpa using hx), Nat.shiftLeft_eq]
  omega
theorem takeM_eq (b : List UInt8) (size : Int) : takeM b size = takeN b size := by
  unfold takeM takeN
  have : takeG = takeF := by
    funext l
    unfold takeG takeF
    congr 1
    funext n x
    exact (shl_or n x).symm
  rw [this]
theorem textsO_length : ∀ (n : Nat) (l : List UInt8) (r : List (List UInt8)), l.length ≤ n → textsO l = some r → r.length ≤ l.length
  | n, l, r, hn, h => by
    by_cases h0 : l.length = 0
    · rw [textsO_nil h0] at h; cases h; simp
    · by_cases h1 : l.length < 2 + txN l
      · rw [textsO_none h0 h1] at h; cases h
      · rw [textsO_some h0 h1] at h
        cases hr : textsO (l.drop (2 + txN l)) with
        | none => rw [hr] at h; cases h
        | some r' =>
          rw [hr] at h
          cases h
          cases n with
          | zero => omega
          | succ n =>
            have := textsO_length n (l.drop (2 + txN l)) r' (by rw [List.length_drop]; omega) hr
            rw [List.length_drop] at this
            simp only [List.length_cons]; omega
theorem textsS_length (b : List UInt8) : (textsS b).length ≤ b.length := by
  unfold textsS
  cases h : textsO b with
  | none => simp
  | some r => exact textsO_length b.length b r (Nat.le_refl _) h
theorem f3 (b : List UInt8) (n : UInt64) (size : Int) (hs : inI size) (t : List UInt8) : AFun Try.prog 3 [.sl 1 (bys b) b.length none, u64 n, int size, .sl 1 (bys t) t.length none] (boo true) := by
  refine AFun.enterW Try.func3 rfl Try.call3 (by simp [Try.ntmps3]) fun γ1 => ?_
  simp only [frameOf, Try.ntmps3]
  repeat (first | simp only [go_sem, Nat.reduceLT, Nat.reduceEqDiff, reduceIte, Int.reduceEq, Int.reduceLE, Int.reduceLT, Nat.reduceMul, Nat.reduceAdd, Nat.reduceSub, Int.reduceNeg, Int.reduceAdd, Int.reduceMul, Int.reduceSub, Int.reduceToNat, Nat.reduceLeDiff, Nat.reduceDiv, Int.reduceDiv, reduceCtorEq] | refine AW.seq ?_ | refine AW.block ?_ | refine AW.scope ?_ | refine AW.cond_tt rfl ?_ | refine AW.cond_ff rfl ?_ | refine AW.label ?_ | refine AW.skip ?_ | refine AW.ret ?_ | refine AW.exit ?_ | refine AW.region ?_ | refine AW.draw (by kernel_rfl) (by kernel_rfl) ?_ | ((with_reducible refine And.intro ?_ ?_); (focus ((repeat' (with_reducible apply And.intro)) <;> first | trivial | omega | rfl | (unfold inI; omega)))))
  refine CallE.flat f8 rfl rfl (by rfl) ?_
  repeat (first | simp only [go_sem, Nat.reduceLT, Nat.reduceEqDiff, reduceIte, Int.reduceEq, Int.reduceLE, Int.reduceLT, Nat.reduceMul, Nat.reduceAdd, Nat.reduceSub, Int.reduceNeg, Int.reduceAdd, Int.reduceMul, Int.reduceSub, Int.reduceToNat, Nat.reduceLeDiff, Nat.reduceDiv, Int.reduceDiv, reduceCtorEq] | refine AW.seq ?_ | refine AW.block ?_ | refine AW.scope ?_ | refine AW.cond_tt rfl ?_ | refine AW.cond_ff rfl ?_ | refine AW.label ?_ | refine AW.skip ?_ | refine AW.ret ?_ | refine AW.exit ?_ | refine AW.region ?_ | refine AW.draw (by kernel_rfl) (by kernel_rfl) ?_ | ((with_reducible refine And.intro ?_ ?_); (focus ((repeat' (with_reducible apply And.intro)) <;> first | trivial | omega | rfl | (unfold inI; omega)))))
  refine exG_decf (fun h1 => ?_) (fun h1 => ?_)
  · repeat (first | simp only [go_sem, Nat.reduceLT, Nat.reduceEqDiff, reduceIte, Int.reduceEq, Int.reduceLE, Int.reduceLT, Nat.reduceMul, Nat.reduceAdd, Nat.reduceSub, Int.reduceNeg, Int.reduceAdd, Int.reduceMul, Int.reduceSub, Int.reduceToNat, Nat.reduceLeDiff, Nat.reduceDiv, Int.reduceDiv, reduceCtorEq] | refine AW.seq ?_ | refine AW.block ?_ | refine AW.scope ?_ | refine AW.cond_tt rfl ?_ | refine AW.cond_ff rfl ?_ | refine AW.label ?_ | refine AW.skip ?_ | refine AW.ret ?_ | refine AW.exit ?_ | refine AW.region ?_ | refine AW.draw (by kernel_rfl) (by kernel_rfl) ?_ | ((with_reducible refine And.intro ?_ ?_); (focus ((repeat' (with_reducible apply And.intro)) <;> first | trivial | omega | rfl | (unfold inI; omega)))))
    refine AW.cond_dec rfl (fun h2 => ?_) (fun h2 => ?_)
    · repeat (first | simp only [go_sem, Nat.reduceLT, Nat.reduceEqDiff, reduceIte, Int.reduceEq, Int.reduceLE, Int.reduceLT, Nat.reduceMul, Nat.reduceAdd, Nat.reduceSub, Int.reduceNeg, Int.reduceAdd, Int.reduceMul, Int.reduceSub, Int.reduceToNat, Nat.reduceLeDiff, Nat.reduceDiv, Int.reduceDiv, reduceCtorEq] | refine AW.seq ?_ | refine AW.block ?_ | refine AW.scope ?_ | refine AW.cond_tt rfl ?_ | refine AW.cond_ff rfl ?_ | refine AW.label ?_ | refine AW.skip ?_ | refine AW.ret ?_ | refine AW.exit ?_ | refine AW.region ?_ | refine AW.draw (by kernel_rfl) (by kernel_rfl) ?_ | ((with_reducible refine And.intro ?_ ?_); (focus ((repeat' (with_reducible apply And.intro)) <;> first | trivial | omega | rfl | (unfold inI; omega)))))
      exact Wk.refl _
    · have hb : b.length ≤ 1000000 := by omega
      have ht : t.length ≤ 1000000 := by omega
      repeat (first | simp only [go_sem, Nat.reduceLT, Nat.reduceEqDiff, reduceIte, Int.reduceEq, Int.reduceLE, Int.reduceLT, Nat.reduceMul, Nat.reduceAdd, Nat.reduceSub, Int.reduceNeg, Int.reduceAdd, Int.reduceMul, Int.reduceSub, Int.reduceToNat, Nat.reduceLeDiff, Nat.reduceDiv, Int.reduceDiv, reduceCtorEq] | refine AW.seq ?_ | refine AW.block ?_ | refine AW.scope ?_ | refine AW.cond_tt rfl ?_ | refine AW.cond_ff rfl ?_ | refine AW.label ?_ | refine AW.skip ?_ | refine AW.ret ?_ | refine AW.exit ?_ | refine AW.region ?_ | refine AW.draw (by kernel_rfl) (by kernel_rfl) ?_ | ((with_reducible refine And.intro ?_ ?_); (focus ((repeat' (with_reducible apply And.intro)) <;> first | trivial | omega | rfl | (unfold inI; omega)))))
      refine CallE.mem (f9 b hb n size hs) rfl (by simp [bor]) (by rfl) ?_
      repeat (first | simp only [go_sem, Nat.reduceLT, Nat.reduceEqDiff, reduceIte, Int.reduceEq, Int.reduceLE, Int.reduceLT, Nat.reduceMul, Nat.reduceAdd, Nat.reduceSub, Int.reduceNeg, Int.reduceAdd, Int.reduceMul, Int.reduceSub, Int.reduceToNat, Nat.reduceLeDiff, Nat.reduceDiv, Int.reduceDiv, reduceCtorEq] | refine AW.seq ?_ | refine AW.block ?_ | refine AW.scope ?_ | refine AW.cond_tt rfl ?_ | refine AW.cond_ff rfl ?_ | refine AW.label ?_ | refine AW.skip ?_ | refine AW.ret ?_ | refine AW.exit ?_ | refine AW.region ?_ | refine AW.draw (by kernel_rfl) (by kernel_rfl) ?_ | ((with_reducible refine And.intro ?_ ?_); (focus ((repeat' (with_reducible apply And.intro)) <;> first | trivial | omega | rfl | (unfold inI; omega)))))
      refine CallE.mem (f10 b hb n size hs) rfl (by simp [bor]) (by rfl) ?_
      repeat (first | simp only [go_sem, Nat.reduceLT, Nat.reduceEqDiff, reduceIte, Int.reduceEq, Int.reduceLE, Int.reduceLT, Nat.reduceMul, Nat.reduceAdd, Nat.reduceSub, Int.reduceNeg, Int.reduceAdd, Int.reduceMul, Int.reduceSub, Int.reduceToNat, Nat.reduceLeDiff, Nat.reduceDiv, Int.reduceDiv, reduceCtorEq] | refine AW.seq ?_ | refine AW.block ?_ | refine AW.scope ?_ | refine AW.cond_tt rfl ?_ | refine AW.cond_ff rfl ?_ | refine AW.label ?_ | refine AW.skip ?_ | refine AW.ret ?_ | refine AW.exit ?_ | refine AW.region ?_ | refine AW.draw (by kernel_rfl) (by kernel_rfl) ?_ | ((with_reducible refine And.intro ?_ ?_); (focus ((repeat' (with_reducible apply And.intro)) <;> first | trivial | omega | rfl | (unfold inI; omega)))))
      refine CallE.mem (f11 b hb size hs) rfl (by simp [bor]) (by rfl) ?_
      repeat (first | simp only [go_sem, Nat.reduceLT, Nat.reduceEqDiff, reduceIte, Int.reduceEq, Int.reduceLE, Int.reduceLT, Nat.reduceMul, Nat.reduceAdd, Nat.reduceSub, Int.reduceNeg, Int.reduceAdd, Int.reduceMul, Int.reduceSub, Int.reduceToNat, Nat.reduceLeDiff, Nat.reduceDiv, Int.reduceDiv, reduceCtorEq] | refine AW.seq ?_ | refine AW.block ?_ | refine AW.scope ?_ | refine AW.cond_tt rfl ?_ | refine AW.cond_ff rfl ?_ | refine AW.label ?_ | refine AW.skip ?_ | refine AW.ret ?_ | refine AW.exit ?_ | refine AW.region ?_ | refine AW.draw (by kernel_rfl) (by kernel_rfl) ?_ | ((with_reducible refine And.intro ?_ ?_); (focus ((repeat' (with_reducible apply And.intro)) <;> first | trivial | omega | rfl | (unfold inI; omega)))))
      refine CallE.mem (f12 b hb size hs) rfl (by simp [bor]) (by rfl) ?_
      repeat (first | simp only [go_sem, Nat.reduceLT, Nat.reduceEqDiff, reduceIte, Int.reduceEq, Int.reduceLE, Int.reduceLT, Nat.reduceMul, Nat.reduceAdd, Nat.reduceSub, Int.reduceNeg, Int.reduceAdd, Int.reduceMul, Int.reduceSub, Int.reduceToNat, Nat.reduceLeDiff, Nat.reduceDiv, Int.reduceDiv, reduceCtorEq, takeM_eq] | refine AW.seq ?_ | refine AW.block ?_ | refine AW.scope ?_ | refine AW.cond_tt rfl ?_ | refine AW.cond_ff rfl ?_ | refine AW.label ?_ | refine AW.skip ?_ | refine AW.ret ?_ | refine AW.exit ?_ | refine AW.region ?_ | refine AW.draw (by kernel_rfl) (by kernel_rfl) ?_ | ((with_reducible refine And.intro ?_ ?_); (focus ((repeat' (with_reducible apply And.intro)) <;> first | trivial | omega | rfl | (unfold inI; omega)))))
      refine CallE.mem (f13 b t hb ht) rfl (by simp [bor]) (by rfl) ?_
      repeat (first | simp only [go_sem, Nat.reduceLT, Nat.reduceEqDiff, reduceIte, Int.reduceEq, Int.reduceLE, Int.reduceLT, Nat.reduceMul, Nat.reduceAdd, Nat.reduceSub, Int.reduceNeg, Int.reduceAdd, Int.reduceMul, Int.reduceSub, Int.reduceToNat, Nat.reduceLeDiff, Nat.reduceDiv, Int.reduceDiv, reduceCtorEq] | refine AW.seq ?_ | refine AW.block ?_ | refine AW.scope ?_ | refine AW.cond_tt rfl ?_ | refine AW.cond_ff rfl ?_ | refine AW.label ?_ | refine AW.skip ?_ | refine AW.ret ?_ | refine AW.exit ?_ | refine AW.region ?_ | refine AW.draw (by kernel_rfl) (by kernel_rfl) ?_ | ((with_reducible refine And.intro ?_ ?_); (focus ((repeat' (with_reducible apply And.intro)) <;> first | trivial | omega | rfl | (unfold inI; omega)))))
      refine CallE.mem (f14 b t hb ht) rfl (by simp [bor]) (by rfl) ?_
      repeat (first | simp only [go_sem, Nat.reduceLT, Nat.reduceEqDiff, reduceIte, Int.reduceEq, Int.reduceLE, Int.reduceLT, Nat.reduceMul, Nat.reduceAdd, Nat.reduceSub, Int.reduceNeg, Int.reduceAdd, Int.reduceMul, Int.reduceSub, Int.reduceToNat, Nat.reduceLeDiff, Nat.reduceDiv, Int.reduceDiv, reduceCtorEq] | refine AW.seq ?_ | refine AW.block ?_ | refine AW.scope ?_ | refine AW.cond_tt rfl ?_ | refine AW.cond_ff rfl ?_ | refine AW.label ?_ | refine AW.skip ?_ | refine AW.ret ?_ | refine AW.exit ?_ | refine AW.region ?_ | refine AW.draw (by kernel_rfl) (by kernel_rfl) ?_ | ((with_reducible refine And.intro ?_ ?_); (focus ((repeat' (with_reducible apply And.intro)) <;> first | trivial | omega | rfl | (unfold inI; omega)))))
      refine CallE.mem (f15 b hb) rfl (by simp [bor]) (by rfl) ?_
      repeat (first | simp only [go_sem, Nat.reduceLT, Nat.reduceEqDiff, reduceIte, Int.reduceEq, Int.reduceLE, Int.reduceLT, Nat.reduceMul, Nat.reduceAdd, Nat.reduceSub, Int.reduceNeg, Int.reduceAdd, Int.reduceMul, Int.reduceSub, Int.reduceToNat, Nat.reduceLeDiff, Nat.reduceDiv, Int.reduceDiv, reduceCtorEq] | refine AW.seq ?_ | refine AW.block ?_ | refine AW.scope ?_ | refine AW.cond_tt rfl ?_ | refine AW.cond_ff rfl ?_ | refine AW.label ?_ | refine AW.skip ?_ | refine AW.ret ?_ | refine AW.exit ?_ | refine AW.region ?_ | refine AW.draw (by kernel_rfl) (by kernel_rfl) ?_ | ((with_reducible refine And.intro ?_ ?_); (focus ((repeat' (with_reducible apply And.intro)) <;> first | trivial | omega | rfl | (unfold inI; omega)))))
      refine CallE.mem (f16 b hb) rfl (by simp [bor]) (by rfl) ?_
      repeat (first | simp only [go_sem, Nat.reduceLT, Nat.reduceEqDiff, reduceIte, Int.reduceEq, Int.reduceLE, Int.reduceLT, Nat.reduceMul, Nat.reduceAdd, Nat.reduceSub, Int.reduceNeg, Int.reduceAdd, Int.reduceMul, Int.reduceSub, Int.reduceToNat, Nat.reduceLeDiff, Nat.reduceDiv, Int.reduceDiv, reduceCtorEq, bytesA_bys, bytesOk_bys, eq_self] | refine AW.seq ?_ | refine AW.block ?_ | refine AW.scope ?_ | refine AW.cond_tt rfl ?_ | refine AW.cond_ff rfl ?_ | refine AW.label ?_ | refine AW.skip ?_ | refine AW.ret ?_ | refine AW.exit ?_ | refine AW.region ?_ | refine AW.draw (by kernel_rfl) (by kernel_rfl) ?_ | ((with_reducible refine And.intro ?_ ?_); (focus ((repeat' (with_reducible apply And.intro)) <;> first | trivial | omega | rfl | (unfold inI; omega)))))
      refine CallE.mem (f17 (textsS b) (textsS b) (by have := textsS_length b; omega)) rfl (by simp [bor]) (by rfl) ?_
      repeat (first | simp only [go_sem, Nat.reduceLT, Nat.reduceEqDiff, reduceIte, Int.reduceEq, Int.reduceLE, Int.reduceLT, Nat.reduceMul, Nat.reduceAdd, Nat.reduceSub, Int.reduceNeg, Int.reduceAdd, Int.reduceMul, Int.reduceSub, Int.reduceToNat, Nat.reduceLeDiff, Nat.reduceDiv, Int.reduceDiv, reduceCtorEq, eq_self] | refine AW.seq ?_ | refine AW.block ?_ | refine AW.scope ?_ | refine AW.cond_tt rfl ?_ | refine AW.cond_ff rfl ?_ | refine AW.label ?_ | refine AW.skip ?_ | refine AW.ret ?_ | refine AW.exit ?_ | refine AW.region ?_ | refine AW.draw (by kernel_rfl) (by kernel_rfl) ?_ | ((with_reducible refine And.intro ?_ ?_); (focus ((repeat' (with_reducible apply And.intro)) <;> first | trivial | omega | rfl | (unfold inI; omega)))))
      exact Wk.refl _
  · repeat (first | simp only [go_sem, Nat.reduceLT, Nat.reduceEqDiff, reduceIte, Int.reduceEq, Int.reduceLE, Int.reduceLT, Nat.reduceMul, Nat.reduceAdd, Nat.reduceSub, Int.reduceNeg, Int.reduceAdd, Int.reduceMul, Int.reduceSub, Int.reduceToNat, Nat.reduceLeDiff, Nat.reduceDiv, Int.reduceDiv, reduceCtorEq] | refine AW.seq ?_ | refine AW.block ?_ | refine AW.scope ?_ | refine AW.cond_tt rfl ?_ | refine AW.cond_ff rfl ?_ | refine AW.label ?_ | refine AW.skip ?_ | refine AW.ret ?_ | refine AW.exit ?_ | refine AW.region ?_ | refine AW.draw (by kernel_rfl) (by kernel_rfl) ?_ | ((with_reducible refine And.intro ?_ ?_); (focus ((repeat' (with_reducible apply And.intro)) <;> first | trivial | omega | rfl | (unfold inI; omega)))))
    exact Wk.refl _
end Go.Proofs.Ytapjkdmdckfjbaa

namespace Go.Proofs.Ytapjkdmdckfjbaa
open Go Go.Eng Go.Proofs
set_option maxRecDepth 100000
set_option maxHeartbeats 4000000
set_option linter.unusedSimpArgs false
set_option linter.unusedVariables false
theorem takeF_app (a : List UInt8) (x : UInt8) : takeF (a ++ [x]) = takeF a * 256 + x.toUInt64 := by
  simp only [takeF, List.foldl_append, List.foldl_cons, List.foldl_nil]
  exact shl_or _ _
theorem takeF_bigE (n : UInt64) : ∀ j, j ≤ 8 → (takeF (bigE n 8 j)).toNat = n.toNat / 2 ^ (8 * (8 - j))
  | 0, _ => by
    have := n.toNat_lt
    simp only [bigE, List.range_zero, List.map_nil, takeF, List.foldl_nil]
    rw [show 2 ^ (8 * (8 - 0)) = 2 ^ 64 from rfl, Nat.div_eq_of_lt this]; rfl
  | j + 1, h => by
    have ih := takeF_bigE n j (by omega)
    have hn := n.toNat_lt
    have e1 : (8 * (8 - 1 - (j : Int))).toNat = 8 * (7 - j) := by omega
    have e2 : 8 * (8 - (j + 1)) = 8 * (7 - j) := by omega
    have e3 : 2 ^ (8 * (8 - j)) = 2 ^ (8 * (7 - j)) * 256 := by rw [show 8 * (8 - j) = 8 * (7 - j) + 8 by omega, Nat.pow_add]
    have hle : n.toNat / 2 ^ (8 * (7 - j)) ≤ n.toNat := Nat.div_le_self _ _
    rw [bigE_succ, takeF_app, UInt64.toNat_add, UInt64.toNat_mul, ih, e1, e2, e3, UInt8.toNat_toUInt64, UInt64.toNat_toUInt8, shr64_toNat, ← Nat.div_div_eq_div_mul, show (256 : UInt64).toNat = 256 from rfl]
    omega
theorem back_n (n : UInt64) (r : List UInt8) : takeN (bigE n 8 8 ++ r) 8 = n := by
  have hb : ¬ takeBad (bigE n 8 8 ++ r) 8 := by unfold takeBad; rw [List.length_append, bigE_length]; omega
  rw [takeN, if_neg hb, show (8 : Int).toNat = (bigE n 8 8).length from (bigE_length n 8 8).symm, List.take_left]
  apply UInt64.toNat_inj.1
  rw [takeF_bigE n 8 (Nat.le_refl _)]
  simp
theorem back_r (n : UInt64) (r : List UInt8) : takeR (bigE n 8 8 ++ r) 8 = r := by
  have hb : ¬ takeBad (bigE n 8 8 ++ r) 8 := by unfold takeBad; rw [List.length_append, bigE_length]; omega
  rw [takeR, if_neg hb, show (8 : Int).toNat = (bigE n 8 8).length from (bigE_length n 8 8).symm, List.drop_left]
theorem back_e (n : UInt64) (r : List UInt8) : takeE (bigE n 8 8 ++ r) 8 = 0 := by
  have hb : ¬ takeBad (bigE n 8 8 ++ r) 8 := by unfold takeBad; rw [List.length_append, bigE_length]; omega
  rw [takeE, if_neg hb]
theorem put8 (b : List UInt8) (n : UInt64) : putS b n 8 = b ++ bigE n 8 8 ∧ putE n 8 = 0 := by
  have hb : ¬ putBad n 8 := by unfold putBad; omega
  exact ⟨by rw [putS, if_neg hb]; rfl, by rw [putE, if_neg hb]⟩
def encT (t : List UInt8) : List UInt8 := [UInt8.ofNat (t.length / 256), UInt8.ofNat t.length] ++ t
def enc (l : List (List UInt8)) : List UInt8 := (l.map encT).flatten
theorem encT_length (t : List UInt8) : (encT t).length = t.length + 2 := by simp [encT]
theorem textsO_enc (t r : List UInt8) (h : t.length ≤ 300) : textsO (encT t ++ r) = (textsO r).map (t :: ·) := by
  have hx : txN (encT t ++ r) = t.length := by
    simp only [encT, List.cons_append, List.nil_append, txN, List.getD_cons_zero, List.getD_cons_succ, UInt8.toNat_ofNat']
    omega
  have hl : (encT t ++ r).length = t.length + 2 + r.length := by rw [List.length_append, encT_length]
  rw [textsO_some (by omega) (by omega), hx]
  have e1 : (encT t ++ r).drop (2 + t.length) = r := by
    rw [show 2 + t.length = (encT t).length by rw [encT_length]; omega, List.drop_left]
  have e2 : ((encT t ++ r).drop 2).take t.length = t := by
    simp [encT]
  rw [e1, e2]
theorem textsO_all : ∀ (l : List (List UInt8)), (∀ t ∈ l, t.length ≤ 300) → textsO (enc l) = some l
  | [], _ => textsO_nil rfl
  | t :: l, h => by
    have := textsO_all l fun t ht => h t (List.mem_cons_of_mem _ ht)
    rw [enc, List.map_cons, List.flatten_cons, textsO_enc t _ (h t (by simp))]
    rw [enc] at this
    rw [this]; rfl
theorem enc_length : ∀ (l : List (List UInt8)), (∀ t ∈ l, t.length ≤ 300) → (enc l).length ≤ 302 * l.length
  | [], _ => by simp [enc]
  | t :: l, h => by
    have h1 := enc_length l fun t ht => h t (List.mem_cons_of_mem _ ht)
    have h2 := h t (by simp)
    rw [enc] at h1
    rw [enc, List.map_cons, List.flatten_cons, List.length_append, encT_length, List.length_cons]
    omega
theorem enc_snoc (l : List (List UInt8)) (t : List UInt8) (h : t.length ≤ 300) : textS (enc l) t = enc (l ++ [t]) := by
  rw [textS, if_neg (by omega)]
  simp [enc, encT]
def st5 (n : UInt64) (ahead : List UInt8) (l : List (List UInt8)) (j : Nat) : S := ⟨[(14, int j), (13, .sl 1 (bys (enc (l.take j))) (enc (l.take j)).length none), (12, int 0), (11, .sl 1 (bys ahead) ahead.length none), (10, u64 n), (9, int 0), (7, boo true), (0, u64 n), (1, .sl 1 (bys ahead) ahead.length none), (2, .sl 1 (l.map tx) l.length none)], 114, [], 0, []⟩
theorem f5 (n : UInt64) (ahead : List UInt8) (l : List (List UInt8)) : AFun Try.prog 5 [u64 n, .sl 1 (bys ahead) ahead.length none, .sl 1 (l.map tx) l.length none] (boo true) := by
  have h8 : inI 8 := by unfold inI; omega
  refine AFun.enterW Try.func5 rfl Try.call5 (by simp [Try.ntmps5]) fun γ1 => ?_
  simp only [frameOf, Try.ntmps5]
  repeat (first | simp only [go_sem, Nat.reduceLT, Nat.reduceEqDiff, reduceIte, Int.reduceEq, Int.reduceLE, Int.reduceLT, Nat.reduceMul, Nat.reduceAdd, Nat.reduceSub, Int.reduceNeg, Int.reduceAdd, Int.reduceMul, Int.reduceSub, Int.reduceToNat, Nat.reduceLeDiff, Nat.reduceDiv, Int.reduceDiv, reduceCtorEq] | refine AW.seq ?_ | refine AW.block ?_ | refine AW.scope ?_ | refine AW.cond_tt rfl ?_ | refine AW.cond_ff rfl ?_ | refine AW.label ?_ | refine AW.skip ?_ | refine AW.ret ?_ | refine AW.exit ?_ | refine AW.region ?_ | refine AW.draw (by kernel_rfl) (by kernel_rfl) ?_ | ((with_reducible refine And.intro ?_ ?_); (focus ((repeat' (with_reducible apply And.intro)) <;> first | trivial | omega | rfl | (unfold inI; omega)))))
  refine CallE.flat f8 rfl rfl (by rfl) ?_
  repeat (first | simp only [go_sem, Nat.reduceLT, Nat.reduceEqDiff, reduceIte, Int.reduceEq, Int.reduceLE, Int.reduceLT, Nat.reduceMul, Nat.reduceAdd, Nat.reduceSub, Int.reduceNeg, Int.reduceAdd, Int.reduceMul, Int.reduceSub, Int.reduceToNat, Nat.reduceLeDiff, Nat.reduceDiv, Int.reduceDiv, reduceCtorEq] | refine AW.seq ?_ | refine AW.block ?_ | refine AW.scope ?_ | refine AW.cond_tt rfl ?_ | refine AW.cond_ff rfl ?_ | refine AW.label ?_ | refine AW.skip ?_ | refine AW.ret ?_ | refine AW.exit ?_ | refine AW.region ?_ | refine AW.draw (by kernel_rfl) (by kernel_rfl) ?_ | ((with_reducible refine And.intro ?_ ?_); (focus ((repeat' (with_reducible apply And.intro)) <;> first | trivial | omega | rfl | (unfold inI; omega)))))
  refine exG_decf (fun h1 => ?_) (fun h1 => ?_)
  · repeat (first | simp only [go_sem, Nat.reduceLT, Nat.reduceEqDiff, reduceIte, Int.reduceEq, Int.reduceLE, Int.reduceLT, Nat.reduceMul, Nat.reduceAdd, Nat.reduceSub, Int.reduceNeg, Int.reduceAdd, Int.reduceMul, Int.reduceSub, Int.reduceToNat, Nat.reduceLeDiff, Nat.reduceDiv, Int.reduceDiv, reduceCtorEq] | refine AW.seq ?_ | refine AW.block ?_ | refine AW.scope ?_ | refine AW.cond_tt rfl ?_ | refine AW.cond_ff rfl ?_ | refine AW.label ?_ | refine AW.skip ?_ | refine AW.ret ?_ | refine AW.exit ?_ | refine AW.region ?_ | refine AW.draw (by kernel_rfl) (by kernel_rfl) ?_ | ((with_reducible refine And.intro ?_ ?_); (focus ((repeat' (with_reducible apply And.intro)) <;> first | trivial | omega | rfl | (unfold inI; omega)))))
    refine AW.cond_dec rfl (fun h2 => ?_) (fun h2 => ?_)
    · repeat (first | simp only [go_sem, Nat.reduceLT, Nat.reduceEqDiff, reduceIte, Int.reduceEq, Int.reduceLE, Int.reduceLT, Nat.reduceMul, Nat.reduceAdd, Nat.reduceSub, Int.reduceNeg, Int.reduceAdd, Int.reduceMul, Int.reduceSub, Int.reduceToNat, Nat.reduceLeDiff, Nat.reduceDiv, Int.reduceDiv, reduceCtorEq] | refine AW.seq ?_ | refine AW.block ?_ | refine AW.scope ?_ | refine AW.cond_tt rfl ?_ | refine AW.cond_ff rfl ?_ | refine AW.label ?_ | refine AW.skip ?_ | refine AW.ret ?_ | refine AW.exit ?_ | refine AW.region ?_ | refine AW.draw (by kernel_rfl) (by kernel_rfl) ?_ | ((with_reducible refine And.intro ?_ ?_); (focus ((repeat' (with_reducible apply And.intro)) <;> first | trivial | omega | rfl | (unfold inI; omega)))))
      exact Wk.refl _
    · have hb : ahead.length ≤ 1000000 := by omega
      repeat (first | simp only [go_sem, Nat.reduceLT, Nat.reduceEqDiff, reduceIte, Int.reduceEq, Int.reduceLE, Int.reduceLT, Nat.reduceMul, Nat.reduceAdd, Nat.reduceSub, Int.reduceNeg, Int.reduceAdd, Int.reduceMul, Int.reduceSub, Int.reduceToNat, Nat.reduceLeDiff, Nat.reduceDiv, Int.reduceDiv, reduceCtorEq] | refine AW.seq ?_ | refine AW.block ?_ | refine AW.scope ?_ | refine AW.cond_tt rfl ?_ | refine AW.cond_ff rfl ?_ | refine AW.label ?_ | refine AW.skip ?_ | refine AW.ret ?_ | refine AW.exit ?_ | refine AW.region ?_ | refine AW.draw (by kernel_rfl) (by kernel_rfl) ?_ | ((with_reducible refine And.intro ?_ ?_); (focus ((repeat' (with_reducible apply And.intro)) <;> first | trivial | omega | rfl | (unfold inI; omega)))))
      refine CallE.mem (f9 ahead hb n 8 h8) rfl (by simp [bor]) (by rfl) ?_
      repeat (first | simp only [go_sem, Nat.reduceLT, Nat.reduceEqDiff, reduceIte, Int.reduceEq, Int.reduceLE, Int.reduceLT, Nat.reduceMul, Nat.reduceAdd, Nat.reduceSub, Int.reduceNeg, Int.reduceAdd, Int.reduceMul, Int.reduceSub, Int.reduceToNat, Nat.reduceLeDiff, Nat.reduceDiv, Int.reduceDiv, reduceCtorEq, (put8 ahead n).1, (put8 ahead n).2, List.length_append, bigE_length] | refine AW.seq ?_ | refine AW.block ?_ | refine AW.scope ?_ | refine AW.cond_tt rfl ?_ | refine AW.cond_ff rfl ?_ | refine AW.label ?_ | refine AW.skip ?_ | refine AW.ret ?_ | refine AW.exit ?_ | refine AW.region ?_ | refine AW.draw (by kernel_rfl) (by kernel_rfl) ?_ | ((with_reducible refine And.intro ?_ ?_); (focus ((repeat' (with_reducible apply And.intro)) <;> first | trivial | omega | rfl | (unfold inI; omega)))))
      refine AW.cond_dec rfl (fun h3 => ?_) (fun h3 => ?_)
      · exfalso; omega
      have e1 : (((ahead.length + 8 : Nat) : Int) - (ahead.length : Int)).toNat = 8 := by omega
      have e2 : (bys (ahead ++ bigE n 8 8)).drop ahead.length = bys (bigE n 8 8) := by rw [bys_drop, List.drop_left]
      have e3 : (bys (bigE n 8 8)).take 8 = bys (bigE n 8 8) := List.take_of_length_le (by rw [bys_length, bigE_length]; exact Nat.le_refl _)
      repeat (first | simp only [go_sem, Nat.reduceLT, Nat.reduceEqDiff, reduceIte, Int.reduceEq, Int.reduceLE, Int.reduceLT, Nat.reduceMul, Nat.reduceAdd, Nat.reduceSub, Int.reduceNeg, Int.reduceAdd, Int.reduceMul, Int.reduceSub, Int.reduceToNat, Nat.reduceLeDiff, Nat.reduceDiv, Int.reduceDiv, reduceCtorEq, e1, e2, e3, List.drop_left, Int.toNat_natCast] | refine AW.seq ?_ | refine AW.block ?_ | refine AW.scope ?_ | refine AW.cond_tt rfl ?_ | refine AW.cond_ff rfl ?_ | refine AW.label ?_ | refine AW.skip ?_ | refine AW.ret ?_ | refine AW.exit ?_ | refine AW.region ?_ | refine AW.draw (by kernel_rfl) (by kernel_rfl) ?_ | ((with_reducible refine And.intro ?_ ?_); (focus ((repeat' (with_reducible apply And.intro)) <;> first | trivial | omega | rfl | (unfold inI; omega)))))
      have e4 : (bigE n 8 8 ++ ahead).length = 8 + ahead.length := by rw [List.length_append, bigE_length]
      refine CallE.mem (f11 (bigE n 8 8 ++ ahead) (by omega) 8 h8) (by simp only [List.map_cons, List.map_nil, frz_sl, e4, frz_vv]) (by simp [bor]) (by rfl) ?_
      repeat (first | simp only [go_sem, Nat.reduceLT, Nat.reduceEqDiff, reduceIte, Int.reduceEq, Int.reduceLE, Int.reduceLT, Nat.reduceMul, Nat.reduceAdd, Nat.reduceSub, Int.reduceNeg, Int.reduceAdd, Int.reduceMul, Int.reduceSub, Int.reduceToNat, Nat.reduceLeDiff, Nat.reduceDiv, Int.reduceDiv, reduceCtorEq, back_n, back_r, back_e] | refine AW.seq ?_ | refine AW.block ?_ | refine AW.scope ?_ | refine AW.cond_tt rfl ?_ | refine AW.cond_ff rfl ?_ | refine AW.label ?_ | refine AW.skip ?_ | refine AW.ret ?_ | refine AW.exit ?_ | refine AW.region ?_ | refine AW.draw (by kernel_rfl) (by kernel_rfl) ?_ | ((with_reducible refine And.intro ?_ ?_); (focus ((repeat' (with_reducible apply And.intro)) <;> first | trivial | omega | rfl | (unfold inI; omega)))))
      refine AW.loop (fun s => ∃ j : Nat, j ≤ l.length ∧ (∀ t ∈ l.take j, t.length ≤ 300) ∧ s = st5 n ahead l j) (fun s => (l.length - slotN s 14).toNat) (s0 := st5 n ahead l 0) ?_ ⟨0, by omega, by simp, rfl⟩ ?_
      · refine Sub.trans (Sub.nilAt 13 1 rfl) ?_
        simp only [st5, List.take_zero, enc, List.map_nil, List.flatten_nil, List.length_nil, bys]
        exact (Sub.same (by first | exact Nat.zero_le _ | exact Nat.le_refl _ | decide | omega) rfl rfl (by simp) (by simp [lab, labL, ren, renL, look_cons, renL_tx, labL_tx, renL_mapu8, labL_mapu8]) (by simp))
      rintro s ⟨j, hj, hp, rfl⟩
      simp only [st5]
      have henc := enc_length (l.take j) hp
      have htl : (l.take j).length = j := by rw [List.length_take]; omega
      repeat (first | simp only [go_sem, Nat.reduceLT, Nat.reduceEqDiff, reduceIte, Int.reduceEq, Int.reduceLE, Int.reduceLT, Nat.reduceMul, Nat.reduceAdd, Nat.reduceSub, Int.reduceNeg, Int.reduceAdd, Int.reduceMul, Int.reduceSub, Int.reduceToNat, Nat.reduceLeDiff, Nat.reduceDiv, Int.reduceDiv, reduceCtorEq] | refine AW.seq ?_ | refine AW.block ?_ | refine AW.scope ?_ | refine AW.cond_tt rfl ?_ | refine AW.cond_ff rfl ?_ | refine AW.label ?_ | refine AW.skip ?_ | refine AW.ret ?_ | refine AW.exit ?_ | refine AW.region ?_ | refine AW.draw (by kernel_rfl) (by kernel_rfl) ?_ | ((with_reducible refine And.intro ?_ ?_); (focus ((repeat' (with_reducible apply And.intro)) <;> first | trivial | omega | rfl | (unfold inI; omega)))))
      refine AW.cond_dec rfl (fun h4 => ?_) (fun h4 => ?_)
      · have hjl : j < l.length := by omega
        repeat (first | simp only [go_sem, Nat.reduceLT, Nat.reduceEqDiff, reduceIte, Int.reduceEq, Int.reduceLE, Int.reduceLT, Nat.reduceMul, Nat.reduceAdd, Nat.reduceSub, Int.reduceNeg, Int.reduceAdd, Int.reduceMul, Int.reduceSub, Int.reduceToNat, Nat.reduceLeDiff, Nat.reduceDiv, Int.reduceDiv, reduceCtorEq, row_tx, hjl, List.length_drop, List.length_map] | refine AW.seq ?_ | refine AW.block ?_ | refine AW.scope ?_ | refine AW.cond_tt rfl ?_ | refine AW.cond_ff rfl ?_ | refine AW.label ?_ | refine AW.skip ?_ | refine AW.ret ?_ | refine AW.exit ?_ | refine AW.region ?_ | refine AW.draw (by kernel_rfl) (by kernel_rfl) ?_ | ((with_reducible refine And.intro ?_ ?_); (focus ((repeat' (with_reducible apply And.intro)) <;> first | trivial | omega | rfl | (unfold inI; omega)))))
        refine AW.cond_dec rfl (fun h5 => ?_) (fun h5 => ?_)
        · repeat (first | simp only [go_sem, Nat.reduceLT, Nat.reduceEqDiff, reduceIte, Int.reduceEq, Int.reduceLE, Int.reduceLT, Nat.reduceMul, Nat.reduceAdd, Nat.reduceSub, Int.reduceNeg, Int.reduceAdd, Int.reduceMul, Int.reduceSub, Int.reduceToNat, Nat.reduceLeDiff, Nat.reduceDiv, Int.reduceDiv, reduceCtorEq] | refine AW.seq ?_ | refine AW.block ?_ | refine AW.scope ?_ | refine AW.cond_tt rfl ?_ | refine AW.cond_ff rfl ?_ | refine AW.label ?_ | refine AW.skip ?_ | refine AW.ret ?_ | refine AW.exit ?_ | refine AW.region ?_ | refine AW.draw (by kernel_rfl) (by kernel_rfl) ?_ | ((with_reducible refine And.intro ?_ ?_); (focus ((repeat' (with_reducible apply And.intro)) <;> first | trivial | omega | rfl | (unfold inI; omega)))))
          exact Wk.refl _
        · have h6 : (l.getD j []).length ≤ 300 := by omega
          repeat (first | simp only [go_sem, Nat.reduceLT, Nat.reduceEqDiff, reduceIte, Int.reduceEq, Int.reduceLE, Int.reduceLT, Nat.reduceMul, Nat.reduceAdd, Nat.reduceSub, Int.reduceNeg, Int.reduceAdd, Int.reduceMul, Int.reduceSub, Int.reduceToNat, Nat.reduceLeDiff, Nat.reduceDiv, Int.reduceDiv, reduceCtorEq, row_tx, hjl, List.length_drop, List.length_map] | refine AW.seq ?_ | refine AW.block ?_ | refine AW.scope ?_ | refine AW.cond_tt rfl ?_ | refine AW.cond_ff rfl ?_ | refine AW.label ?_ | refine AW.skip ?_ | refine AW.ret ?_ | refine AW.exit ?_ | refine AW.region ?_ | refine AW.draw (by kernel_rfl) (by kernel_rfl) ?_ | ((with_reducible refine And.intro ?_ ?_); (focus ((repeat' (with_reducible apply And.intro)) <;> first | trivial | omega | rfl | (unfold inI; omega)))))
          refine CallE.mem (f13 (enc (l.take j)) (l.getD j []) (by omega) (by omega)) rfl (by simp [bor]) (by rfl) ?_
          have hE : textE (l.getD j []) = 0 := if_neg (by omega)
          have hS : textS (enc (l.take j)) (l.getD j []) = enc (l.take (j + 1)) := by
            rw [enc_snoc _ _ h6, List.take_succ_eq_append_getElem hjl]
            simp [List.getD_eq_getElem?_getD, hjl]
          repeat (first | simp only [go_sem, Nat.reduceLT, Nat.reduceEqDiff, reduceIte, Int.reduceEq, Int.reduceLE, Int.reduceLT, Nat.reduceMul, Nat.reduceAdd, Nat.reduceSub, Int.reduceNeg, Int.reduceAdd, Int.reduceMul, Int.reduceSub, Int.reduceToNat, Nat.reduceLeDiff, Nat.reduceDiv, Int.reduceDiv, reduceCtorEq, hE, hS] | refine AW.seq ?_ | refine AW.block ?_ | refine AW.scope ?_ | refine AW.cond_tt rfl ?_ | refine AW.cond_ff rfl ?_ | refine AW.label ?_ | refine AW.skip ?_ | refine AW.ret ?_ | refine AW.exit ?_ | refine AW.region ?_ | refine AW.draw (by kernel_rfl) (by kernel_rfl) ?_ | ((with_reducible refine And.intro ?_ ?_); (focus ((repeat' (with_reducible apply And.intro)) <;> first | trivial | omega | rfl | (unfold inI; omega)))))
          rw [Qof_lp]
          refine ⟨st5 n ahead l (j + 1), ?_, ⟨j + 1, by omega, fun t ht => ?_, rfl⟩, ?_⟩
          · simp only [st5]
            exact (Sub.same (by first | exact Nat.zero_le _ | exact Nat.le_refl _ | decide | omega) rfl rfl (by simp) (by simp [lab, labL, ren, renL, look_cons, renL_tx, labL_tx, renL_bys, labL_bys]) (by simp))
          · rw [List.take_succ_eq_append_getElem hjl, List.mem_append, List.mem_singleton] at ht
            rcases ht with ht | rfl
            · exact hp t ht
            · simpa [List.getD_eq_getElem?_getD, hjl] using h6
          · simp [slotN, st5, look_cons]; omega
      · have hj2 : j = l.length := by omega
        subst hj2
        rw [List.take_length] at hp henc
        have hT : textsO (enc l) = some l := textsO_all l hp
        repeat (first | simp only [go_sem, Nat.reduceLT, Nat.reduceEqDiff, reduceIte, Int.reduceEq, Int.reduceLE, Int.reduceLT, Nat.reduceMul, Nat.reduceAdd, Nat.reduceSub, Int.reduceNeg, Int.reduceAdd, Int.reduceMul, Int.reduceSub, Int.reduceToNat, Nat.reduceLeDiff, Nat.reduceDiv, Int.reduceDiv, reduceCtorEq, List.take_length] | refine AW.seq ?_ | refine AW.block ?_ | refine AW.scope ?_ | refine AW.cond_tt rfl ?_ | refine AW.cond_ff rfl ?_ | refine AW.label ?_ | refine AW.skip ?_ | refine AW.ret ?_ | refine AW.exit ?_ | refine AW.region ?_ | refine AW.draw (by kernel_rfl) (by kernel_rfl) ?_ | ((with_reducible refine And.intro ?_ ?_); (focus ((repeat' (with_reducible apply And.intro)) <;> first | trivial | omega | rfl | (unfold inI; omega)))))
        refine CallE.mem (f15 (enc l) (by omega)) rfl (by simp [bor]) (by rfl) ?_
        repeat (first | simp only [go_sem, Nat.reduceLT, Nat.reduceEqDiff, reduceIte, Int.reduceEq, Int.reduceLE, Int.reduceLT, Nat.reduceMul, Nat.reduceAdd, Nat.reduceSub, Int.reduceNeg, Int.reduceAdd, Int.reduceMul, Int.reduceSub, Int.reduceToNat, Nat.reduceLeDiff, Nat.reduceDiv, Int.reduceDiv, reduceCtorEq, hT, textsS, textsE, Option.getD_some, Option.isSome_some, bytesA_bys, bytesOk_bys, eq_self] | refine AW.seq ?_ | refine AW.block ?_ | refine AW.scope ?_ | refine AW.cond_tt rfl ?_ | refine AW.cond_ff rfl ?_ | refine AW.label ?_ | refine AW.skip ?_ | refine AW.ret ?_ | refine AW.exit ?_ | refine AW.region ?_ | refine AW.draw (by kernel_rfl) (by kernel_rfl) ?_ | ((with_reducible refine And.intro ?_ ?_); (focus ((repeat' (with_reducible apply And.intro)) <;> first | trivial | omega | rfl | (unfold inI; omega)))))
        refine CallE.mem (f17 l l (by omega)) rfl (by simp [bor]) (by rfl) ?_
        repeat (first | simp only [go_sem, Nat.reduceLT, Nat.reduceEqDiff, reduceIte, Int.reduceEq, Int.reduceLE, Int.reduceLT, Nat.reduceMul, Nat.reduceAdd, Nat.reduceSub, Int.reduceNeg, Int.reduceAdd, Int.reduceMul, Int.reduceSub, Int.reduceToNat, Nat.reduceLeDiff, Nat.reduceDiv, Int.reduceDiv, reduceCtorEq, eq_self] | refine AW.seq ?_ | refine AW.block ?_ | refine AW.scope ?_ | refine AW.cond_tt rfl ?_ | refine AW.cond_ff rfl ?_ | refine AW.label ?_ | refine AW.skip ?_ | refine AW.ret ?_ | refine AW.exit ?_ | refine AW.region ?_ | refine AW.draw (by kernel_rfl) (by kernel_rfl) ?_ | ((with_reducible refine And.intro ?_ ?_); (focus ((repeat' (with_reducible apply And.intro)) <;> first | trivial | omega | rfl | (unfold inI; omega)))))
        exact Wk.refl _
  · repeat (first | simp only [go_sem, Nat.reduceLT, Nat.reduceEqDiff, reduceIte, Int.reduceEq, Int.reduceLE, Int.reduceLT, Nat.reduceMul, Nat.reduceAdd, Nat.reduceSub, Int.reduceNeg, Int.reduceAdd, Int.reduceMul, Int.reduceSub, Int.reduceToNat, Nat.reduceLeDiff, Nat.reduceDiv, Int.reduceDiv, reduceCtorEq] | refine AW.seq ?_ | refine AW.block ?_ | refine AW.scope ?_ | refine AW.cond_tt rfl ?_ | refine AW.cond_ff rfl ?_ | refine AW.label ?_ | refine AW.skip ?_ | refine AW.ret ?_ | refine AW.exit ?_ | refine AW.region ?_ | refine AW.draw (by kernel_rfl) (by kernel_rfl) ?_ | ((with_reducible refine And.intro ?_ ?_); (focus ((repeat' (with_reducible apply And.intro)) <;> first | trivial | omega | rfl | (unfold inI; omega)))))
    exact Wk.refl _
end Go.Proofs.Ytapjkdmdckfjbaa
