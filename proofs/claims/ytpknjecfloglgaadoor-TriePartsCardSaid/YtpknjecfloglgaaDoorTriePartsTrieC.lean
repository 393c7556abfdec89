/- What is awake; conditions on lengths alone. -/
import Derived.Test.YtpknjecfloglgaaDoorTriePartsTrieB
import Derived.Test.YtpknjecfloglgaaDoorRows
import Derived.Test.YtpknjecfloglgaaDoorCards
import Derived.Test.YtpknjecfloglgaaDoorTie
import Derived.OpenShut
import Derived.Stop.Joined
set_option linter.unusedVariables false
set_option linter.unusedSimpArgs false
namespace Go.Proofs.YtpknjecfloglgaaDoor
open Go Go.Eng Go.Proofs
set_option maxRecDepth 100000
set_option maxHeartbeats 1000000
set_option linter.unusedSimpArgs false
set_option linter.unusedVariables false
def K1 : List UInt8 := 128 :: List.replicate 31 0
def K2 : List UInt8 := 1 :: List.replicate 31 0
def V1 : List UInt8 := 7 :: List.replicate 31 0
def X1 : Lf := K1 ++ V1
def Y1 : Lf := K2 ++ List.replicate 32 0
theorem x1_len : X1.length = 64 := by decide +kernel
theorem y1_len : Y1.length = 64 := by decide +kernel
theorem k1_len : K1.length = 32 := by decide +kernel
theorem xy64 : all64 [X1, Y1] := by intro x hx; simp at hx; rcases hx with rfl | rfl; exact x1_len; exact y1_len
theorem yx64 : all64 [Y1, X1] := by intro x hx; simp at hx; rcases hx with rfl | rfl; exact y1_len; exact x1_len
theorem x64 : all64 [X1] := by intro x hx; simp at hx; rw [hx]; exact x1_len
theorem xx64 : all64 [X1, X1] := by intro x hx; simp at hx; rw [hx]; exact x1_len
theorem n64 : all64 [] := by intro x hx; simp at hx
theorem b1 : splice (List.replicate 32 (u8 0)) 0 [u8 (UInt8.ofNat 128)] = K1.map u8 := by kernel_rfl
theorem b2 : splice (List.replicate 32 (u8 0)) 0 [u8 (UInt8.ofNat 7)] = V1.map u8 := by kernel_rfl
theorem b3 : splice (List.replicate 32 (u8 0)) 0 [u8 (UInt8.ofNat 1)] = K2.map u8 := by kernel_rfl
theorem b4 : splice (splice (List.replicate 64 (u8 0)) 0 (K1.map u8)) 32 (V1.map u8) = X1.map u8 := by kernel_rfl
theorem b5 : splice (List.replicate 64 (u8 0)) 0 (X1.map u8) = X1.map u8 := splice_all (by rw [List.length_map, x1_len, List.length_replicate])
theorem b6 : splice (List.replicate 64 (u8 0)) 0 (K2.map u8) = Y1.map u8 := by kernel_rfl
theorem b7 : List.take 64 (X1.map u8) = X1.map u8 := List.take_of_length_le (by rw [List.length_map, x1_len]; exact Nat.le_refl _)
theorem b8 : List.take 32 (X1.map u8) = K1.map u8 := by kernel_rfl
theorem d1 : tpD [] [X1, Y1] = [Y1, X1] := by decide +kernel
theorem d2 : tpE [] [X1, Y1] = 0 := by decide +kernel
theorem d3 : tpE [Y1, X1] [X1] = 131 := by decide +kernel
theorem d4 : rootE [] = 0 := by decide +kernel
theorem d5 : rootE [X1] = 0 := by decide +kernel
theorem d6 : rootE [X1, X1] = 130 := by decide +kernel
theorem d7 : partE [X1] 1 = 0 := by decide +kernel
theorem d8 : findB [Y1, X1] K1 = true := by decide +kernel
theorem d9 : findV [Y1, X1] K1 = V1 := by decide +kernel
theorem d10 : chk [Y1, X1] = true := by decide +kernel
theorem d11 : rootV tS [] = em 256 := by rw [rootV, if_pos (by decide +kernel), tS_nil]
theorem d12 : rootV tS [X1] = nodeS (em 255) (tS 255 [X1]) := by
  have h1 : [X1].takeWhile (bz 255) = [] := by decide +kernel
  have h2 : [X1].dropWhile (bz 255) = [X1] := by decide +kernel
  rw [rootV, if_pos (by decide +kernel), tS_succ (by simp), h1, h2, tS_nil]
theorem d13 : partV tS [X1] z32 1 = em 255 := by
  have h1 : [X1].filter (inPart z32 1) = [] := by decide +kernel
  rw [partV, if_pos (by decide +kernel), if_neg (by decide), show (1 : Int).toNat = 1 from rfl, h1, tS_nil]
theorem d14 : partV tS [X1] K1 1 = tS 255 [X1] := by
  have h1 : [X1].filter (inPart K1 1) = [X1] := by decide +kernel
  rw [partV, if_pos (by decide +kernel), if_neg (by decide), show (1 : Int).toNat = 1 from rfl, h1]
theorem d15 : emptyS 0 = em 256 := by
  have h : 256 - (0 : Int).toNat = 256 := rfl
  rw [emptyS, if_neg (by decide), h]
theorem d16 : emptyS 1 = em 255 := by
  have h : 256 - (1 : Int).toNat = 255 := rfl
  rw [emptyS, if_neg (by decide), h]
theorem d17 : emptyS 256 = sumOf [2] := by
  have h : 256 - (256 : Int).toNat = 0 := rfl
  rw [emptyS, if_neg (by decide), h, em]
theorem d18 : emptyS 257 = z32 := by rw [emptyS, if_pos (by decide)]
theorem l2 (a b : Lf) : lsl [a, b] = .sl 64 (a.map u8 ++ b.map u8) 2 none := by simp [lsl, bys]
theorem l1 (a : Lf) : lsl [a] = .sl 64 (a.map u8) 1 none := by simp [lsl, bys]
theorem f8 : AFun Tryd.prog 8 [] (boo true) := by
  refine AFun.enterW Tryd.func8 rfl Tryd.call8 (by simp [Tryd.ntmps8]) fun γ1 => ?_
  simp only [frameOf, Tryd.ntmps8]
  have a1 := f9 [] [X1, Y1] n64 xy64 (by decide) (by decide)
  have a2 := f9 [Y1, X1] [X1] yx64 x64 (by decide) (by decide)
  have a3 := f16 [] n64 (by decide)
  have a4 := f16 [X1] x64 (by decide)
  have a5 := f18 [X1] x64 (by decide) z32 rfl 1
  have a6 := f18 [X1] x64 (by decide) K1 k1_len 1
  have a7 := f11 [Y1, X1] yx64 (by decide) K1 k1_len
  have a8 := f16 [X1, X1] xx64 (by decide)
  rw [d1, d2] at a1
  rw [d3] at a2
  rw [d4, d11] at a3
  rw [d5, d12] at a4
  rw [d7, d13] at a5
  rw [d7, d14] at a6
  rw [d8, d9] at a7
  rw [d6] at a8
  have n0 : lsl [] = .sl 64 [] 0 none := rfl
  simp only [l2, l1, n0] at a1 a2 a3 a4 a5 a6 a7 a8
  repeat (first | simp only [go_sem, Nat.reduceLT, Nat.reduceEqDiff, reduceIte, Int.reduceEq, Int.reduceLE, Int.reduceLT, Nat.reduceMul, Nat.reduceAdd, Nat.reduceSub, Int.reduceNeg, Int.reduceAdd, Int.reduceMul, Int.reduceSub, Int.reduceToNat, Nat.reduceLeDiff, Nat.reduceDiv, Int.reduceDiv, reduceCtorEq, Option.some.injEq, exists_eq_left', List.length_map, List.length_set, List.length_replicate, List.length_drop, List.length_take, List.length_append, List.drop_zero, List.take_of_length_le, Nat.le_refl, Nat.sub_zero, splice_all, row_u8, splice_u8, wrap_u64c, b1, b2, b3, b4, b5, b6, b7, b8, x1_len, y1_len] | refine AW.seq ?_ | refine AW.block ?_ | refine AW.scope ?_ | refine AW.cond_tt rfl ?_ | refine AW.cond_ff rfl ?_ | refine AW.label ?_ | refine AW.skip ?_ | refine AW.ret ?_ | refine AW.exit ?_ | refine AW.region ?_ | refine AW.draw (by kernel_rfl) (by decide +kernel) ?_ | refine AW.drawN (by kernel_rfl) (by decide +kernel) ?_ | ((with_reducible refine And.intro ?_ ?_); (focus ((repeat' (with_reducible apply And.intro)) <;> first | (with_reducible exact OrdAt.of (by kernel_rfl)) | (with_reducible exact OrdT.of (by kernel_rfl)) | exact True.intro | (with_reducible assumption) | omega | rfl | exact Nat.le_of_ble_eq_true rfl | exact Or.inl trivial | (unfold inI; omega)))))
  refine CallE.memW a1 ⟨Wk.nil rfl rfl, Wk.refl _, trivial⟩ (by simp [bor]) (by rfl) ?_
  repeat (first | simp only [go_sem, Nat.reduceLT, Nat.reduceEqDiff, reduceIte, Int.reduceEq, Int.reduceLE, Int.reduceLT, Nat.reduceMul, Nat.reduceAdd, Nat.reduceSub, Int.reduceNeg, Int.reduceAdd, Int.reduceMul, Int.reduceSub, Int.reduceToNat, Nat.reduceLeDiff, Nat.reduceDiv, Int.reduceDiv, reduceCtorEq, Option.some.injEq, exists_eq_left', List.length_map, List.length_set, List.length_replicate, List.length_drop, List.length_take, List.length_append, List.drop_zero, List.take_of_length_le, Nat.le_refl, Nat.sub_zero, splice_all, row_u8, splice_u8, wrap_u64c, b1, b2, b3, b4, b5, b6, b7, b8, x1_len, y1_len, k1_len, z32_map, em_len, tS_len, tagS_len] | refine AW.seq ?_ | refine AW.block ?_ | refine AW.scope ?_ | refine AW.cond_tt rfl ?_ | refine AW.cond_ff rfl ?_ | refine AW.label ?_ | refine AW.skip ?_ | refine AW.ret ?_ | refine AW.exit ?_ | refine AW.region ?_ | refine AW.draw (by kernel_rfl) (by decide +kernel) ?_ | refine AW.drawN (by kernel_rfl) (by decide +kernel) ?_ | ((with_reducible refine And.intro ?_ ?_); (focus ((repeat' (with_reducible apply And.intro)) <;> first | (with_reducible exact OrdAt.of (by kernel_rfl)) | (with_reducible exact OrdT.of (by kernel_rfl)) | exact True.intro | (with_reducible assumption) | omega | rfl | exact Nat.le_of_ble_eq_true rfl | exact Or.inl trivial | (unfold inI; omega)))))
  (first | refine CallE.mem (a2) (by first | rfl | (simp only [List.map_cons, List.map_nil, frz_sl, frz_agg8, frz_agb, frz_agg32, frz_vv, frz_hv]; done) | (simp only [List.map_cons, List.map_nil, frz_sl, frz_agg8, frz_agb, frz_agg32, frz_vv, frz_hv]; rfl)) (by simp [bor, look_cons, isBox]) (by rfl) ?_ | refine CallXE.mem (a2) (by first | rfl | (simp only [List.map_cons, List.map_nil, frz_sl, frz_agg8, frz_agb, frz_agg32, frz_vv, frz_hv]; done) | (simp only [List.map_cons, List.map_nil, frz_sl, frz_agg8, frz_agb, frz_agg32, frz_vv, frz_hv]; rfl)) (by simp [bor, look_cons, isBox]) (by rfl) ?_)
  repeat (first | simp only [go_sem, Nat.reduceLT, Nat.reduceEqDiff, reduceIte, Int.reduceEq, Int.reduceLE, Int.reduceLT, Nat.reduceMul, Nat.reduceAdd, Nat.reduceSub, Int.reduceNeg, Int.reduceAdd, Int.reduceMul, Int.reduceSub, Int.reduceToNat, Nat.reduceLeDiff, Nat.reduceDiv, Int.reduceDiv, reduceCtorEq, Option.some.injEq, exists_eq_left', List.length_map, List.length_set, List.length_replicate, List.length_drop, List.length_take, List.length_append, List.drop_zero, List.take_of_length_le, Nat.le_refl, Nat.sub_zero, splice_all, row_u8, splice_u8, wrap_u64c, b1, b2, b3, b4, b5, b6, b7, b8, x1_len, y1_len, k1_len, z32_map, em_len, tS_len, tagS_len] | refine AW.seq ?_ | refine AW.block ?_ | refine AW.scope ?_ | refine AW.cond_tt rfl ?_ | refine AW.cond_ff rfl ?_ | refine AW.label ?_ | refine AW.skip ?_ | refine AW.ret ?_ | refine AW.exit ?_ | refine AW.region ?_ | refine AW.draw (by kernel_rfl) (by decide +kernel) ?_ | refine AW.drawN (by kernel_rfl) (by decide +kernel) ?_ | ((with_reducible refine And.intro ?_ ?_); (focus ((repeat' (with_reducible apply And.intro)) <;> first | (with_reducible exact OrdAt.of (by kernel_rfl)) | (with_reducible exact OrdT.of (by kernel_rfl)) | exact True.intro | (with_reducible assumption) | omega | rfl | exact Nat.le_of_ble_eq_true rfl | exact Or.inl trivial | (unfold inI; omega)))))
  refine CallE.memW a3 ⟨Wk.nil rfl rfl, trivial⟩ (by simp [bor]) (by rfl) ?_
  repeat (first | simp only [go_sem, Nat.reduceLT, Nat.reduceEqDiff, reduceIte, Int.reduceEq, Int.reduceLE, Int.reduceLT, Nat.reduceMul, Nat.reduceAdd, Nat.reduceSub, Int.reduceNeg, Int.reduceAdd, Int.reduceMul, Int.reduceSub, Int.reduceToNat, Nat.reduceLeDiff, Nat.reduceDiv, Int.reduceDiv, reduceCtorEq, Option.some.injEq, exists_eq_left', List.length_map, List.length_set, List.length_replicate, List.length_drop, List.length_take, List.length_append, List.drop_zero, List.take_of_length_le, Nat.le_refl, Nat.sub_zero, splice_all, row_u8, splice_u8, wrap_u64c, b1, b2, b3, b4, b5, b6, b7, b8, x1_len, y1_len, k1_len, z32_map, em_len, tS_len, tagS_len] | refine AW.seq ?_ | refine AW.block ?_ | refine AW.scope ?_ | refine AW.cond_tt rfl ?_ | refine AW.cond_ff rfl ?_ | refine AW.label ?_ | refine AW.skip ?_ | refine AW.ret ?_ | refine AW.exit ?_ | refine AW.region ?_ | refine AW.draw (by kernel_rfl) (by decide +kernel) ?_ | refine AW.drawN (by kernel_rfl) (by decide +kernel) ?_ | ((with_reducible refine And.intro ?_ ?_); (focus ((repeat' (with_reducible apply And.intro)) <;> first | (with_reducible exact OrdAt.of (by kernel_rfl)) | (with_reducible exact OrdT.of (by kernel_rfl)) | exact True.intro | (with_reducible assumption) | omega | rfl | exact Nat.le_of_ble_eq_true rfl | exact Or.inl trivial | (unfold inI; omega)))))
  (first | refine CallE.mem (a4) (by first | rfl | (simp only [List.map_cons, List.map_nil, frz_sl, frz_agg8, frz_agb, frz_agg32, frz_vv, frz_hv]; done) | (simp only [List.map_cons, List.map_nil, frz_sl, frz_agg8, frz_agb, frz_agg32, frz_vv, frz_hv]; rfl)) (by simp [bor, look_cons, isBox]) (by rfl) ?_ | refine CallXE.mem (a4) (by first | rfl | (simp only [List.map_cons, List.map_nil, frz_sl, frz_agg8, frz_agb, frz_agg32, frz_vv, frz_hv]; done) | (simp only [List.map_cons, List.map_nil, frz_sl, frz_agg8, frz_agb, frz_agg32, frz_vv, frz_hv]; rfl)) (by simp [bor, look_cons, isBox]) (by rfl) ?_)
  repeat (first | simp only [go_sem, Nat.reduceLT, Nat.reduceEqDiff, reduceIte, Int.reduceEq, Int.reduceLE, Int.reduceLT, Nat.reduceMul, Nat.reduceAdd, Nat.reduceSub, Int.reduceNeg, Int.reduceAdd, Int.reduceMul, Int.reduceSub, Int.reduceToNat, Nat.reduceLeDiff, Nat.reduceDiv, Int.reduceDiv, reduceCtorEq, Option.some.injEq, exists_eq_left', List.length_map, List.length_set, List.length_replicate, List.length_drop, List.length_take, List.length_append, List.drop_zero, List.take_of_length_le, Nat.le_refl, Nat.sub_zero, splice_all, row_u8, splice_u8, wrap_u64c, b1, b2, b3, b4, b5, b6, b7, b8, x1_len, y1_len, k1_len, z32_map, em_len, tS_len, tagS_len] | refine AW.seq ?_ | refine AW.block ?_ | refine AW.scope ?_ | refine AW.cond_tt rfl ?_ | refine AW.cond_ff rfl ?_ | refine AW.label ?_ | refine AW.skip ?_ | refine AW.ret ?_ | refine AW.exit ?_ | refine AW.region ?_ | refine AW.draw (by kernel_rfl) (by decide +kernel) ?_ | refine AW.drawN (by kernel_rfl) (by decide +kernel) ?_ | ((with_reducible refine And.intro ?_ ?_); (focus ((repeat' (with_reducible apply And.intro)) <;> first | (with_reducible exact OrdAt.of (by kernel_rfl)) | (with_reducible exact OrdT.of (by kernel_rfl)) | exact True.intro | (with_reducible assumption) | omega | rfl | exact Nat.le_of_ble_eq_true rfl | exact Or.inl trivial | (unfold inI; omega)))))
  (first | refine CallE.mem (a5) (by first | rfl | (simp only [List.map_cons, List.map_nil, frz_sl, frz_agg8, frz_agb, frz_agg32, frz_vv, frz_hv]; done) | (simp only [List.map_cons, List.map_nil, frz_sl, frz_agg8, frz_agb, frz_agg32, frz_vv, frz_hv]; rfl)) (by simp [bor, look_cons, isBox]) (by rfl) ?_ | refine CallXE.mem (a5) (by first | rfl | (simp only [List.map_cons, List.map_nil, frz_sl, frz_agg8, frz_agb, frz_agg32, frz_vv, frz_hv]; done) | (simp only [List.map_cons, List.map_nil, frz_sl, frz_agg8, frz_agb, frz_agg32, frz_vv, frz_hv]; rfl)) (by simp [bor, look_cons, isBox]) (by rfl) ?_)
  repeat (first | simp only [go_sem, Nat.reduceLT, Nat.reduceEqDiff, reduceIte, Int.reduceEq, Int.reduceLE, Int.reduceLT, Nat.reduceMul, Nat.reduceAdd, Nat.reduceSub, Int.reduceNeg, Int.reduceAdd, Int.reduceMul, Int.reduceSub, Int.reduceToNat, Nat.reduceLeDiff, Nat.reduceDiv, Int.reduceDiv, reduceCtorEq, Option.some.injEq, exists_eq_left', List.length_map, List.length_set, List.length_replicate, List.length_drop, List.length_take, List.length_append, List.drop_zero, List.take_of_length_le, Nat.le_refl, Nat.sub_zero, splice_all, row_u8, splice_u8, wrap_u64c, b1, b2, b3, b4, b5, b6, b7, b8, x1_len, y1_len, k1_len, z32_map, em_len, tS_len, tagS_len] | refine AW.seq ?_ | refine AW.block ?_ | refine AW.scope ?_ | refine AW.cond_tt rfl ?_ | refine AW.cond_ff rfl ?_ | refine AW.label ?_ | refine AW.skip ?_ | refine AW.ret ?_ | refine AW.exit ?_ | refine AW.region ?_ | refine AW.draw (by kernel_rfl) (by decide +kernel) ?_ | refine AW.drawN (by kernel_rfl) (by decide +kernel) ?_ | ((with_reducible refine And.intro ?_ ?_); (focus ((repeat' (with_reducible apply And.intro)) <;> first | (with_reducible exact OrdAt.of (by kernel_rfl)) | (with_reducible exact OrdT.of (by kernel_rfl)) | exact True.intro | (with_reducible assumption) | omega | rfl | exact Nat.le_of_ble_eq_true rfl | exact Or.inl trivial | (unfold inI; omega)))))
  (first | refine CallE.mem (a6) (by first | rfl | (simp only [List.map_cons, List.map_nil, frz_sl, frz_agg8, frz_agb, frz_agg32, frz_vv, frz_hv]; done) | (simp only [List.map_cons, List.map_nil, frz_sl, frz_agg8, frz_agb, frz_agg32, frz_vv, frz_hv]; rfl)) (by simp [bor, look_cons, isBox]) (by rfl) ?_ | refine CallXE.mem (a6) (by first | rfl | (simp only [List.map_cons, List.map_nil, frz_sl, frz_agg8, frz_agb, frz_agg32, frz_vv, frz_hv]; done) | (simp only [List.map_cons, List.map_nil, frz_sl, frz_agg8, frz_agb, frz_agg32, frz_vv, frz_hv]; rfl)) (by simp [bor, look_cons, isBox]) (by rfl) ?_)
  repeat (first | simp only [go_sem, Nat.reduceLT, Nat.reduceEqDiff, reduceIte, Int.reduceEq, Int.reduceLE, Int.reduceLT, Nat.reduceMul, Nat.reduceAdd, Nat.reduceSub, Int.reduceNeg, Int.reduceAdd, Int.reduceMul, Int.reduceSub, Int.reduceToNat, Nat.reduceLeDiff, Nat.reduceDiv, Int.reduceDiv, reduceCtorEq, Option.some.injEq, exists_eq_left', List.length_map, List.length_set, List.length_replicate, List.length_drop, List.length_take, List.length_append, List.drop_zero, List.take_of_length_le, Nat.le_refl, Nat.sub_zero, splice_all, row_u8, splice_u8, wrap_u64c, b1, b2, b3, b4, b5, b6, b7, b8, x1_len, y1_len, k1_len, z32_map, em_len, tS_len, tagS_len] | refine AW.seq ?_ | refine AW.block ?_ | refine AW.scope ?_ | refine AW.cond_tt rfl ?_ | refine AW.cond_ff rfl ?_ | refine AW.label ?_ | refine AW.skip ?_ | refine AW.ret ?_ | refine AW.exit ?_ | refine AW.region ?_ | refine AW.draw (by kernel_rfl) (by decide +kernel) ?_ | refine AW.drawN (by kernel_rfl) (by decide +kernel) ?_ | ((with_reducible refine And.intro ?_ ?_); (focus ((repeat' (with_reducible apply And.intro)) <;> first | (with_reducible exact OrdAt.of (by kernel_rfl)) | (with_reducible exact OrdT.of (by kernel_rfl)) | exact True.intro | (with_reducible assumption) | omega | rfl | exact Nat.le_of_ble_eq_true rfl | exact Or.inl trivial | (unfold inI; omega)))))
  (first | refine CallE.mem (a7) (by first | rfl | (simp only [List.map_cons, List.map_nil, frz_sl, frz_agg8, frz_agb, frz_agg32, frz_vv, frz_hv]; done) | (simp only [List.map_cons, List.map_nil, frz_sl, frz_agg8, frz_agb, frz_agg32, frz_vv, frz_hv]; rfl)) (by simp [bor, look_cons, isBox]) (by rfl) ?_ | refine CallXE.mem (a7) (by first | rfl | (simp only [List.map_cons, List.map_nil, frz_sl, frz_agg8, frz_agb, frz_agg32, frz_vv, frz_hv]; done) | (simp only [List.map_cons, List.map_nil, frz_sl, frz_agg8, frz_agb, frz_agg32, frz_vv, frz_hv]; rfl)) (by simp [bor, look_cons, isBox]) (by rfl) ?_)
  repeat (first | simp only [go_sem, Nat.reduceLT, Nat.reduceEqDiff, reduceIte, Int.reduceEq, Int.reduceLE, Int.reduceLT, Nat.reduceMul, Nat.reduceAdd, Nat.reduceSub, Int.reduceNeg, Int.reduceAdd, Int.reduceMul, Int.reduceSub, Int.reduceToNat, Nat.reduceLeDiff, Nat.reduceDiv, Int.reduceDiv, reduceCtorEq, Option.some.injEq, exists_eq_left', List.length_map, List.length_set, List.length_replicate, List.length_drop, List.length_take, List.length_append, List.drop_zero, List.take_of_length_le, Nat.le_refl, Nat.sub_zero, splice_all, row_u8, splice_u8, wrap_u64c, b1, b2, b3, b4, b5, b6, b7, b8, x1_len, y1_len, k1_len, z32_map, em_len, tS_len, tagS_len] | refine AW.seq ?_ | refine AW.block ?_ | refine AW.scope ?_ | refine AW.cond_tt rfl ?_ | refine AW.cond_ff rfl ?_ | refine AW.label ?_ | refine AW.skip ?_ | refine AW.ret ?_ | refine AW.exit ?_ | refine AW.region ?_ | refine AW.draw (by kernel_rfl) (by decide +kernel) ?_ | refine AW.drawN (by kernel_rfl) (by decide +kernel) ?_ | ((with_reducible refine And.intro ?_ ?_); (focus ((repeat' (with_reducible apply And.intro)) <;> first | (with_reducible exact OrdAt.of (by kernel_rfl)) | (with_reducible exact OrdT.of (by kernel_rfl)) | exact True.intro | (with_reducible assumption) | omega | rfl | exact Nat.le_of_ble_eq_true rfl | exact Or.inl trivial | (unfold inI; omega)))))
  (first | refine CallE.mem (a8) (by first | rfl | (simp only [List.map_cons, List.map_nil, frz_sl, frz_agg8, frz_agb, frz_agg32, frz_vv, frz_hv]; done) | (simp only [List.map_cons, List.map_nil, frz_sl, frz_agg8, frz_agb, frz_agg32, frz_vv, frz_hv]; rfl)) (by simp [bor, look_cons, isBox]) (by rfl) ?_ | refine CallXE.mem (a8) (by first | rfl | (simp only [List.map_cons, List.map_nil, frz_sl, frz_agg8, frz_agb, frz_agg32, frz_vv, frz_hv]; done) | (simp only [List.map_cons, List.map_nil, frz_sl, frz_agg8, frz_agb, frz_agg32, frz_vv, frz_hv]; rfl)) (by simp [bor, look_cons, isBox]) (by rfl) ?_)
  repeat (first | simp only [go_sem, Nat.reduceLT, Nat.reduceEqDiff, reduceIte, Int.reduceEq, Int.reduceLE, Int.reduceLT, Nat.reduceMul, Nat.reduceAdd, Nat.reduceSub, Int.reduceNeg, Int.reduceAdd, Int.reduceMul, Int.reduceSub, Int.reduceToNat, Nat.reduceLeDiff, Nat.reduceDiv, Int.reduceDiv, reduceCtorEq, Option.some.injEq, exists_eq_left', List.length_map, List.length_set, List.length_replicate, List.length_drop, List.length_take, List.length_append, List.drop_zero, List.take_of_length_le, Nat.le_refl, Nat.sub_zero, splice_all, row_u8, splice_u8, wrap_u64c, b1, b2, b3, b4, b5, b6, b7, b8, x1_len, y1_len, k1_len, z32_map, em_len, tS_len, tagS_len] | refine AW.seq ?_ | refine AW.block ?_ | refine AW.scope ?_ | refine AW.cond_tt rfl ?_ | refine AW.cond_ff rfl ?_ | refine AW.label ?_ | refine AW.skip ?_ | refine AW.ret ?_ | refine AW.exit ?_ | refine AW.region ?_ | refine AW.draw (by kernel_rfl) (by decide +kernel) ?_ | refine AW.drawN (by kernel_rfl) (by decide +kernel) ?_ | ((with_reducible refine And.intro ?_ ?_); (focus ((repeat' (with_reducible apply And.intro)) <;> first | (with_reducible exact OrdAt.of (by kernel_rfl)) | (with_reducible exact OrdT.of (by kernel_rfl)) | exact True.intro | (with_reducible assumption) | omega | rfl | exact Nat.le_of_ble_eq_true rfl | exact Or.inl trivial | (unfold inI; omega)))))
  simp only [List.append_eq, List.cons_append, List.nil_append, List.toList_toArray]
  have ex1 : List.drop 64 (Y1.map u8 ++ X1.map u8) = X1.map u8 := by
    rw [List.drop_append_of_le_length (by simp [y1_len]), List.drop_of_length_le (by simp [y1_len]), List.nil_append]
  have ll : (Y1.map u8 ++ X1.map u8).length = 128 := by simp [y1_len, x1_len]
  have v1l : V1.length = 32 := by decide +kernel
  have v1s : splice (List.map u8 (List.replicate 32 0)) 0 (V1.map u8) = V1.map u8 := spl32 (b := z32) v1l rfl
  have v1x : List.drop 32 (X1.map u8) = V1.map u8 := by kernel_rfl
  have e1 := f20 0
  have e2 := f20 1
  have e3 := f20 256
  have e4 := f20 257
  rw [d15] at e1
  rw [d16] at e2
  rw [d17] at e3
  rw [d18] at e4
  have ec := f14 [Y1, X1] yx64 (by decide)
  rw [d10] at ec
  simp only [l2] at ec
  repeat (first | simp only [go_sem, Nat.reduceLT, Nat.reduceEqDiff, reduceIte, Int.reduceEq, Int.reduceLE, Int.reduceLT, Nat.reduceMul, Nat.reduceAdd, Nat.reduceSub, Int.reduceNeg, Int.reduceAdd, Int.reduceMul, Int.reduceSub, Int.reduceToNat, Nat.reduceLeDiff, Nat.reduceDiv, Int.reduceDiv, reduceCtorEq, Option.some.injEq, exists_eq_left', List.length_map, List.length_set, List.length_replicate, List.length_drop, List.length_take, List.length_append, List.drop_zero, List.take_of_length_le, Nat.le_refl, Nat.sub_zero, splice_all, row_u8, splice_u8, wrap_u64c, b1, b2, b3, b4, b5, b6, b7, b8, x1_len, y1_len, k1_len, z32_map, em_len, tS_len, tagS_len, sumOf_len, List.length_replicate, ex1, ll, v1s, v1x, v1l, aggEq_u8, intsOk_u8, eq_self, decide_true, drG_tt, exG_tt, beq_self_eq_true, true_and, and_true] | refine AW.seq ?_ | refine AW.block ?_ | refine AW.scope ?_ | refine AW.cond_tt rfl ?_ | refine AW.cond_ff rfl ?_ | refine AW.label ?_ | refine AW.skip ?_ | refine AW.ret ?_ | refine AW.exit ?_ | refine AW.region ?_ | refine AW.draw (by kernel_rfl) (by decide +kernel) ?_ | refine AW.drawN (by kernel_rfl) (by decide +kernel) ?_ | ((with_reducible refine And.intro ?_ ?_); (focus ((repeat' (with_reducible apply And.intro)) <;> first | (with_reducible exact OrdAt.of (by kernel_rfl)) | (with_reducible exact OrdT.of (by kernel_rfl)) | exact True.intro | (with_reducible assumption) | omega | rfl | exact Nat.le_of_ble_eq_true rfl | exact Or.inl trivial | (unfold inI; omega)))))
  (first | refine CallE.mem (e1) (by first | rfl | (simp only [List.map_cons, List.map_nil, frz_sl, frz_agg8, frz_agb, frz_agg32, frz_vv, frz_hv]; done) | (simp only [List.map_cons, List.map_nil, frz_sl, frz_agg8, frz_agb, frz_agg32, frz_vv, frz_hv]; rfl)) (by simp [bor, look_cons, isBox]) (by rfl) ?_ | refine CallXE.mem (e1) (by first | rfl | (simp only [List.map_cons, List.map_nil, frz_sl, frz_agg8, frz_agb, frz_agg32, frz_vv, frz_hv]; done) | (simp only [List.map_cons, List.map_nil, frz_sl, frz_agg8, frz_agb, frz_agg32, frz_vv, frz_hv]; rfl)) (by simp [bor, look_cons, isBox]) (by rfl) ?_)
  repeat (first | simp only [go_sem, Nat.reduceLT, Nat.reduceEqDiff, reduceIte, Int.reduceEq, Int.reduceLE, Int.reduceLT, Nat.reduceMul, Nat.reduceAdd, Nat.reduceSub, Int.reduceNeg, Int.reduceAdd, Int.reduceMul, Int.reduceSub, Int.reduceToNat, Nat.reduceLeDiff, Nat.reduceDiv, Int.reduceDiv, reduceCtorEq, Option.some.injEq, exists_eq_left', List.length_map, List.length_set, List.length_replicate, List.length_drop, List.length_take, List.length_append, List.drop_zero, List.take_of_length_le, Nat.le_refl, Nat.sub_zero, splice_all, row_u8, splice_u8, wrap_u64c, b1, b2, b3, b4, b5, b6, b7, b8, x1_len, y1_len, k1_len, z32_map, em_len, tS_len, tagS_len, sumOf_len, List.length_replicate, ex1, ll, v1s, v1x, v1l, aggEq_u8, intsOk_u8, eq_self, decide_true, drG_tt, exG_tt, beq_self_eq_true, true_and, and_true] | refine AW.seq ?_ | refine AW.block ?_ | refine AW.scope ?_ | refine AW.cond_tt rfl ?_ | refine AW.cond_ff rfl ?_ | refine AW.label ?_ | refine AW.skip ?_ | refine AW.ret ?_ | refine AW.exit ?_ | refine AW.region ?_ | refine AW.draw (by kernel_rfl) (by decide +kernel) ?_ | refine AW.drawN (by kernel_rfl) (by decide +kernel) ?_ | ((with_reducible refine And.intro ?_ ?_); (focus ((repeat' (with_reducible apply And.intro)) <;> first | (with_reducible exact OrdAt.of (by kernel_rfl)) | (with_reducible exact OrdT.of (by kernel_rfl)) | exact True.intro | (with_reducible assumption) | omega | rfl | exact Nat.le_of_ble_eq_true rfl | exact Or.inl trivial | (unfold inI; omega)))))
  (first | refine CallE.mem (f22 (em 255) (tS 255 [X1]) (em_len _) (tS_len _ _)) (by first | rfl | (simp only [List.map_cons, List.map_nil, frz_sl, frz_agg8, frz_agb, frz_agg32, frz_vv, frz_hv]; done) | (simp only [List.map_cons, List.map_nil, frz_sl, frz_agg8, frz_agb, frz_agg32, frz_vv, frz_hv]; rfl)) (by simp [bor, look_cons, isBox]) (by rfl) ?_ | refine CallXE.mem (f22 (em 255) (tS 255 [X1]) (em_len _) (tS_len _ _)) (by first | rfl | (simp only [List.map_cons, List.map_nil, frz_sl, frz_agg8, frz_agb, frz_agg32, frz_vv, frz_hv]; done) | (simp only [List.map_cons, List.map_nil, frz_sl, frz_agg8, frz_agb, frz_agg32, frz_vv, frz_hv]; rfl)) (by simp [bor, look_cons, isBox]) (by rfl) ?_)
  repeat (first | simp only [go_sem, Nat.reduceLT, Nat.reduceEqDiff, reduceIte, Int.reduceEq, Int.reduceLE, Int.reduceLT, Nat.reduceMul, Nat.reduceAdd, Nat.reduceSub, Int.reduceNeg, Int.reduceAdd, Int.reduceMul, Int.reduceSub, Int.reduceToNat, Nat.reduceLeDiff, Nat.reduceDiv, Int.reduceDiv, reduceCtorEq, Option.some.injEq, exists_eq_left', List.length_map, List.length_set, List.length_replicate, List.length_drop, List.length_take, List.length_append, List.drop_zero, List.take_of_length_le, Nat.le_refl, Nat.sub_zero, splice_all, row_u8, splice_u8, wrap_u64c, b1, b2, b3, b4, b5, b6, b7, b8, x1_len, y1_len, k1_len, z32_map, em_len, tS_len, tagS_len, sumOf_len, List.length_replicate, ex1, ll, v1s, v1x, v1l, aggEq_u8, intsOk_u8, eq_self, decide_true, drG_tt, exG_tt, beq_self_eq_true, true_and, and_true] | refine AW.seq ?_ | refine AW.block ?_ | refine AW.scope ?_ | refine AW.cond_tt rfl ?_ | refine AW.cond_ff rfl ?_ | refine AW.label ?_ | refine AW.skip ?_ | refine AW.ret ?_ | refine AW.exit ?_ | refine AW.region ?_ | refine AW.draw (by kernel_rfl) (by decide +kernel) ?_ | refine AW.drawN (by kernel_rfl) (by decide +kernel) ?_ | ((with_reducible refine And.intro ?_ ?_); (focus ((repeat' (with_reducible apply And.intro)) <;> first | (with_reducible exact OrdAt.of (by kernel_rfl)) | (with_reducible exact OrdT.of (by kernel_rfl)) | exact True.intro | (with_reducible assumption) | omega | rfl | exact Nat.le_of_ble_eq_true rfl | exact Or.inl trivial | (unfold inI; omega)))))
  (first | refine CallE.mem (e2) (by first | rfl | (simp only [List.map_cons, List.map_nil, frz_sl, frz_agg8, frz_agb, frz_agg32, frz_vv, frz_hv]; done) | (simp only [List.map_cons, List.map_nil, frz_sl, frz_agg8, frz_agb, frz_agg32, frz_vv, frz_hv]; rfl)) (by simp [bor, look_cons, isBox]) (by rfl) ?_ | refine CallXE.mem (e2) (by first | rfl | (simp only [List.map_cons, List.map_nil, frz_sl, frz_agg8, frz_agb, frz_agg32, frz_vv, frz_hv]; done) | (simp only [List.map_cons, List.map_nil, frz_sl, frz_agg8, frz_agb, frz_agg32, frz_vv, frz_hv]; rfl)) (by simp [bor, look_cons, isBox]) (by rfl) ?_)
  repeat (first | simp only [go_sem, Nat.reduceLT, Nat.reduceEqDiff, reduceIte, Int.reduceEq, Int.reduceLE, Int.reduceLT, Nat.reduceMul, Nat.reduceAdd, Nat.reduceSub, Int.reduceNeg, Int.reduceAdd, Int.reduceMul, Int.reduceSub, Int.reduceToNat, Nat.reduceLeDiff, Nat.reduceDiv, Int.reduceDiv, reduceCtorEq, Option.some.injEq, exists_eq_left', List.length_map, List.length_set, List.length_replicate, List.length_drop, List.length_take, List.length_append, List.drop_zero, List.take_of_length_le, Nat.le_refl, Nat.sub_zero, splice_all, row_u8, splice_u8, wrap_u64c, b1, b2, b3, b4, b5, b6, b7, b8, x1_len, y1_len, k1_len, z32_map, em_len, tS_len, tagS_len, sumOf_len, List.length_replicate, ex1, ll, v1s, v1x, v1l, aggEq_u8, intsOk_u8, eq_self, decide_true, drG_tt, exG_tt, beq_self_eq_true, true_and, and_true] | refine AW.seq ?_ | refine AW.block ?_ | refine AW.scope ?_ | refine AW.cond_tt rfl ?_ | refine AW.cond_ff rfl ?_ | refine AW.label ?_ | refine AW.skip ?_ | refine AW.ret ?_ | refine AW.exit ?_ | refine AW.region ?_ | refine AW.draw (by kernel_rfl) (by decide +kernel) ?_ | refine AW.drawN (by kernel_rfl) (by decide +kernel) ?_ | ((with_reducible refine And.intro ?_ ?_); (focus ((repeat' (with_reducible apply And.intro)) <;> first | (with_reducible exact OrdAt.of (by kernel_rfl)) | (with_reducible exact OrdT.of (by kernel_rfl)) | exact True.intro | (with_reducible assumption) | omega | rfl | exact Nat.le_of_ble_eq_true rfl | exact Or.inl trivial | (unfold inI; omega)))))
  (first | refine CallE.mem (e3) (by first | rfl | (simp only [List.map_cons, List.map_nil, frz_sl, frz_agg8, frz_agb, frz_agg32, frz_vv, frz_hv]; done) | (simp only [List.map_cons, List.map_nil, frz_sl, frz_agg8, frz_agb, frz_agg32, frz_vv, frz_hv]; rfl)) (by simp [bor, look_cons, isBox]) (by rfl) ?_ | refine CallXE.mem (e3) (by first | rfl | (simp only [List.map_cons, List.map_nil, frz_sl, frz_agg8, frz_agb, frz_agg32, frz_vv, frz_hv]; done) | (simp only [List.map_cons, List.map_nil, frz_sl, frz_agg8, frz_agb, frz_agg32, frz_vv, frz_hv]; rfl)) (by simp [bor, look_cons, isBox]) (by rfl) ?_)
  repeat (first | simp only [go_sem, Nat.reduceLT, Nat.reduceEqDiff, reduceIte, Int.reduceEq, Int.reduceLE, Int.reduceLT, Nat.reduceMul, Nat.reduceAdd, Nat.reduceSub, Int.reduceNeg, Int.reduceAdd, Int.reduceMul, Int.reduceSub, Int.reduceToNat, Nat.reduceLeDiff, Nat.reduceDiv, Int.reduceDiv, reduceCtorEq, Option.some.injEq, exists_eq_left', List.length_map, List.length_set, List.length_replicate, List.length_drop, List.length_take, List.length_append, List.drop_zero, List.take_of_length_le, Nat.le_refl, Nat.sub_zero, splice_all, row_u8, splice_u8, wrap_u64c, b1, b2, b3, b4, b5, b6, b7, b8, x1_len, y1_len, k1_len, z32_map, em_len, tS_len, tagS_len, sumOf_len, List.length_replicate, ex1, ll, v1s, v1x, v1l, aggEq_u8, intsOk_u8, eq_self, decide_true, drG_tt, exG_tt, beq_self_eq_true, true_and, and_true] | refine AW.seq ?_ | refine AW.block ?_ | refine AW.scope ?_ | refine AW.cond_tt rfl ?_ | refine AW.cond_ff rfl ?_ | refine AW.label ?_ | refine AW.skip ?_ | refine AW.ret ?_ | refine AW.exit ?_ | refine AW.region ?_ | refine AW.draw (by kernel_rfl) (by decide +kernel) ?_ | refine AW.drawN (by kernel_rfl) (by decide +kernel) ?_ | ((with_reducible refine And.intro ?_ ?_); (focus ((repeat' (with_reducible apply And.intro)) <;> first | (with_reducible exact OrdAt.of (by kernel_rfl)) | (with_reducible exact OrdT.of (by kernel_rfl)) | exact True.intro | (with_reducible assumption) | omega | rfl | exact Nat.le_of_ble_eq_true rfl | exact Or.inl trivial | (unfold inI; omega)))))
  refine CallXE.mem (f28 [2] (by decide)) rfl (by simp [bor]) (by rfl) ?_
  repeat (first | simp only [go_sem, Nat.reduceLT, Nat.reduceEqDiff, reduceIte, Int.reduceEq, Int.reduceLE, Int.reduceLT, Nat.reduceMul, Nat.reduceAdd, Nat.reduceSub, Int.reduceNeg, Int.reduceAdd, Int.reduceMul, Int.reduceSub, Int.reduceToNat, Nat.reduceLeDiff, Nat.reduceDiv, Int.reduceDiv, reduceCtorEq, Option.some.injEq, exists_eq_left', List.length_map, List.length_set, List.length_replicate, List.length_drop, List.length_take, List.length_append, List.drop_zero, List.take_of_length_le, Nat.le_refl, Nat.sub_zero, splice_all, row_u8, splice_u8, wrap_u64c, b1, b2, b3, b4, b5, b6, b7, b8, x1_len, y1_len, k1_len, z32_map, em_len, tS_len, tagS_len, sumOf_len, List.length_replicate, ex1, ll, v1s, v1x, v1l, aggEq_u8, intsOk_u8, eq_self, decide_true, drG_tt, exG_tt, beq_self_eq_true, true_and, and_true] | refine AW.seq ?_ | refine AW.block ?_ | refine AW.scope ?_ | refine AW.cond_tt rfl ?_ | refine AW.cond_ff rfl ?_ | refine AW.label ?_ | refine AW.skip ?_ | refine AW.ret ?_ | refine AW.exit ?_ | refine AW.region ?_ | refine AW.draw (by kernel_rfl) (by decide +kernel) ?_ | refine AW.drawN (by kernel_rfl) (by decide +kernel) ?_ | ((with_reducible refine And.intro ?_ ?_); (focus ((repeat' (with_reducible apply And.intro)) <;> first | (with_reducible exact OrdAt.of (by kernel_rfl)) | (with_reducible exact OrdT.of (by kernel_rfl)) | exact True.intro | (with_reducible assumption) | omega | rfl | exact Nat.le_of_ble_eq_true rfl | exact Or.inl trivial | (unfold inI; omega)))))
  (first | refine CallE.mem (e4) (by first | rfl | (simp only [List.map_cons, List.map_nil, frz_sl, frz_agg8, frz_agb, frz_agg32, frz_vv, frz_hv]; done) | (simp only [List.map_cons, List.map_nil, frz_sl, frz_agg8, frz_agb, frz_agg32, frz_vv, frz_hv]; rfl)) (by simp [bor, look_cons, isBox]) (by rfl) ?_ | refine CallXE.mem (e4) (by first | rfl | (simp only [List.map_cons, List.map_nil, frz_sl, frz_agg8, frz_agb, frz_agg32, frz_vv, frz_hv]; done) | (simp only [List.map_cons, List.map_nil, frz_sl, frz_agg8, frz_agb, frz_agg32, frz_vv, frz_hv]; rfl)) (by simp [bor, look_cons, isBox]) (by rfl) ?_)
  repeat (first | simp only [go_sem, Nat.reduceLT, Nat.reduceEqDiff, reduceIte, Int.reduceEq, Int.reduceLE, Int.reduceLT, Nat.reduceMul, Nat.reduceAdd, Nat.reduceSub, Int.reduceNeg, Int.reduceAdd, Int.reduceMul, Int.reduceSub, Int.reduceToNat, Nat.reduceLeDiff, Nat.reduceDiv, Int.reduceDiv, reduceCtorEq, Option.some.injEq, exists_eq_left', List.length_map, List.length_set, List.length_replicate, List.length_drop, List.length_take, List.length_append, List.drop_zero, List.take_of_length_le, Nat.le_refl, Nat.sub_zero, splice_all, row_u8, splice_u8, wrap_u64c, b1, b2, b3, b4, b5, b6, b7, b8, x1_len, y1_len, k1_len, z32_map, em_len, tS_len, tagS_len, sumOf_len, List.length_replicate, ex1, ll, v1s, v1x, v1l, aggEq_u8, intsOk_u8, eq_self, decide_true, drG_tt, exG_tt, beq_self_eq_true, true_and, and_true] | refine AW.seq ?_ | refine AW.block ?_ | refine AW.scope ?_ | refine AW.cond_tt rfl ?_ | refine AW.cond_ff rfl ?_ | refine AW.label ?_ | refine AW.skip ?_ | refine AW.ret ?_ | refine AW.exit ?_ | refine AW.region ?_ | refine AW.draw (by kernel_rfl) (by decide +kernel) ?_ | refine AW.drawN (by kernel_rfl) (by decide +kernel) ?_ | ((with_reducible refine And.intro ?_ ?_); (focus ((repeat' (with_reducible apply And.intro)) <;> first | (with_reducible exact OrdAt.of (by kernel_rfl)) | (with_reducible exact OrdT.of (by kernel_rfl)) | exact True.intro | (with_reducible assumption) | omega | rfl | exact Nat.le_of_ble_eq_true rfl | exact Or.inl trivial | (unfold inI; omega)))))
  (first | refine CallE.flat (ec) (by first | rfl | (simp only [List.map_cons, List.map_nil, frz_sl, frz_agg8, frz_agb, frz_agg32, frz_vv, frz_hv]; done) | (simp only [List.map_cons, List.map_nil, frz_sl, frz_agg8, frz_agb, frz_agg32, frz_vv, frz_hv]; rfl)) (by rfl) (by rfl) ?_ | refine CallXE.flat (ec) (by first | rfl | (simp only [List.map_cons, List.map_nil, frz_sl, frz_agg8, frz_agb, frz_agg32, frz_vv, frz_hv]; done) | (simp only [List.map_cons, List.map_nil, frz_sl, frz_agg8, frz_agb, frz_agg32, frz_vv, frz_hv]; rfl)) (by rfl) (by rfl) ?_)
  repeat (first | simp only [go_sem, Nat.reduceLT, Nat.reduceEqDiff, reduceIte, Int.reduceEq, Int.reduceLE, Int.reduceLT, Nat.reduceMul, Nat.reduceAdd, Nat.reduceSub, Int.reduceNeg, Int.reduceAdd, Int.reduceMul, Int.reduceSub, Int.reduceToNat, Nat.reduceLeDiff, Nat.reduceDiv, Int.reduceDiv, reduceCtorEq, Option.some.injEq, exists_eq_left', List.length_map, List.length_set, List.length_replicate, List.length_drop, List.length_take, List.length_append, List.drop_zero, List.take_of_length_le, Nat.le_refl, Nat.sub_zero, splice_all, row_u8, splice_u8, wrap_u64c, b1, b2, b3, b4, b5, b6, b7, b8, x1_len, y1_len, k1_len, z32_map, em_len, tS_len, tagS_len, sumOf_len, List.length_replicate, ex1, ll, v1s, v1x, v1l, aggEq_u8, intsOk_u8, eq_self, decide_true, drG_tt, exG_tt, beq_self_eq_true, true_and, and_true] | refine AW.seq ?_ | refine AW.block ?_ | refine AW.scope ?_ | refine AW.cond_tt rfl ?_ | refine AW.cond_ff rfl ?_ | refine AW.label ?_ | refine AW.skip ?_ | refine AW.ret ?_ | refine AW.exit ?_ | refine AW.region ?_ | refine AW.draw (by kernel_rfl) (by decide +kernel) ?_ | refine AW.drawN (by kernel_rfl) (by decide +kernel) ?_ | ((with_reducible refine And.intro ?_ ?_); (focus ((repeat' (with_reducible apply And.intro)) <;> first | (with_reducible exact OrdAt.of (by kernel_rfl)) | (with_reducible exact OrdT.of (by kernel_rfl)) | exact True.intro | (with_reducible assumption) | omega | rfl | exact Nat.le_of_ble_eq_true rfl | exact Or.inl trivial | (unfold inI; omega)))))
  exact Wk.refl _
end Go.Proofs.YtpknjecfloglgaaDoor

namespace Go.Proofs.YtpknjecfloglgaaDoor
open Go Go.Eng Go.Proofs
set_option maxRecDepth 100000
set_option maxHeartbeats 1000000
set_option linter.unusedSimpArgs false
set_option linter.unusedVariables false
theorem em_emptyS {d : Nat} (h : d ≤ 256) : emptyS (d : Int) = em (256 - d) := by
  rw [emptyS, if_neg (by omega), Int.toNat_natCast]
theorem emptyS_len (d : Int) : (emptyS d).length = 32 := by
  unfold emptyS; split
  · rfl
  · exact em_len _
theorem chk_nil : chk [] = true := by decide +kernel
theorem part_nil {d : Nat} (h : d ≤ 256) (k : List UInt8) : partV tS [] k d = em (256 - d) := by
  rw [partV, if_pos chk_nil, if_neg (by omega), List.filter_nil, tS_nil, Int.toNat_natCast]
theorem partE_nil {d : Nat} (h : d ≤ 256) : partE [] d = 0 := by rw [partE, if_pos chk_nil, if_neg (by omega)]
end Go.Proofs.YtpknjecfloglgaaDoor

namespace Go.Proofs.YtpknjecfloglgaaDoor
open Go Go.Eng Go.ChangeShapes Go.WideShapes Go.ChangeAt Go.RowKit
set_option linter.unusedVariables false
set_option maxRecDepth 100000
theorem seat_own : ownKnob Tryd.prog.godebug = none := by kernel_rfl
theorem seat_laidOut : laidOutB Tryd.prog = true := by kernel_rfl
def seat_laid : List (String × DataW Unit) := Rows.trieTellsRow.laid
theorem seat_door (os : Os) (args : Array Value) : laidMetH Tryd.prog seat_laid ((World.doorLaid Tryd.prog 400 os).forCall (fun _ _ => 0) ⟨#[], args, []⟩).memory :=
  laidMetH_of_parts3 (fuel := 8) (laidMet_of_run' 8 (by kernel_rfl) (by kernel_rfl)) (by kernel_rfl) (by kernel_rfl)
theorem first_named : Tryd.prog.globalNamed (seat_laid.map (·.1))[0]! = some 0 := by kernel_rfl
theorem constants_named : Tryd.prog.globalNamed (seat_laid.map (·.1))[1]! = some 1 := by kernel_rfl
theorem first_type : (Tryd.prog.globals[0]?).map (·.type) = some 63 := by kernel_rfl
theorem constants_type : (Tryd.prog.globals[1]?).map (·.type) = some 87 := by kernel_rfl
def firstI : List Int := shaFirst.map fun x => (x.toNat : Int)
def constI : List Int := shaK.map fun x => (x.toNat : Int)
theorem first_datum : (Rows.laid_yashmak_sha_first : DataW Unit) = .agg (firstI.map fun x => .lit (.int .u32 x)) := by kernel_rfl
theorem const_datum : (Rows.laid_yashmak_sha_constants : DataW Unit) = .agg (constI.map fun x => .lit (.int .u32 x)) := by kernel_rfl
theorem seat_gok {W : World} (h : laidMetH Tryd.prog seat_laid W) : GOK (γW W) := by
  rw [MakeChecks.laidMetH_plain _ _ _ (by kernel_rfl)] at h
  obtain ⟨ps, ⟨g0, t0, cs0, f0, p0, q0, hg0, ht0, hv0, hd0, ⟨g1, t1, cs1, f1, p1, q1, hg1, ht1, hv1, hd1, _, _⟩, _⟩, _, _⟩ := h
  obtain rfl := Option.some.inj (first_named.symm.trans hg0)
  obtain rfl := Option.some.inj (constants_named.symm.trans hg1)
  obtain rfl := Option.some.inj (first_type.symm.trans ht0)
  obtain rfl := Option.some.inj (constants_type.symm.trans ht1)
  rw [first_datum] at hd0
  rw [const_datum] at hd1
  have c0 := laid_ints Tryd.underlying63 Tryd.underlying62 Tryd.csz62 Tryd.csz63 hd0
  have c1 := laid_ints Tryd.underlying87 Tryd.underlying62 Tryd.csz62 Tryd.csz87 hd1
  have g0 := gok_one (fun i => World.var?_cell hg0 hv0 i) c0 (by decide)
  have g1 := gok_one (fun i => World.var?_cell hg1 hv1 i) c1 (by decide)
  intro g cs hg
  match g, hg with
  | 0, hg => cases hg; exact g0
  | 1, hg => cases hg; exact g1
  | _ + 2, hg => cases hg
theorem reads_leaf : Reads Tryd.prog 38 fun cs => ∃ x : Lf, x.length = 64 ∧ cs = x.map u8 :=
  (Reads.struct Tryd.underlying38 (ReadsF.cons rfl (Reads.arrayOf Tryd.underlying23 (Reads.u8 Tryd.underlying5) Tryd.csz5 Tryd.csz23) (ReadsF.cons rfl (Reads.arrayOf Tryd.underlying23 (Reads.u8 Tryd.underlying5) Tryd.csz5 Tryd.csz23) (ReadsF.nil (by kernel_rfl)) (by decide +kernel) (by decide +kernel)) (by decide +kernel) (by decide +kernel))).mono fun cs ⟨_, _, ⟨k, hk, e1⟩, ⟨_, _, ⟨v, hv, e2⟩, e3, e4⟩, e⟩ =>
    ⟨k ++ v, by rw [List.length_append, hk, hv], by subst e1; subst e2; subst e3; subst e4; subst e; simp⟩
theorem leaves_of : ∀ css : List (List AV), (∀ c ∈ css, ∃ x : Lf, x.length = 64 ∧ c = x.map u8) → ∃ l : List Lf, all64 l ∧ css.flatten = bys l.flatten ∧ css.length = l.length
  | [], _ => ⟨[], n64, rfl, rfl⟩
  | c :: css, h => by
    obtain ⟨x, hx, e⟩ := h c (by simp)
    obtain ⟨l, hl, e1, e2⟩ := leaves_of css fun c hc => h c (List.mem_cons_of_mem _ hc)
    refine ⟨x :: l, fun y hy => ?_, ?_, ?_⟩
    · rcases List.mem_cons.1 hy with rfl | hy
      · exact hx
      · exact hl y hy
    · rw [List.flatten_cons, List.flatten_cons, e1, e, ← bys_app]; rfl
    · rw [List.length_cons, List.length_cons, e2]
theorem reads_leaves : Reads Tryd.prog 22 fun cs => ∃ l : List Lf, all64 l ∧ cs = [lsl l] :=
  (Reads.slice Tryd.underlying22 reads_leaf (by rw [Tryd.csz38]; decide)).mono fun cs ⟨css, _, hc, e⟩ => by
    obtain ⟨l, hl, e1, e2⟩ := leaves_of css hc
    exact ⟨l, hl, by rw [e, e1, e2, Tryd.csz38]⟩
end Go.Proofs.YtpknjecfloglgaaDoor

