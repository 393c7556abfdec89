/- What sha and its document compute, function by function (second part); conditions on lengths alone. -/
import Derived.Test.YtpknjecfloglgaaDoorTriePartsWalkA
set_option linter.unusedVariables false
set_option linter.unusedSimpArgs false
namespace Go.Proofs.YtpknjecfloglgaaDoor
open Go Go.Eng Go.Proofs
set_option maxRecDepth 100000
set_option maxHeartbeats 1000000
set_option linter.unusedSimpArgs false
set_option linter.unusedVariables false
theorem blk_len (s : List UInt32) (t : List UInt8) : (blk s t).length = s.length := addL_len _ _ _
def eat (s : List UInt32) (t : List UInt8) : List UInt32 × List UInt8 := if t.length < 64 then (s, t) else eat (blk s t) (t.drop 64)
termination_by t.length
decreasing_by rw [List.length_drop]; omega
theorem eat_lt {s : List UInt32} {t : List UInt8} (h : t.length < 64) : eat s t = (s, t) := by rw [eat, if_pos h]
theorem eat_ge {s : List UInt32} {t : List UInt8} (h : ¬ t.length < 64) : eat s t = eat (blk s t) (t.drop 64) := by rw [eat, if_neg h]
def moreS (s : List UInt32) (r : List UInt8) (m : UInt64) (b : List UInt8) : List UInt32 := if fitsS r m then (eat s (r ++ b)).1 else s
def moreR (s : List UInt32) (r : List UInt8) (m : UInt64) (b : List UInt8) : List UInt8 := if fitsS r m then (eat s (r ++ b)).2 else r
def moreM (r : List UInt8) (m : UInt64) (b : List UInt8) : UInt64 := if fitsS r m then m + UInt64.ofNat b.length else m
def moreE (r : List UInt8) (m : UInt64) : Int := if fitsS r m then 0 else 1
def slotLen (s : S) (t : Nat) : Nat := match Eng.look s.fr t with
  | some (.sl _ _ n _) => n
  | _ => 0
def zh : List AV := (List.replicate 8 (0 : UInt32)).map u32 ++ [nilS, u64 0]
def ss8 (s : List UInt32) (r : List UInt8) (m : UInt64) (b t : List UInt8) : S := ⟨[(6, .sl 1 (bys t) t.length none), (1, .sl 1 (bys b) b.length none), (2, .loc 0 0), (4, .loc 1 0)], 50, [(1, .box zh), (0, .box (hv s r m))], 2, []⟩
theorem zh_eq : List.replicate 8 (u32 0) ++ [nilS] ++ [u64 0] = zh := by simp [zh]
theorem zh_len : zh.length = 10 := rfl
section
variable {s : List UInt32} {x y : AV} (hs : s.length = 8)
include hs
theorem hs_t10 : (s.map u32 ++ [x, y]).take 10 = s.map u32 ++ [x, y] := List.take_of_length_le (by simp [hs])
theorem zh_spl : splice zh 0 (s.map u32 ++ [x, y]) = s.map u32 ++ [x, y] := splice_all (by simp [hs, zh])
end
theorem labL_app (n : Nat) : ∀ (a b : List AV), labL n (a ++ b) ↔ labL n a ∧ labL n b
  | [], b => by simp [labL]
  | x :: a, b => by simp [labL, labL_app n a b, and_assoc]
theorem renL_app (σ : Nat → Nat) (a b : List AV) : renL σ (a ++ b) = renL σ a ++ renL σ b := by
  induction a with
  | nil => rfl
  | cons x a ih => simp [renL, ih]
@[simp] theorem labL_hv (n : Nat) (s : List UInt32) (r : List UInt8) (m : UInt64) : labL n (hv s r m) = True := by simp [hv, labL_app, labL, lab, labL_mapu32, labL_bys]
@[simp] theorem renL_hv (σ : Nat → Nat) (s : List UInt32) (r : List UInt8) (m : UInt64) : renL σ (hv s r m) = hv s r m := by simp [hv, renL_app, renL, ren, renL_mapu32, renL_bys]
@[simp] theorem labL_zh (n : Nat) : labL n zh = True := by simp [zh, labL, lab]
@[simp] theorem renL_zh (σ : Nat → Nat) : renL σ zh = zh := by simp [zh, renL, ren]
theorem dt_hv (s : List UInt32) (c : List AV) (n : Nat) (k : Option Nat) (w : Value) : (s.map u32 ++ [AV.sl 1 c n k, AV.v w]).map dt = s.map u32 ++ [AV.sl 1 c n none, AV.v w] := by simp [dt]
theorem f43 (s : List UInt32) (hs : s.length = 8) (r : List UInt8) (hr : r.length ≤ 500000) (m : UInt64) (b : List UInt8) (hb : b.length ≤ 500000) :
    AFun Tryd.prog 43 [.agg (hv s r m), .sl 1 (bys b) b.length none] (.tup [.agg (hv (moreS s r m b) (moreR s r m b) (moreM r m b)), int (moreE r m)]) := by
  refine AFun.enterW Tryd.func43 rfl Tryd.call43 (by simp [Tryd.ntmps43]) fun γ1 => ?_
  simp only [frameOf, Tryd.ntmps43]
  have e64 : ((b.length : Int) % 18446744073709551616) = ((UInt64.ofNat b.length).toNat : Int) := by
    rw [UInt64.toNat_ofNat']; omega
  repeat (first | simp only [go_sem, Nat.reduceLT, Nat.reduceEqDiff, reduceIte, Int.reduceEq, Int.reduceLE, Int.reduceLT, Nat.reduceMul, Nat.reduceAdd, Nat.reduceSub, Int.reduceNeg, Int.reduceAdd, Int.reduceMul, Int.reduceSub, Int.reduceToNat, Nat.reduceLeDiff, Nat.reduceDiv, Int.reduceDiv, reduceCtorEq, Option.some.injEq, exists_eq_left', hs_take hs, hs_d8 hs, hs_d9 hs, hs_len hs, hs_t10 hs, List.length_map, zh_eq] | refine AW.seq ?_ | refine AW.block ?_ | refine AW.scope ?_ | refine AW.cond_tt rfl ?_ | refine AW.cond_ff rfl ?_ | refine AW.label ?_ | refine AW.skip ?_ | refine AW.ret ?_ | refine AW.exit ?_ | refine AW.region ?_ | refine AW.draw (by kernel_rfl) (by decide +kernel) ?_ | refine AW.drawN (by kernel_rfl) (by decide +kernel) ?_ | ((with_reducible refine And.intro ?_ ?_); (focus ((repeat' (with_reducible apply And.intro)) <;> first | (with_reducible exact OrdAt.of (by kernel_rfl)) | (with_reducible exact OrdT.of (by kernel_rfl)) | exact True.intro | (with_reducible assumption) | omega | rfl | exact Nat.le_of_ble_eq_true rfl | exact Or.inl trivial | (unfold inI; omega)))))
  refine CallE.flat (f55 s hs r m) (by simp only [List.map_cons, List.map_nil, frz_hv]) rfl (by rfl) ?_
  repeat (first | simp only [go_sem, Nat.reduceLT, Nat.reduceEqDiff, reduceIte, Int.reduceEq, Int.reduceLE, Int.reduceLT, Nat.reduceMul, Nat.reduceAdd, Nat.reduceSub, Int.reduceNeg, Int.reduceAdd, Int.reduceMul, Int.reduceSub, Int.reduceToNat, Nat.reduceLeDiff, Nat.reduceDiv, Int.reduceDiv, reduceCtorEq, Option.some.injEq, exists_eq_left'] | refine AW.seq ?_ | refine AW.block ?_ | refine AW.scope ?_ | refine AW.cond_tt rfl ?_ | refine AW.cond_ff rfl ?_ | refine AW.label ?_ | refine AW.skip ?_ | refine AW.ret ?_ | refine AW.exit ?_ | refine AW.region ?_ | refine AW.draw (by kernel_rfl) (by decide +kernel) ?_ | refine AW.drawN (by kernel_rfl) (by decide +kernel) ?_ | ((with_reducible refine And.intro ?_ ?_); (focus ((repeat' (with_reducible apply And.intro)) <;> first | (with_reducible exact OrdAt.of (by kernel_rfl)) | (with_reducible exact OrdT.of (by kernel_rfl)) | exact True.intro | (with_reducible assumption) | omega | rfl | exact Nat.le_of_ble_eq_true rfl | exact Or.inl trivial | (unfold inI; omega)))))
  refine AW.cond_dec rfl (fun h1 => ?_) (fun h1 => ?_)
  · repeat (first | simp only [go_sem, Nat.reduceLT, Nat.reduceEqDiff, reduceIte, Int.reduceEq, Int.reduceLE, Int.reduceLT, Nat.reduceMul, Nat.reduceAdd, Nat.reduceSub, Int.reduceNeg, Int.reduceAdd, Int.reduceMul, Int.reduceSub, Int.reduceToNat, Nat.reduceLeDiff, Nat.reduceDiv, Int.reduceDiv, reduceCtorEq, Option.some.injEq, exists_eq_left', hs_take hs, hs_d8 hs, hs_d9 hs, hs_len hs, hs_t10 hs] | refine AW.seq ?_ | refine AW.block ?_ | refine AW.scope ?_ | refine AW.cond_tt rfl ?_ | refine AW.cond_ff rfl ?_ | refine AW.label ?_ | refine AW.skip ?_ | refine AW.ret ?_ | refine AW.exit ?_ | refine AW.region ?_ | refine AW.draw (by kernel_rfl) (by decide +kernel) ?_ | refine AW.drawN (by kernel_rfl) (by decide +kernel) ?_ | ((with_reducible refine And.intro ?_ ?_); (focus ((repeat' (with_reducible apply And.intro)) <;> first | (with_reducible exact OrdAt.of (by kernel_rfl)) | (with_reducible exact OrdT.of (by kernel_rfl)) | exact True.intro | (with_reducible assumption) | omega | rfl | exact Nat.le_of_ble_eq_true rfl | exact Or.inl trivial | (unfold inI; omega)))))
    refine CallE.mem (f56 r (by omega)) rfl (by simp [bor]) (by rfl) ?_
    repeat (first | simp only [go_sem, Nat.reduceLT, Nat.reduceEqDiff, reduceIte, Int.reduceEq, Int.reduceLE, Int.reduceLT, Nat.reduceMul, Nat.reduceAdd, Nat.reduceSub, Int.reduceNeg, Int.reduceAdd, Int.reduceMul, Int.reduceSub, Int.reduceToNat, Nat.reduceLeDiff, Nat.reduceDiv, Int.reduceDiv, reduceCtorEq, Option.some.injEq, exists_eq_left', hs_take hs, hs_d8 hs, hs_d9 hs, hs_len hs, hs_s8 hs, zh_len, hs_t10 hs, zh_spl hs] | refine AW.seq ?_ | refine AW.block ?_ | refine AW.scope ?_ | refine AW.cond_tt rfl ?_ | refine AW.cond_ff rfl ?_ | refine AW.label ?_ | refine AW.skip ?_ | refine AW.ret ?_ | refine AW.exit ?_ | refine AW.region ?_ | refine AW.draw (by kernel_rfl) (by decide +kernel) ?_ | refine AW.drawN (by kernel_rfl) (by decide +kernel) ?_ | ((with_reducible refine And.intro ?_ ?_); (focus ((repeat' (with_reducible apply And.intro)) <;> first | (with_reducible exact OrdAt.of (by kernel_rfl)) | (with_reducible exact OrdT.of (by kernel_rfl)) | exact True.intro | (with_reducible assumption) | omega | rfl | exact Nat.le_of_ble_eq_true rfl | exact Or.inl trivial | (unfold inI; omega)))))
    rw [dt_hv, moreS, moreR, moreM, moreE, if_neg h1, if_neg h1, if_neg h1, if_neg h1]
    exact Wk.refl _
  · repeat (first | simp only [go_sem, Nat.reduceLT, Nat.reduceEqDiff, reduceIte, Int.reduceEq, Int.reduceLE, Int.reduceLT, Nat.reduceMul, Nat.reduceAdd, Nat.reduceSub, Int.reduceNeg, Int.reduceAdd, Int.reduceMul, Int.reduceSub, Int.reduceToNat, Nat.reduceLeDiff, Nat.reduceDiv, Int.reduceDiv, reduceCtorEq, Option.some.injEq, exists_eq_left', hs_take hs, hs_d8 hs, hs_d9 hs, hs_len hs, hs_t10 hs, List.length_append] | refine AW.seq ?_ | refine AW.block ?_ | refine AW.scope ?_ | refine AW.cond_tt rfl ?_ | refine AW.cond_ff rfl ?_ | refine AW.label ?_ | refine AW.skip ?_ | refine AW.ret ?_ | refine AW.exit ?_ | refine AW.region ?_ | refine AW.draw (by kernel_rfl) (by decide +kernel) ?_ | refine AW.drawN (by kernel_rfl) (by decide +kernel) ?_ | ((with_reducible refine And.intro ?_ ?_); (focus ((repeat' (with_reducible apply And.intro)) <;> first | (with_reducible exact OrdAt.of (by kernel_rfl)) | (with_reducible exact OrdT.of (by kernel_rfl)) | exact True.intro | (with_reducible assumption) | omega | rfl | exact Nat.le_of_ble_eq_true rfl | exact Or.inl trivial | (unfold inI; omega)))))
    refine AW.loop (fun s' => ∃ (s2 : List UInt32) (t : List UInt8), s2.length = 8 ∧ t.length ≤ 1000000 ∧ eat s2 t = eat s (r ++ b) ∧ s' = ss8 s2 r m b t) (fun s' => slotLen s' 6) (s0 := ss8 s r m b (r ++ b)) ?_ ⟨s, r ++ b, hs, by rw [List.length_append]; omega, rfl, rfl⟩ ?_
    · simp only [ss8, List.length_append]
      refine (Sub.untok 6 rfl).trans ?_
      exact (Sub.same (by first | exact Nat.zero_le _ | exact Nat.le_refl _ | decide | omega) rfl rfl (by simp) (by simp [lab, labL, ren, renL, look_cons, renL_bys, labL_bys, renL_mapu8, labL_mapu8, renL_mapu32, labL_mapu32]) (by simp [labO, renO, lab, labL, ren, renL, look_cons, renL_bys, labL_bys, renL_mapu8, labL_mapu8, renL_mapu32, labL_mapu32]))
    rintro s' ⟨s2, t, hs2, ht, he, rfl⟩
    simp only [ss8]
    repeat (first | simp only [go_sem, Nat.reduceLT, Nat.reduceEqDiff, reduceIte, Int.reduceEq, Int.reduceLE, Int.reduceLT, Nat.reduceMul, Nat.reduceAdd, Nat.reduceSub, Int.reduceNeg, Int.reduceAdd, Int.reduceMul, Int.reduceSub, Int.reduceToNat, Nat.reduceLeDiff, Nat.reduceDiv, Int.reduceDiv, reduceCtorEq, Option.some.injEq, exists_eq_left'] | refine AW.seq ?_ | refine AW.block ?_ | refine AW.scope ?_ | refine AW.cond_tt rfl ?_ | refine AW.cond_ff rfl ?_ | refine AW.label ?_ | refine AW.skip ?_ | refine AW.ret ?_ | refine AW.exit ?_ | refine AW.region ?_ | refine AW.draw (by kernel_rfl) (by decide +kernel) ?_ | refine AW.drawN (by kernel_rfl) (by decide +kernel) ?_ | ((with_reducible refine And.intro ?_ ?_); (focus ((repeat' (with_reducible apply And.intro)) <;> first | (with_reducible exact OrdAt.of (by kernel_rfl)) | (with_reducible exact OrdT.of (by kernel_rfl)) | exact True.intro | (with_reducible assumption) | omega | rfl | exact Nat.le_of_ble_eq_true rfl | exact Or.inl trivial | (unfold inI; omega)))))
    refine AW.cond_dec rfl (fun h2 => ?_) (fun h2 => ?_)
    · have h64 : 64 ≤ t.length := by omega
      have hbl : (blk s2 t).length = 8 := by rw [blk_len, hs2]
      have e4 : ((t.length : Int) - 64).toNat = t.length - 64 := by omega
      have e5 : (t.drop 64).take (t.length - 64) = t.drop 64 := List.take_of_length_le (by rw [List.length_drop]; omega)
      repeat (first | simp only [go_sem, Nat.reduceLT, Nat.reduceEqDiff, reduceIte, Int.reduceEq, Int.reduceLE, Int.reduceLT, Nat.reduceMul, Nat.reduceAdd, Nat.reduceSub, Int.reduceNeg, Int.reduceAdd, Int.reduceMul, Int.reduceSub, Int.reduceToNat, Nat.reduceLeDiff, Nat.reduceDiv, Int.reduceDiv, reduceCtorEq, Option.some.injEq, exists_eq_left', hs_take hs2, hs_d8 hs2, hs_d9 hs2, hs_len hs2, hs_t10 hs2] | refine AW.seq ?_ | refine AW.block ?_ | refine AW.scope ?_ | refine AW.cond_tt rfl ?_ | refine AW.cond_ff rfl ?_ | refine AW.label ?_ | refine AW.skip ?_ | refine AW.ret ?_ | refine AW.exit ?_ | refine AW.region ?_ | refine AW.draw (by kernel_rfl) (by decide +kernel) ?_ | refine AW.drawN (by kernel_rfl) (by decide +kernel) ?_ | ((with_reducible refine And.intro ?_ ?_); (focus ((repeat' (with_reducible apply And.intro)) <;> first | (with_reducible exact OrdAt.of (by kernel_rfl)) | (with_reducible exact OrdT.of (by kernel_rfl)) | exact True.intro | (with_reducible assumption) | omega | rfl | exact Nat.le_of_ble_eq_true rfl | exact Or.inl trivial | (unfold inI; omega)))))
      refine CallE.mem (f57 s2 hs2 t h64 ht) (by simp only [List.map_cons, List.map_nil, frz_sl, frz_agg32]) (by simp [bor]) (by rfl) ?_
      repeat (first | simp only [go_sem, Nat.reduceLT, Nat.reduceEqDiff, reduceIte, Int.reduceEq, Int.reduceLE, Int.reduceLT, Nat.reduceMul, Nat.reduceAdd, Nat.reduceSub, Int.reduceNeg, Int.reduceAdd, Int.reduceMul, Int.reduceSub, Int.reduceToNat, Nat.reduceLeDiff, Nat.reduceDiv, Int.reduceDiv, reduceCtorEq, Option.some.injEq, exists_eq_left', hs_take hs2, hs_d8 hs2, hs_d9 hs2, hs_len hs2, hs_t10 hs2, List.length_map, hbl, hs_s0 hs2 hbl, e4, e5] | refine AW.seq ?_ | refine AW.block ?_ | refine AW.scope ?_ | refine AW.cond_tt rfl ?_ | refine AW.cond_ff rfl ?_ | refine AW.label ?_ | refine AW.skip ?_ | refine AW.ret ?_ | refine AW.exit ?_ | refine AW.region ?_ | refine AW.draw (by kernel_rfl) (by decide +kernel) ?_ | refine AW.drawN (by kernel_rfl) (by decide +kernel) ?_ | ((with_reducible refine And.intro ?_ ?_); (focus ((repeat' (with_reducible apply And.intro)) <;> first | (with_reducible exact OrdAt.of (by kernel_rfl)) | (with_reducible exact OrdT.of (by kernel_rfl)) | exact True.intro | (with_reducible assumption) | omega | rfl | exact Nat.le_of_ble_eq_true rfl | exact Or.inl trivial | (unfold inI; omega)))))
      rw [Qof_lp]
      refine ⟨ss8 (blk s2 t) r m b (t.drop 64), ?_, ⟨_, _, hbl, by rw [List.length_drop]; omega, by rw [← eat_ge (by omega), he], rfl⟩, ?_⟩
      · simp only [ss8, List.length_drop]
        exact (Sub.same (by first | exact Nat.zero_le _ | exact Nat.le_refl _ | decide | omega) rfl rfl (by simp) (by simp [lab, labL, ren, renL, look_cons, renL_bys, labL_bys, renL_mapu8, labL_mapu8, renL_mapu32, labL_mapu32]) (by simp [labO, renO, lab, labL, ren, renL, look_cons, renL_bys, labL_bys, renL_mapu8, labL_mapu8, renL_mapu32, labL_mapu32]))
      · simp [slotLen, ss8, look_cons]; omega
    · have h64 : t.length < 64 := by omega
      rw [eat_lt h64] at he
      repeat (first | simp only [go_sem, Nat.reduceLT, Nat.reduceEqDiff, reduceIte, Int.reduceEq, Int.reduceLE, Int.reduceLT, Nat.reduceMul, Nat.reduceAdd, Nat.reduceSub, Int.reduceNeg, Int.reduceAdd, Int.reduceMul, Int.reduceSub, Int.reduceToNat, Nat.reduceLeDiff, Nat.reduceDiv, Int.reduceDiv, reduceCtorEq, Option.some.injEq, exists_eq_left'] | refine AW.seq ?_ | refine AW.block ?_ | refine AW.scope ?_ | refine AW.cond_tt rfl ?_ | refine AW.cond_ff rfl ?_ | refine AW.label ?_ | refine AW.skip ?_ | refine AW.ret ?_ | refine AW.exit ?_ | refine AW.region ?_ | refine AW.draw (by kernel_rfl) (by decide +kernel) ?_ | refine AW.drawN (by kernel_rfl) (by decide +kernel) ?_ | ((with_reducible refine And.intro ?_ ?_); (focus ((repeat' (with_reducible apply And.intro)) <;> first | (with_reducible exact OrdAt.of (by kernel_rfl)) | (with_reducible exact OrdT.of (by kernel_rfl)) | exact True.intro | (with_reducible assumption) | omega | rfl | exact Nat.le_of_ble_eq_true rfl | exact Or.inl trivial | (unfold inI; omega)))))
      refine CallE.mem (f56 t (by omega)) rfl (by simp [bor]) (by rfl) ?_
      repeat (first | simp only [go_sem, Nat.reduceLT, Nat.reduceEqDiff, reduceIte, Int.reduceEq, Int.reduceLE, Int.reduceLT, Nat.reduceMul, Nat.reduceAdd, Nat.reduceSub, Int.reduceNeg, Int.reduceAdd, Int.reduceMul, Int.reduceSub, Int.reduceToNat, Nat.reduceLeDiff, Nat.reduceDiv, Int.reduceDiv, reduceCtorEq, Option.some.injEq, exists_eq_left', hs_take hs2, hs_d8 hs2, hs_d9 hs2, hs_len hs2, hs_t10 hs2, hs_s8 hs2, hs_s9 hs2, zh_len, zh_spl hs2, e64] | refine AW.seq ?_ | refine AW.block ?_ | refine AW.scope ?_ | refine AW.cond_tt rfl ?_ | refine AW.cond_ff rfl ?_ | refine AW.label ?_ | refine AW.skip ?_ | refine AW.ret ?_ | refine AW.exit ?_ | refine AW.region ?_ | refine AW.draw (by kernel_rfl) (by decide +kernel) ?_ | refine AW.drawN (by kernel_rfl) (by decide +kernel) ?_ | ((with_reducible refine And.intro ?_ ?_); (focus ((repeat' (with_reducible apply And.intro)) <;> first | (with_reducible exact OrdAt.of (by kernel_rfl)) | (with_reducible exact OrdT.of (by kernel_rfl)) | exact True.intro | (with_reducible assumption) | omega | rfl | exact Nat.le_of_ble_eq_true rfl | exact Or.inl trivial | (unfold inI; omega)))))
      rw [dt_hv, moreS, moreR, moreM, moreE, if_pos (Decidable.not_not.1 h1), if_pos (Decidable.not_not.1 h1), if_pos (Decidable.not_not.1 h1), if_pos (Decidable.not_not.1 h1), ← he]
      exact Wk.refl _
end Go.Proofs.YtpknjecfloglgaaDoor

namespace Go.Proofs.YtpknjecfloglgaaDoor
open Go Go.Eng Go.Proofs
set_option maxRecDepth 100000
set_option maxHeartbeats 1000000
set_option linter.unusedSimpArgs false
set_option linter.unusedVariables false
attribute [local simp] labL_app renL_app
section
variable {s : List UInt32} {x y : AV} (hs : s.length = 8)
include hs
end
end Go.Proofs.YtpknjecfloglgaaDoor

namespace Go.Proofs.YtpknjecfloglgaaDoor
open Go Go.Eng Go.Proofs
set_option maxRecDepth 100000
set_option maxHeartbeats 1000000
set_option linter.unusedSimpArgs false
set_option linter.unusedVariables false
attribute [local simp] labL_app renL_app
theorem eat_len (s : List UInt32) (t : List UInt8) : (eat s t).1.length = s.length := by
  induction s, t using eat.induct with
  | case1 s t h => rw [eat_lt h]
  | case2 s t h ih => rw [eat_ge h, ih, blk_len]
theorem moreS_len (s : List UInt32) (r : List UInt8) (m : UInt64) (b : List UInt8) : (moreS s r m b).length = s.length := by
  unfold moreS; split
  · exact eat_len _ _
  · rfl
def padN (r : List UInt8) : Nat := (119 - r.length) % 64
def endB (r : List UInt8) (m : UInt64) : List UInt8 := (128 :: List.replicate (padN r) 0) ++ bigE (8 * m) 8 8
theorem endB_length (r : List UInt8) (m : UInt64) : (endB r m).length = 9 + padN r := by simp [endB, bigE_length]; omega
def byteAt (s : List UInt32) (i : Nat) : UInt8 := (shr32 (s.getD (i / 4) 0) (8 * (3 - i % 4))).toUInt8
def sumG (s : List UInt32) (n : Nat) : List UInt8 := (List.range 32).map fun i => if i < n then byteAt s i else 0
theorem sumG_len (s : List UInt32) (n : Nat) : (sumG s n).length = 32 := by simp [sumG]
theorem sumG_set (s : List UInt32) (n : Nat) : (sumG s n).set n (byteAt s n) = sumG s (n + 1) := by
  apply List.ext_getElem?
  intro i
  rw [List.getElem?_set, sumG_len]
  simp only [sumG, List.getElem?_map, List.getElem?_range']
  by_cases h : n = i
  · subst h
    by_cases h2 : n < 32
    · simp [h2, List.getElem?_range h2]
    · simp [h2, List.getElem?_eq_none]
  · simp only [if_neg h]
    by_cases h2 : i < 32
    · rw [List.getElem?_range h2]
      simp only [Option.map_some]
      by_cases h3 : i < n
      · simp [h3, show i < n + 1 by omega]
      · simp [h3, show ¬ i < n + 1 by omega]
    · simp [List.getElem?_eq_none, h2]
theorem sumG_zero (s : List UInt32) : sumG s 0 = List.replicate 32 0 := by simp [sumG]; rfl
@[go_sem] theorem wrap_u32_u8 (x : UInt32) : IntKind.u8.wrap (x.toNat : Int) = (x.toUInt8.toNat : Int) := by
  rw [wrap_u _ rfl, UInt32.toNat_toUInt8]; rfl
theorem shr32_zero (x : UInt32) : shr32 x 0 = x := by apply UInt32.toNat_inj.1; simp [shr32]
theorem byteAt0 (M : List UInt32) (n : Nat) : byteAt M (4 * n) = (shr32 (M.getD n 0) 24).toUInt8 := by
  unfold byteAt; rw [show 4 * n / 4 = n by omega, show 4 * n % 4 = 0 by omega]
theorem byteAt1 (M : List UInt32) (n : Nat) : byteAt M (4 * n + 1) = (shr32 (M.getD n 0) 16).toUInt8 := by
  unfold byteAt; rw [show (4 * n + 1) / 4 = n by omega, show (4 * n + 1) % 4 = 1 by omega]
theorem byteAt2 (M : List UInt32) (n : Nat) : byteAt M (4 * n + 2) = (shr32 (M.getD n 0) 8).toUInt8 := by
  unfold byteAt; rw [show (4 * n + 2) / 4 = n by omega, show (4 * n + 2) % 4 = 2 by omega]
theorem byteAt3 (M : List UInt32) (n : Nat) : byteAt M (4 * n + 3) = (M.getD n 0).toUInt8 := by
  unfold byteAt; rw [show (4 * n + 3) / 4 = n by omega, show (4 * n + 3) % 4 = 3 by omega, show 8 * (3 - 3) = 0 from rfl, shr32_zero]
def ss10 (M : List UInt32) (n : Nat) : S := ⟨[(39, int n), (38, .agg (M.map u32)), (4, .loc 2 0), (2, .loc 1 0)], 71, [(2, .box ((sumG M (4 * n)).map u8)), (1, .box ((List.replicate 32 (0 : UInt8)).map u8))], 5, []⟩
def finS (s : List UInt32) (r : List UInt8) (m : UInt64) : List UInt8 := if fitsS r m then sumG (moreS s r m (endB r m)) 32 else List.replicate 32 0
theorem f45 (s : List UInt32) (hs : s.length = 8) (r : List UInt8) (m : UInt64) :
    AFun Tryd.prog 45 [.agg (hv s r m)] (.tup [.agg ((finS s r m).map u8), int (moreE r m)]) := by
  refine AFun.enterW Tryd.func45 rfl Tryd.call45 (by simp [Tryd.ntmps45]) fun γ1 => ?_
  simp only [frameOf, Tryd.ntmps45]
  repeat (first | simp only [go_sem, Nat.reduceLT, Nat.reduceEqDiff, reduceIte, Int.reduceEq, Int.reduceLE, Int.reduceLT, Nat.reduceMul, Nat.reduceAdd, Nat.reduceSub, Int.reduceNeg, Int.reduceAdd, Int.reduceMul, Int.reduceSub, Int.reduceToNat, Nat.reduceLeDiff, Nat.reduceDiv, Int.reduceDiv, reduceCtorEq, Option.some.injEq, exists_eq_left', hs_take hs, hs_d8 hs, hs_d9 hs, hs_len hs, hs_t10 hs, List.length_map, zh_eq] | refine AW.seq ?_ | refine AW.block ?_ | refine AW.scope ?_ | refine AW.cond_tt rfl ?_ | refine AW.cond_ff rfl ?_ | refine AW.label ?_ | refine AW.skip ?_ | refine AW.ret ?_ | refine AW.exit ?_ | refine AW.region ?_ | refine AW.draw (by kernel_rfl) (by decide +kernel) ?_ | refine AW.drawN (by kernel_rfl) (by decide +kernel) ?_ | ((with_reducible refine And.intro ?_ ?_); (focus ((repeat' (with_reducible apply And.intro)) <;> first | (with_reducible exact OrdAt.of (by kernel_rfl)) | (with_reducible exact OrdT.of (by kernel_rfl)) | exact True.intro | (with_reducible assumption) | omega | rfl | exact Nat.le_of_ble_eq_true rfl | exact Or.inl trivial | (unfold inI; omega)))))
  refine CallE.flat (f55 s hs r m) (by simp only [List.map_cons, List.map_nil, frz_hv]) rfl (by rfl) ?_
  repeat (first | simp only [go_sem, Nat.reduceLT, Nat.reduceEqDiff, reduceIte, Int.reduceEq, Int.reduceLE, Int.reduceLT, Nat.reduceMul, Nat.reduceAdd, Nat.reduceSub, Int.reduceNeg, Int.reduceAdd, Int.reduceMul, Int.reduceSub, Int.reduceToNat, Nat.reduceLeDiff, Nat.reduceDiv, Int.reduceDiv, reduceCtorEq, Option.some.injEq, exists_eq_left'] | refine AW.seq ?_ | refine AW.block ?_ | refine AW.scope ?_ | refine AW.cond_tt rfl ?_ | refine AW.cond_ff rfl ?_ | refine AW.label ?_ | refine AW.skip ?_ | refine AW.ret ?_ | refine AW.exit ?_ | refine AW.region ?_ | refine AW.draw (by kernel_rfl) (by decide +kernel) ?_ | refine AW.drawN (by kernel_rfl) (by decide +kernel) ?_ | ((with_reducible refine And.intro ?_ ?_); (focus ((repeat' (with_reducible apply And.intro)) <;> first | (with_reducible exact OrdAt.of (by kernel_rfl)) | (with_reducible exact OrdT.of (by kernel_rfl)) | exact True.intro | (with_reducible assumption) | omega | rfl | exact Nat.le_of_ble_eq_true rfl | exact Or.inl trivial | (unfold inI; omega)))))
  refine AW.cond_dec rfl (fun h1 => ?_) (fun h1 => ?_)
  · have hz : splice (List.replicate 32 (u8 0)) 0 (List.take 32 (List.replicate 32 (u8 0))) = (List.replicate 32 (0 : UInt8)).map u8 := rfl
    have hz2 : ((List.replicate 32 (0 : UInt8)).map u8).take 32 = (List.replicate 32 (0 : UInt8)).map u8 := rfl
    repeat (first | simp only [go_sem, Nat.reduceLT, Nat.reduceEqDiff, reduceIte, Int.reduceEq, Int.reduceLE, Int.reduceLT, Nat.reduceMul, Nat.reduceAdd, Nat.reduceSub, Int.reduceNeg, Int.reduceAdd, Int.reduceMul, Int.reduceSub, Int.reduceToNat, Nat.reduceLeDiff, Nat.reduceDiv, Int.reduceDiv, reduceCtorEq, Option.some.injEq, exists_eq_left', hs_take hs, hs_d8 hs, hs_d9 hs, hs_len hs, hs_t10 hs, List.length_replicate, hz, hz2, List.length_map] | refine AW.seq ?_ | refine AW.block ?_ | refine AW.scope ?_ | refine AW.cond_tt rfl ?_ | refine AW.cond_ff rfl ?_ | refine AW.label ?_ | refine AW.skip ?_ | refine AW.ret ?_ | refine AW.exit ?_ | refine AW.region ?_ | refine AW.draw (by kernel_rfl) (by decide +kernel) ?_ | refine AW.drawN (by kernel_rfl) (by decide +kernel) ?_ | ((with_reducible refine And.intro ?_ ?_); (focus ((repeat' (with_reducible apply And.intro)) <;> first | (with_reducible exact OrdAt.of (by kernel_rfl)) | (with_reducible exact OrdT.of (by kernel_rfl)) | exact True.intro | (with_reducible assumption) | omega | rfl | exact Nat.le_of_ble_eq_true rfl | exact Or.inl trivial | (unfold inI; omega)))))
    rw [finS, if_neg h1, moreE, if_neg h1]
    exact Wk.refl _
  · have hf := Decidable.not_not.1 h1
    have hrl : r.length < 64 := hf.1
    have e1 : ((119 : Int) - (r.length : Int)).tmod 64 = (padN r : Int) := by
      rw [Int.tmod_eq_emod_of_nonneg (by omega)]; unfold padN; omega
    have e2 : ((1 : Int) + (padN r : Int)).toNat = padN r + 1 := by omega
    have hp : padN r < 64 := Nat.mod_lt _ (by omega)
    have hz2 : splice (List.replicate (padN r + 1) (u8 0)) 0 [u8 128] = u8 128 :: List.replicate (padN r) (u8 0) := by simp [splice, List.replicate_succ]
    have hpb : ¬ putBad (8 * m) 8 := by unfold putBad; omega
    have hB : putS (128 :: List.replicate (padN r) 0) (8 * m) 8 = endB r m := by rw [putS, if_neg hpb]; rfl
    have hBl : (128 :: List.replicate (padN r) (0 : UInt8)).length = padN r + 1 := by simp
    have hel := endB_length r m
    have q8 : binO Tryd.prog 64 .mul (.v (.int .u64 8)) (u64 m) = (True, u64 (8 * m)) := bin_mul_u64 (P := Tryd.prog) (t := 64) 8 m
    have hzr : zrow [u8 0] (padN r + 1) = bys (List.replicate (padN r + 1) 0) := by simp [zrow, bys]
    have hz1 : splice (bys (List.replicate (padN r + 1) 0)) 0 [u8 128] = bys (128 :: List.replicate (padN r) 0) := by simp [bys, splice, List.replicate_succ]
    repeat (first | simp only [go_sem, Nat.reduceLT, Nat.reduceEqDiff, reduceIte, Int.reduceEq, Int.reduceLE, Int.reduceLT, Nat.reduceMul, Nat.reduceAdd, Nat.reduceSub, Int.reduceNeg, Int.reduceAdd, Int.reduceMul, Int.reduceSub, Int.reduceToNat, Nat.reduceLeDiff, Nat.reduceDiv, Int.reduceDiv, reduceCtorEq, Option.some.injEq, exists_eq_left', hs_take hs, hs_d8 hs, hs_d9 hs, hs_len hs, hs_t10 hs, List.length_append, e1, e2, hzr, hz1, q8, bys_length, List.length_replicate, List.length_cons] | refine AW.seq ?_ | refine AW.block ?_ | refine AW.scope ?_ | refine AW.cond_tt rfl ?_ | refine AW.cond_ff rfl ?_ | refine AW.label ?_ | refine AW.skip ?_ | refine AW.ret ?_ | refine AW.exit ?_ | refine AW.region ?_ | refine AW.draw (by kernel_rfl) (by decide +kernel) ?_ | refine AW.drawN (by kernel_rfl) (by decide +kernel) ?_ | ((with_reducible refine And.intro ?_ ?_); (focus ((repeat' (with_reducible apply And.intro)) <;> first | (with_reducible exact OrdAt.of (by kernel_rfl)) | (with_reducible exact OrdT.of (by kernel_rfl)) | exact True.intro | (with_reducible assumption) | omega | rfl | exact Nat.le_of_ble_eq_true rfl | exact Or.inl trivial | (unfold inI; omega)))))
    have hput := f58 (128 :: List.replicate (padN r) 0) (by rw [hBl]; omega) (8 * m) 8 (by unfold inI; omega)
    rw [hB, putE, if_neg hpb, hBl] at hput
    refine CallE.mem hput (by simp [frz, rowOf, look_cons, bys, dt, hz2]) (by simp [bor, look_cons, isBox]) (by rfl) ?_
    repeat (first | simp only [go_sem, Nat.reduceLT, Nat.reduceEqDiff, reduceIte, Int.reduceEq, Int.reduceLE, Int.reduceLT, Nat.reduceMul, Nat.reduceAdd, Nat.reduceSub, Int.reduceNeg, Int.reduceAdd, Int.reduceMul, Int.reduceSub, Int.reduceToNat, Nat.reduceLeDiff, Nat.reduceDiv, Int.reduceDiv, reduceCtorEq, Option.some.injEq, exists_eq_left', hs_take hs, hs_d8 hs, hs_d9 hs, hs_len hs, hs_t10 hs, List.length_append] | refine AW.seq ?_ | refine AW.block ?_ | refine AW.scope ?_ | refine AW.cond_tt rfl ?_ | refine AW.cond_ff rfl ?_ | refine AW.label ?_ | refine AW.skip ?_ | refine AW.ret ?_ | refine AW.exit ?_ | refine AW.region ?_ | refine AW.draw (by kernel_rfl) (by decide +kernel) ?_ | refine AW.drawN (by kernel_rfl) (by decide +kernel) ?_ | ((with_reducible refine And.intro ?_ ?_); (focus ((repeat' (with_reducible apply And.intro)) <;> first | (with_reducible exact OrdAt.of (by kernel_rfl)) | (with_reducible exact OrdT.of (by kernel_rfl)) | exact True.intro | (with_reducible assumption) | omega | rfl | exact Nat.le_of_ble_eq_true rfl | exact Or.inl trivial | (unfold inI; omega)))))
    refine CallE.mem (f43 s hs r (by omega) m (endB r m) (by omega)) (by simp only [List.map_cons, List.map_nil, frz_hv, frz_sl]) (by simp [bor]) (by rfl) ?_
    have hml : (moreS s r m (endB r m)).length = 8 := by rw [moreS_len, hs]
    generalize hM : moreS s r m (endB r m) = M at hml ⊢
    generalize moreR s r m (endB r m) = Mr
    generalize moreM r m (endB r m) = Mm
    repeat (first | simp only [go_sem, Nat.reduceLT, Nat.reduceEqDiff, reduceIte, Int.reduceEq, Int.reduceLE, Int.reduceLT, Nat.reduceMul, Nat.reduceAdd, Nat.reduceSub, Int.reduceNeg, Int.reduceAdd, Int.reduceMul, Int.reduceSub, Int.reduceToNat, Nat.reduceLeDiff, Nat.reduceDiv, Int.reduceDiv, reduceCtorEq, Option.some.injEq, exists_eq_left', hs_take hml, hs_d8 hml, hs_d9 hml, hs_len hml, hs_t10 hml, zh_eq, zh_len, zh_spl hml] | refine AW.seq ?_ | refine AW.block ?_ | refine AW.scope ?_ | refine AW.cond_tt rfl ?_ | refine AW.cond_ff rfl ?_ | refine AW.label ?_ | refine AW.skip ?_ | refine AW.ret ?_ | refine AW.exit ?_ | refine AW.region ?_ | refine AW.draw (by kernel_rfl) (by decide +kernel) ?_ | refine AW.drawN (by kernel_rfl) (by decide +kernel) ?_ | ((with_reducible refine And.intro ?_ ?_); (focus ((repeat' (with_reducible apply And.intro)) <;> first | (with_reducible exact OrdAt.of (by kernel_rfl)) | (with_reducible exact OrdT.of (by kernel_rfl)) | exact True.intro | (with_reducible assumption) | omega | rfl | exact Nat.le_of_ble_eq_true rfl | exact Or.inl trivial | (unfold inI; omega)))))
    have hz32 : List.replicate 32 (u8 0) = (List.replicate 32 (0 : UInt8)).map u8 := rfl
    refine AW.loop (fun s' => ∃ n : Nat, n ≤ 8 ∧ s' = ss10 M n) (fun s' => (8 - slotN s' 39).toNat) (s0 := ss10 M 0) ?_ ⟨0, by omega, rfl⟩ ?_
    · simp only [ss10, sumG_zero, Nat.mul_zero, hz32]
      exact (Sub.same (by first | exact Nat.zero_le _ | exact Nat.le_refl _ | decide | omega) rfl rfl (by simp) (by simp [lab, labL, ren, renL, look_cons, renL_bys, labL_bys, renL_mapu8, labL_mapu8, renL_mapu32, labL_mapu32]) (by simp [labO, renO, lab, labL, ren, renL, look_cons, renL_bys, labL_bys, renL_mapu8, labL_mapu8, renL_mapu32, labL_mapu32]))
    rintro s' ⟨n, hn, rfl⟩
    simp only [ss10]
    repeat (first | simp only [go_sem, Nat.reduceLT, Nat.reduceEqDiff, reduceIte, Int.reduceEq, Int.reduceLE, Int.reduceLT, Nat.reduceMul, Nat.reduceAdd, Nat.reduceSub, Int.reduceNeg, Int.reduceAdd, Int.reduceMul, Int.reduceSub, Int.reduceToNat, Nat.reduceLeDiff, Nat.reduceDiv, Int.reduceDiv, reduceCtorEq, Option.some.injEq, exists_eq_left'] | refine AW.seq ?_ | refine AW.block ?_ | refine AW.scope ?_ | refine AW.cond_tt rfl ?_ | refine AW.cond_ff rfl ?_ | refine AW.label ?_ | refine AW.skip ?_ | refine AW.ret ?_ | refine AW.exit ?_ | refine AW.region ?_ | refine AW.draw (by kernel_rfl) (by decide +kernel) ?_ | refine AW.drawN (by kernel_rfl) (by decide +kernel) ?_ | ((with_reducible refine And.intro ?_ ?_); (focus ((repeat' (with_reducible apply And.intro)) <;> first | (with_reducible exact OrdAt.of (by kernel_rfl)) | (with_reducible exact OrdT.of (by kernel_rfl)) | exact True.intro | (with_reducible assumption) | omega | rfl | exact Nat.le_of_ble_eq_true rfl | exact Or.inl trivial | (unfold inI; omega)))))
    refine AW.cond_dec rfl (fun h2 => ?_) (fun h2 => ?_)
    · have hn8 : n < 8 := by omega
      have b0 : 4 * n < 32 := by omega
      have b1 : 4 * n + 1 < 32 := by omega
      have b2 : 4 * n + 2 < 32 := by omega
      have b3 : 4 * n + 3 < 32 := by omega
      have a0 : ((4 : Int) * n).toNat = 4 * n := by omega
      have a1 : ((4 : Int) * n + 1).toNat = 4 * n + 1 := by omega
      have a2 : ((4 : Int) * n + 2).toNat = 4 * n + 2 := by omega
      have a3 : ((4 : Int) * n + 3).toNat = 4 * n + 3 := by omega
      repeat (first | simp only [go_sem, Nat.reduceLT, Nat.reduceEqDiff, reduceIte, Int.reduceEq, Int.reduceLE, Int.reduceLT, Nat.reduceMul, Nat.reduceAdd, Nat.reduceSub, Int.reduceNeg, Int.reduceAdd, Int.reduceMul, Int.reduceSub, Int.reduceToNat, Nat.reduceLeDiff, Nat.reduceDiv, Int.reduceDiv, reduceCtorEq, Option.some.injEq, exists_eq_left', row_u32, splice_u8, hml, hn8, List.length_map, List.length_drop, a0, a1, a2, a3, b0, b1, b2, b3, sumG_len, List.length_set] | refine AW.seq ?_ | refine AW.block ?_ | refine AW.scope ?_ | refine AW.cond_tt rfl ?_ | refine AW.cond_ff rfl ?_ | refine AW.label ?_ | refine AW.skip ?_ | refine AW.ret ?_ | refine AW.exit ?_ | refine AW.region ?_ | refine AW.draw (by kernel_rfl) (by decide +kernel) ?_ | refine AW.drawN (by kernel_rfl) (by decide +kernel) ?_ | ((with_reducible refine And.intro ?_ ?_); (focus ((repeat' (with_reducible apply And.intro)) <;> first | (with_reducible exact OrdAt.of (by kernel_rfl)) | (with_reducible exact OrdT.of (by kernel_rfl)) | exact True.intro | (with_reducible assumption) | omega | rfl | exact Nat.le_of_ble_eq_true rfl | exact Or.inl trivial | (unfold inI; omega)))))
      rw [← byteAt0, ← byteAt1, ← byteAt2, ← byteAt3, sumG_set, sumG_set, sumG_set, sumG_set]
      rw [Qof_lp]
      refine ⟨ss10 M (n + 1), ?_, ⟨n + 1, by omega, rfl⟩, ?_⟩
      · simp only [ss10, Nat.mul_succ]
        exact (Sub.same (by first | exact Nat.zero_le _ | exact Nat.le_refl _ | decide | omega) rfl rfl (by simp) (by simp [lab, labL, ren, renL, look_cons, renL_bys, labL_bys, renL_mapu8, labL_mapu8, renL_mapu32, labL_mapu32]) (by simp [labO, renO, lab, labL, ren, renL, look_cons, renL_bys, labL_bys, renL_mapu8, labL_mapu8, renL_mapu32, labL_mapu32]))
      · simp [slotN, ss10, look_cons]; omega
    · have hn8 : n = 8 := by omega
      subst hn8
      have ht : ((sumG M 32).map u8).take 32 = (sumG M 32).map u8 := List.take_of_length_le (by rw [List.length_map, sumG_len]; exact Nat.le_refl _)
      have hsp : splice ((List.replicate 32 (0 : UInt8)).map u8) 0 ((sumG M 32).map u8) = (sumG M 32).map u8 := splice_all (by rw [List.length_map, List.length_map, sumG_len, List.length_replicate])
      repeat (first | simp only [go_sem, Nat.reduceLT, Nat.reduceEqDiff, reduceIte, Int.reduceEq, Int.reduceLE, Int.reduceLT, Nat.reduceMul, Nat.reduceAdd, Nat.reduceSub, Int.reduceNeg, Int.reduceAdd, Int.reduceMul, Int.reduceSub, Int.reduceToNat, Nat.reduceLeDiff, Nat.reduceDiv, Int.reduceDiv, reduceCtorEq, Option.some.injEq, exists_eq_left', List.length_map, sumG_len, ht, hsp, List.length_replicate] | refine AW.seq ?_ | refine AW.block ?_ | refine AW.scope ?_ | refine AW.cond_tt rfl ?_ | refine AW.cond_ff rfl ?_ | refine AW.label ?_ | refine AW.skip ?_ | refine AW.ret ?_ | refine AW.exit ?_ | refine AW.region ?_ | refine AW.draw (by kernel_rfl) (by decide +kernel) ?_ | refine AW.drawN (by kernel_rfl) (by decide +kernel) ?_ | ((with_reducible refine And.intro ?_ ?_); (focus ((repeat' (with_reducible apply And.intro)) <;> first | (with_reducible exact OrdAt.of (by kernel_rfl)) | (with_reducible exact OrdT.of (by kernel_rfl)) | exact True.intro | (with_reducible assumption) | omega | rfl | exact Nat.le_of_ble_eq_true rfl | exact Or.inl trivial | (unfold inI; omega)))))
      rw [finS, if_pos hf, hM, moreE, if_pos hf]
      exact Wk.refl _
end Go.Proofs.YtpknjecfloglgaaDoor

namespace Go.Proofs.YtpknjecfloglgaaDoor
open Go Go.Eng Go.Proofs
set_option maxRecDepth 100000
set_option maxHeartbeats 1000000
set_option linter.unusedSimpArgs false
set_option linter.unusedVariables false
attribute [local simp] labL_app renL_app
end Go.Proofs.YtpknjecfloglgaaDoor

namespace Go.Proofs.YtpknjecfloglgaaDoor
open Go Go.Eng Go.Proofs
set_option maxRecDepth 100000
set_option maxHeartbeats 1000000
set_option linter.unusedSimpArgs false
set_option linter.unusedVariables false
attribute [local simp] labL_app renL_app
def sumOf (b : List UInt8) : List UInt8 := finS (moreS shaFirst [] 0 b) (moreR shaFirst [] 0 b) (moreM [] 0 b)
theorem finS_len (s : List UInt32) (r : List UInt8) (m : UInt64) : (finS s r m).length = 32 := by
  unfold finS; split
  · exact sumG_len _ _
  · simp
theorem f28 (b : List UInt8) (hb : b.length ≤ 500000) : AFun Tryd.prog 28 [.sl 1 (bys b) b.length none] (.agg ((sumOf b).map u8)) := by
  refine AFun.enterW Tryd.func28 rfl Tryd.call28 (by simp [Tryd.ntmps28]) fun γ1 => ?_
  simp only [frameOf, Tryd.ntmps28]
  have hml : (moreS shaFirst [] 0 b).length = 8 := by rw [moreS_len]; rfl
  have hz : List.replicate 32 (u8 0) = (List.replicate 32 (0 : UInt8)).map u8 := rfl
  repeat (first | simp only [go_sem, Nat.reduceLT, Nat.reduceEqDiff, reduceIte, Int.reduceEq, Int.reduceLE, Int.reduceLT, Nat.reduceMul, Nat.reduceAdd, Nat.reduceSub, Int.reduceNeg, Int.reduceAdd, Int.reduceMul, Int.reduceSub, Int.reduceToNat, Nat.reduceLeDiff, Nat.reduceDiv, Int.reduceDiv, reduceCtorEq, Option.some.injEq, exists_eq_left'] | refine AW.seq ?_ | refine AW.block ?_ | refine AW.scope ?_ | refine AW.cond_tt rfl ?_ | refine AW.cond_ff rfl ?_ | refine AW.label ?_ | refine AW.skip ?_ | refine AW.ret ?_ | refine AW.exit ?_ | refine AW.region ?_ | refine AW.draw (by kernel_rfl) (by decide +kernel) ?_ | refine AW.drawN (by kernel_rfl) (by decide +kernel) ?_ | ((with_reducible refine And.intro ?_ ?_); (focus ((repeat' (with_reducible apply And.intro)) <;> first | (with_reducible exact OrdAt.of (by kernel_rfl)) | (with_reducible exact OrdT.of (by kernel_rfl)) | exact True.intro | (with_reducible assumption) | omega | rfl | exact Nat.le_of_ble_eq_true rfl | exact Or.inl trivial | (unfold inI; omega)))))
  refine CallE.mem f44 rfl (by simp [bor]) (by rfl) ?_
  repeat (first | simp only [go_sem, Nat.reduceLT, Nat.reduceEqDiff, reduceIte, Int.reduceEq, Int.reduceLE, Int.reduceLT, Nat.reduceMul, Nat.reduceAdd, Nat.reduceSub, Int.reduceNeg, Int.reduceAdd, Int.reduceMul, Int.reduceSub, Int.reduceToNat, Nat.reduceLeDiff, Nat.reduceDiv, Int.reduceDiv, reduceCtorEq, Option.some.injEq, exists_eq_left'] | refine AW.seq ?_ | refine AW.block ?_ | refine AW.scope ?_ | refine AW.cond_tt rfl ?_ | refine AW.cond_ff rfl ?_ | refine AW.label ?_ | refine AW.skip ?_ | refine AW.ret ?_ | refine AW.exit ?_ | refine AW.region ?_ | refine AW.draw (by kernel_rfl) (by decide +kernel) ?_ | refine AW.drawN (by kernel_rfl) (by decide +kernel) ?_ | ((with_reducible refine And.intro ?_ ?_); (focus ((repeat' (with_reducible apply And.intro)) <;> first | (with_reducible exact OrdAt.of (by kernel_rfl)) | (with_reducible exact OrdT.of (by kernel_rfl)) | exact True.intro | (with_reducible assumption) | omega | rfl | exact Nat.le_of_ble_eq_true rfl | exact Or.inl trivial | (unfold inI; omega)))))
  refine CallE.mem (f43 shaFirst rfl [] (by simp) 0 b hb) (by simp only [List.map_cons, List.map_nil, frz_hv, frz_sl]) (by simp [bor]) (by rfl) ?_
  unfold sumOf
  generalize hM : moreS shaFirst [] 0 b = M at hml ⊢
  generalize moreR shaFirst [] 0 b = Mr
  generalize moreM [] 0 b = Mm
  repeat (first | simp only [go_sem, Nat.reduceLT, Nat.reduceEqDiff, reduceIte, Int.reduceEq, Int.reduceLE, Int.reduceLT, Nat.reduceMul, Nat.reduceAdd, Nat.reduceSub, Int.reduceNeg, Int.reduceAdd, Int.reduceMul, Int.reduceSub, Int.reduceToNat, Nat.reduceLeDiff, Nat.reduceDiv, Int.reduceDiv, reduceCtorEq, Option.some.injEq, exists_eq_left', hs_take hml, hs_d8 hml, hs_d9 hml, hs_len hml, hs_t10 hml, zh_eq, zh_len, zh_spl hml] | refine AW.seq ?_ | refine AW.block ?_ | refine AW.scope ?_ | refine AW.cond_tt rfl ?_ | refine AW.cond_ff rfl ?_ | refine AW.label ?_ | refine AW.skip ?_ | refine AW.ret ?_ | refine AW.exit ?_ | refine AW.region ?_ | refine AW.draw (by kernel_rfl) (by decide +kernel) ?_ | refine AW.drawN (by kernel_rfl) (by decide +kernel) ?_ | ((with_reducible refine And.intro ?_ ?_); (focus ((repeat' (with_reducible apply And.intro)) <;> first | (with_reducible exact OrdAt.of (by kernel_rfl)) | (with_reducible exact OrdT.of (by kernel_rfl)) | exact True.intro | (with_reducible assumption) | omega | rfl | exact Nat.le_of_ble_eq_true rfl | exact Or.inl trivial | (unfold inI; omega)))))
  refine CallE.mem (f45 M hml Mr Mm) (by simp only [List.map_cons, List.map_nil, frz_hv, frz_sl]) (by simp [bor]) (by rfl) ?_
  have hfl := finS_len M Mr Mm
  generalize finS M Mr Mm = F at hfl ⊢
  have ht : (F.map u8).take 32 = F.map u8 := List.take_of_length_le (by rw [List.length_map, hfl]; exact Nat.le_refl _)
  have hsp : splice ((List.replicate 32 (0 : UInt8)).map u8) 0 (F.map u8) = F.map u8 := splice_all (by rw [List.length_map, List.length_map, hfl, List.length_replicate])
  repeat (first | simp only [go_sem, Nat.reduceLT, Nat.reduceEqDiff, reduceIte, Int.reduceEq, Int.reduceLE, Int.reduceLT, Nat.reduceMul, Nat.reduceAdd, Nat.reduceSub, Int.reduceNeg, Int.reduceAdd, Int.reduceMul, Int.reduceSub, Int.reduceToNat, Nat.reduceLeDiff, Nat.reduceDiv, Int.reduceDiv, reduceCtorEq, Option.some.injEq, exists_eq_left', List.length_map, hfl, ht, hsp, hz, List.length_replicate, Nat.reduceLeDiff] | refine AW.seq ?_ | refine AW.block ?_ | refine AW.scope ?_ | refine AW.cond_tt rfl ?_ | refine AW.cond_ff rfl ?_ | refine AW.label ?_ | refine AW.skip ?_ | refine AW.ret ?_ | refine AW.exit ?_ | refine AW.region ?_ | refine AW.draw (by kernel_rfl) (by decide +kernel) ?_ | refine AW.drawN (by kernel_rfl) (by decide +kernel) ?_ | ((with_reducible refine And.intro ?_ ?_); (focus ((repeat' (with_reducible apply And.intro)) <;> first | (with_reducible exact OrdAt.of (by kernel_rfl)) | (with_reducible exact OrdT.of (by kernel_rfl)) | exact True.intro | (with_reducible assumption) | omega | rfl | exact Nat.le_of_ble_eq_true rfl | exact Or.inl trivial | (unfold inI; omega)))))
  exact Wk.refl _
end Go.Proofs.YtpknjecfloglgaaDoor

namespace Go.Proofs.YtpknjecfloglgaaDoor
open Go Go.Eng Go.Proofs
set_option maxRecDepth 100000
set_option maxHeartbeats 1000000
set_option linter.unusedSimpArgs false
set_option linter.unusedVariables false
def hR (t : List UInt8) : List UInt8 := (eat shaFirst t).2
def hM (t : List UInt8) : UInt64 := UInt64.ofNat t.length
theorem sumOf_len (b : List UInt8) : (sumOf b).length = 32 := finS_len _ _ _
end Go.Proofs.YtpknjecfloglgaaDoor

