/- What sha and its document compute, function by function (second part), sums by numbers, and the four laws; conditions on lengths alone. -/
import Derived.Test.YtapjkdmdckfjbaaDoorWalkA
import Derived.Test.YtapjkdmdckfjbaaDoorRows
import Derived.Test.YtapjkdmdckfjbaaDoorCards
import Derived.Test.YtapjkdmdckfjbaaDoorTie
import Derived.OpenShut
import Derived.Stop.Joined
set_option linter.unusedVariables false
set_option linter.unusedSimpArgs false
namespace Go.Proofs.YtapjkdmdckfjbaaDoor
open Go Go.Eng Go.Proofs
set_option maxRecDepth 100000
set_option maxHeartbeats 1000000
set_option linter.unusedSimpArgs false
set_option linter.unusedVariables false
theorem blk_len (s : List UInt32) (t : List UInt8) : (blk s t).length = s.length := addL_len _ _ _
def eat (s : List UInt32) (t : List UInt8) : List UInt32 × List UInt8 := if t.length < 64 then (s, t) else eat (blk s t) (t.drop 64)
termination_by t.length
decreasing_by rw [List.length_drop]; omega
theorem eat_lt {s : List UInt32} {t : List UInt8} (h : t.length < 64) : eat s t = (s, t) := by rw [eat, if_pos h]
theorem eat_ge {s : List UInt32} {t : List UInt8} (h : ¬ t.length < 64) : eat s t = eat (blk s t) (t.drop 64) := by rw [eat, if_neg h]
def moreS (s : List UInt32) (r : List UInt8) (m : UInt64) (b : List UInt8) : List UInt32 := if fitsS r m then (eat s (r ++ b)).1 else s
def moreR (s : List UInt32) (r : List UInt8) (m : UInt64) (b : List UInt8) : List UInt8 := if fitsS r m then (eat s (r ++ b)).2 else r
def moreM (r : List UInt8) (m : UInt64) (b : List UInt8) : UInt64 := if fitsS r m then m + UInt64.ofNat b.length else m
def moreE (r : List UInt8) (m : UInt64) : Int := if fitsS r m then 0 else 1
def slotLen (s : S) (t : Nat) : Nat := match Eng.look s.fr t with
  | some (.sl _ _ n _) => n
  | _ => 0
def zh : List AV := (List.replicate 8 (0 : UInt32)).map u32 ++ [nilS, u64 0]
def st8 (s : List UInt32) (r : List UInt8) (m : UInt64) (b t : List UInt8) : S := ⟨[(6, .sl 1 (bys t) t.length none), (1, .sl 1 (bys b) b.length none), (2, .loc 0 0), (4, .loc 1 0)], 50, [(1, .box zh), (0, .box (hv s r m))], 2, []⟩
theorem zh_eq : List.replicate 8 (u32 0) ++ [nilS] ++ [u64 0] = zh := by simp [zh]
theorem zh_len : zh.length = 10 := rfl
section
variable {s : List UInt32} {x y : AV} (hs : s.length = 8)
include hs
theorem hs_t10 : (s.map u32 ++ [x, y]).take 10 = s.map u32 ++ [x, y] := List.take_of_length_le (by simp [hs])
theorem zh_spl : splice zh 0 (s.map u32 ++ [x, y]) = s.map u32 ++ [x, y] := splice_all (by simp [hs, zh])
end
theorem labL_app (n : Nat) : ∀ (a b : List AV), labL n (a ++ b) ↔ labL n a ∧ labL n b
  | [], b => by simp [labL]
  | x :: a, b => by simp [labL, labL_app n a b, and_assoc]
theorem renL_app (σ : Nat → Nat) (a b : List AV) : renL σ (a ++ b) = renL σ a ++ renL σ b := by
  induction a with
  | nil => rfl
  | cons x a ih => simp [renL, ih]
@[simp] theorem labL_hv (n : Nat) (s : List UInt32) (r : List UInt8) (m : UInt64) : labL n (hv s r m) = True := by simp [hv, labL_app, labL, lab, labL_mapu32, labL_bys]
@[simp] theorem renL_hv (σ : Nat → Nat) (s : List UInt32) (r : List UInt8) (m : UInt64) : renL σ (hv s r m) = hv s r m := by simp [hv, renL_app, renL, ren, renL_mapu32, renL_bys]
@[simp] theorem labL_zh (n : Nat) : labL n zh = True := by simp [zh, labL, lab]
@[simp] theorem renL_zh (σ : Nat → Nat) : renL σ zh = zh := by simp [zh, renL, ren]
theorem dt_hv (s : List UInt32) (c : List AV) (n : Nat) (k : Option Nat) (w : Value) : (s.map u32 ++ [AV.sl 1 c n k, AV.v w]).map dt = s.map u32 ++ [AV.sl 1 c n none, AV.v w] := by simp [dt]
theorem f8 (s : List UInt32) (hs : s.length = 8) (r : List UInt8) (hr : r.length ≤ 500000) (m : UInt64) (b : List UInt8) (hb : b.length ≤ 500000) :
    AFun Tryd.prog 8 [.agg (hv s r m), .sl 1 (bys b) b.length none] (.tup [.agg (hv (moreS s r m b) (moreR s r m b) (moreM r m b)), int (moreE r m)]) := by
  refine AFun.enterW Tryd.func8 rfl Tryd.call8 (by simp [Tryd.ntmps8]) fun γ1 => ?_
  simp only [frameOf, Tryd.ntmps8]
  have e64 : ((b.length : Int) % 18446744073709551616) = ((UInt64.ofNat b.length).toNat : Int) := by
    rw [UInt64.toNat_ofNat']; omega
  repeat (first | simp only [go_sem, Nat.reduceLT, Nat.reduceEqDiff, reduceIte, Int.reduceEq, Int.reduceLE, Int.reduceLT, Nat.reduceMul, Nat.reduceAdd, Nat.reduceSub, Int.reduceNeg, Int.reduceAdd, Int.reduceMul, Int.reduceSub, Int.reduceToNat, Nat.reduceLeDiff, Nat.reduceDiv, Int.reduceDiv, reduceCtorEq, Option.some.injEq, exists_eq_left', hs_take hs, hs_d8 hs, hs_d9 hs, hs_len hs, hs_t10 hs, List.length_map, zh_eq] | refine AW.seq ?_ | refine AW.block ?_ | refine AW.scope ?_ | refine AW.cond_tt rfl ?_ | refine AW.cond_ff rfl ?_ | refine AW.label ?_ | refine AW.skip ?_ | refine AW.ret ?_ | refine AW.exit ?_ | refine AW.region ?_ | refine AW.draw (by kernel_rfl) (by decide +kernel) ?_ | refine AW.drawN (by kernel_rfl) (by decide +kernel) ?_ | ((with_reducible refine And.intro ?_ ?_); (focus ((repeat' (with_reducible apply And.intro)) <;> first | (with_reducible exact OrdAt.of (by kernel_rfl)) | exact True.intro | (with_reducible assumption) | omega | rfl | exact Nat.le_of_ble_eq_true rfl | (unfold inI; omega)))))
  refine CallE.flat (f17 s hs r m) (by simp only [List.map_cons, List.map_nil, frz_hv]) rfl (by rfl) ?_
  repeat (first | simp only [go_sem, Nat.reduceLT, Nat.reduceEqDiff, reduceIte, Int.reduceEq, Int.reduceLE, Int.reduceLT, Nat.reduceMul, Nat.reduceAdd, Nat.reduceSub, Int.reduceNeg, Int.reduceAdd, Int.reduceMul, Int.reduceSub, Int.reduceToNat, Nat.reduceLeDiff, Nat.reduceDiv, Int.reduceDiv, reduceCtorEq, Option.some.injEq, exists_eq_left'] | refine AW.seq ?_ | refine AW.block ?_ | refine AW.scope ?_ | refine AW.cond_tt rfl ?_ | refine AW.cond_ff rfl ?_ | refine AW.label ?_ | refine AW.skip ?_ | refine AW.ret ?_ | refine AW.exit ?_ | refine AW.region ?_ | refine AW.draw (by kernel_rfl) (by decide +kernel) ?_ | refine AW.drawN (by kernel_rfl) (by decide +kernel) ?_ | ((with_reducible refine And.intro ?_ ?_); (focus ((repeat' (with_reducible apply And.intro)) <;> first | (with_reducible exact OrdAt.of (by kernel_rfl)) | exact True.intro | (with_reducible assumption) | omega | rfl | exact Nat.le_of_ble_eq_true rfl | (unfold inI; omega)))))
  refine AW.cond_dec rfl (fun h1 => ?_) (fun h1 => ?_)
  · repeat (first | simp only [go_sem, Nat.reduceLT, Nat.reduceEqDiff, reduceIte, Int.reduceEq, Int.reduceLE, Int.reduceLT, Nat.reduceMul, Nat.reduceAdd, Nat.reduceSub, Int.reduceNeg, Int.reduceAdd, Int.reduceMul, Int.reduceSub, Int.reduceToNat, Nat.reduceLeDiff, Nat.reduceDiv, Int.reduceDiv, reduceCtorEq, Option.some.injEq, exists_eq_left', hs_take hs, hs_d8 hs, hs_d9 hs, hs_len hs, hs_t10 hs] | refine AW.seq ?_ | refine AW.block ?_ | refine AW.scope ?_ | refine AW.cond_tt rfl ?_ | refine AW.cond_ff rfl ?_ | refine AW.label ?_ | refine AW.skip ?_ | refine AW.ret ?_ | refine AW.exit ?_ | refine AW.region ?_ | refine AW.draw (by kernel_rfl) (by decide +kernel) ?_ | refine AW.drawN (by kernel_rfl) (by decide +kernel) ?_ | ((with_reducible refine And.intro ?_ ?_); (focus ((repeat' (with_reducible apply And.intro)) <;> first | (with_reducible exact OrdAt.of (by kernel_rfl)) | exact True.intro | (with_reducible assumption) | omega | rfl | exact Nat.le_of_ble_eq_true rfl | (unfold inI; omega)))))
    refine CallE.mem (f18 r (by omega)) rfl (by simp [bor]) (by rfl) ?_
    repeat (first | simp only [go_sem, Nat.reduceLT, Nat.reduceEqDiff, reduceIte, Int.reduceEq, Int.reduceLE, Int.reduceLT, Nat.reduceMul, Nat.reduceAdd, Nat.reduceSub, Int.reduceNeg, Int.reduceAdd, Int.reduceMul, Int.reduceSub, Int.reduceToNat, Nat.reduceLeDiff, Nat.reduceDiv, Int.reduceDiv, reduceCtorEq, Option.some.injEq, exists_eq_left', hs_take hs, hs_d8 hs, hs_d9 hs, hs_len hs, hs_s8 hs, zh_len, hs_t10 hs, zh_spl hs] | refine AW.seq ?_ | refine AW.block ?_ | refine AW.scope ?_ | refine AW.cond_tt rfl ?_ | refine AW.cond_ff rfl ?_ | refine AW.label ?_ | refine AW.skip ?_ | refine AW.ret ?_ | refine AW.exit ?_ | refine AW.region ?_ | refine AW.draw (by kernel_rfl) (by decide +kernel) ?_ | refine AW.drawN (by kernel_rfl) (by decide +kernel) ?_ | ((with_reducible refine And.intro ?_ ?_); (focus ((repeat' (with_reducible apply And.intro)) <;> first | (with_reducible exact OrdAt.of (by kernel_rfl)) | exact True.intro | (with_reducible assumption) | omega | rfl | exact Nat.le_of_ble_eq_true rfl | (unfold inI; omega)))))
    rw [dt_hv, moreS, moreR, moreM, moreE, if_neg h1, if_neg h1, if_neg h1, if_neg h1]
    exact Wk.refl _
  · repeat (first | simp only [go_sem, Nat.reduceLT, Nat.reduceEqDiff, reduceIte, Int.reduceEq, Int.reduceLE, Int.reduceLT, Nat.reduceMul, Nat.reduceAdd, Nat.reduceSub, Int.reduceNeg, Int.reduceAdd, Int.reduceMul, Int.reduceSub, Int.reduceToNat, Nat.reduceLeDiff, Nat.reduceDiv, Int.reduceDiv, reduceCtorEq, Option.some.injEq, exists_eq_left', hs_take hs, hs_d8 hs, hs_d9 hs, hs_len hs, hs_t10 hs, List.length_append] | refine AW.seq ?_ | refine AW.block ?_ | refine AW.scope ?_ | refine AW.cond_tt rfl ?_ | refine AW.cond_ff rfl ?_ | refine AW.label ?_ | refine AW.skip ?_ | refine AW.ret ?_ | refine AW.exit ?_ | refine AW.region ?_ | refine AW.draw (by kernel_rfl) (by decide +kernel) ?_ | refine AW.drawN (by kernel_rfl) (by decide +kernel) ?_ | ((with_reducible refine And.intro ?_ ?_); (focus ((repeat' (with_reducible apply And.intro)) <;> first | (with_reducible exact OrdAt.of (by kernel_rfl)) | exact True.intro | (with_reducible assumption) | omega | rfl | exact Nat.le_of_ble_eq_true rfl | (unfold inI; omega)))))
    refine AW.loop (fun s' => ∃ (s2 : List UInt32) (t : List UInt8), s2.length = 8 ∧ t.length ≤ 1000000 ∧ eat s2 t = eat s (r ++ b) ∧ s' = st8 s2 r m b t) (fun s' => slotLen s' 6) (s0 := st8 s r m b (r ++ b)) ?_ ⟨s, r ++ b, hs, by rw [List.length_append]; omega, rfl, rfl⟩ ?_
    · simp only [st8, List.length_append]
      refine (Sub.untok 6 rfl).trans ?_
      exact (Sub.same (by first | exact Nat.zero_le _ | exact Nat.le_refl _ | decide | omega) rfl rfl (by simp) (by simp [lab, labL, ren, renL, look_cons, renL_bys, labL_bys, renL_mapu8, labL_mapu8, renL_mapu32, labL_mapu32]) (by simp [labO, renO, lab, labL, ren, renL, look_cons, renL_bys, labL_bys, renL_mapu8, labL_mapu8, renL_mapu32, labL_mapu32]))
    rintro s' ⟨s2, t, hs2, ht, he, rfl⟩
    simp only [st8]
    repeat (first | simp only [go_sem, Nat.reduceLT, Nat.reduceEqDiff, reduceIte, Int.reduceEq, Int.reduceLE, Int.reduceLT, Nat.reduceMul, Nat.reduceAdd, Nat.reduceSub, Int.reduceNeg, Int.reduceAdd, Int.reduceMul, Int.reduceSub, Int.reduceToNat, Nat.reduceLeDiff, Nat.reduceDiv, Int.reduceDiv, reduceCtorEq, Option.some.injEq, exists_eq_left'] | refine AW.seq ?_ | refine AW.block ?_ | refine AW.scope ?_ | refine AW.cond_tt rfl ?_ | refine AW.cond_ff rfl ?_ | refine AW.label ?_ | refine AW.skip ?_ | refine AW.ret ?_ | refine AW.exit ?_ | refine AW.region ?_ | refine AW.draw (by kernel_rfl) (by decide +kernel) ?_ | refine AW.drawN (by kernel_rfl) (by decide +kernel) ?_ | ((with_reducible refine And.intro ?_ ?_); (focus ((repeat' (with_reducible apply And.intro)) <;> first | (with_reducible exact OrdAt.of (by kernel_rfl)) | exact True.intro | (with_reducible assumption) | omega | rfl | exact Nat.le_of_ble_eq_true rfl | (unfold inI; omega)))))
    refine AW.cond_dec rfl (fun h2 => ?_) (fun h2 => ?_)
    · have h64 : 64 ≤ t.length := by omega
      have hbl : (blk s2 t).length = 8 := by rw [blk_len, hs2]
      have e4 : ((t.length : Int) - 64).toNat = t.length - 64 := by omega
      have e5 : (t.drop 64).take (t.length - 64) = t.drop 64 := List.take_of_length_le (by rw [List.length_drop]; omega)
      repeat (first | simp only [go_sem, Nat.reduceLT, Nat.reduceEqDiff, reduceIte, Int.reduceEq, Int.reduceLE, Int.reduceLT, Nat.reduceMul, Nat.reduceAdd, Nat.reduceSub, Int.reduceNeg, Int.reduceAdd, Int.reduceMul, Int.reduceSub, Int.reduceToNat, Nat.reduceLeDiff, Nat.reduceDiv, Int.reduceDiv, reduceCtorEq, Option.some.injEq, exists_eq_left', hs_take hs2, hs_d8 hs2, hs_d9 hs2, hs_len hs2, hs_t10 hs2] | refine AW.seq ?_ | refine AW.block ?_ | refine AW.scope ?_ | refine AW.cond_tt rfl ?_ | refine AW.cond_ff rfl ?_ | refine AW.label ?_ | refine AW.skip ?_ | refine AW.ret ?_ | refine AW.exit ?_ | refine AW.region ?_ | refine AW.draw (by kernel_rfl) (by decide +kernel) ?_ | refine AW.drawN (by kernel_rfl) (by decide +kernel) ?_ | ((with_reducible refine And.intro ?_ ?_); (focus ((repeat' (with_reducible apply And.intro)) <;> first | (with_reducible exact OrdAt.of (by kernel_rfl)) | exact True.intro | (with_reducible assumption) | omega | rfl | exact Nat.le_of_ble_eq_true rfl | (unfold inI; omega)))))
      refine CallE.mem (f19 s2 hs2 t h64 ht) (by simp only [List.map_cons, List.map_nil, frz_sl, frz_agg32]) (by simp [bor]) (by rfl) ?_
      repeat (first | simp only [go_sem, Nat.reduceLT, Nat.reduceEqDiff, reduceIte, Int.reduceEq, Int.reduceLE, Int.reduceLT, Nat.reduceMul, Nat.reduceAdd, Nat.reduceSub, Int.reduceNeg, Int.reduceAdd, Int.reduceMul, Int.reduceSub, Int.reduceToNat, Nat.reduceLeDiff, Nat.reduceDiv, Int.reduceDiv, reduceCtorEq, Option.some.injEq, exists_eq_left', hs_take hs2, hs_d8 hs2, hs_d9 hs2, hs_len hs2, hs_t10 hs2, List.length_map, hbl, hs_s0 hs2 hbl, e4, e5] | refine AW.seq ?_ | refine AW.block ?_ | refine AW.scope ?_ | refine AW.cond_tt rfl ?_ | refine AW.cond_ff rfl ?_ | refine AW.label ?_ | refine AW.skip ?_ | refine AW.ret ?_ | refine AW.exit ?_ | refine AW.region ?_ | refine AW.draw (by kernel_rfl) (by decide +kernel) ?_ | refine AW.drawN (by kernel_rfl) (by decide +kernel) ?_ | ((with_reducible refine And.intro ?_ ?_); (focus ((repeat' (with_reducible apply And.intro)) <;> first | (with_reducible exact OrdAt.of (by kernel_rfl)) | exact True.intro | (with_reducible assumption) | omega | rfl | exact Nat.le_of_ble_eq_true rfl | (unfold inI; omega)))))
      rw [Qof_lp]
      refine ⟨st8 (blk s2 t) r m b (t.drop 64), ?_, ⟨_, _, hbl, by rw [List.length_drop]; omega, by rw [← eat_ge (by omega), he], rfl⟩, ?_⟩
      · simp only [st8, List.length_drop]
        exact (Sub.same (by first | exact Nat.zero_le _ | exact Nat.le_refl _ | decide | omega) rfl rfl (by simp) (by simp [lab, labL, ren, renL, look_cons, renL_bys, labL_bys, renL_mapu8, labL_mapu8, renL_mapu32, labL_mapu32]) (by simp [labO, renO, lab, labL, ren, renL, look_cons, renL_bys, labL_bys, renL_mapu8, labL_mapu8, renL_mapu32, labL_mapu32]))
      · simp [slotLen, st8, look_cons]; omega
    · have h64 : t.length < 64 := by omega
      rw [eat_lt h64] at he
      repeat (first | simp only [go_sem, Nat.reduceLT, Nat.reduceEqDiff, reduceIte, Int.reduceEq, Int.reduceLE, Int.reduceLT, Nat.reduceMul, Nat.reduceAdd, Nat.reduceSub, Int.reduceNeg, Int.reduceAdd, Int.reduceMul, Int.reduceSub, Int.reduceToNat, Nat.reduceLeDiff, Nat.reduceDiv, Int.reduceDiv, reduceCtorEq, Option.some.injEq, exists_eq_left'] | refine AW.seq ?_ | refine AW.block ?_ | refine AW.scope ?_ | refine AW.cond_tt rfl ?_ | refine AW.cond_ff rfl ?_ | refine AW.label ?_ | refine AW.skip ?_ | refine AW.ret ?_ | refine AW.exit ?_ | refine AW.region ?_ | refine AW.draw (by kernel_rfl) (by decide +kernel) ?_ | refine AW.drawN (by kernel_rfl) (by decide +kernel) ?_ | ((with_reducible refine And.intro ?_ ?_); (focus ((repeat' (with_reducible apply And.intro)) <;> first | (with_reducible exact OrdAt.of (by kernel_rfl)) | exact True.intro | (with_reducible assumption) | omega | rfl | exact Nat.le_of_ble_eq_true rfl | (unfold inI; omega)))))
      refine CallE.mem (f18 t (by omega)) rfl (by simp [bor]) (by rfl) ?_
      repeat (first | simp only [go_sem, Nat.reduceLT, Nat.reduceEqDiff, reduceIte, Int.reduceEq, Int.reduceLE, Int.reduceLT, Nat.reduceMul, Nat.reduceAdd, Nat.reduceSub, Int.reduceNeg, Int.reduceAdd, Int.reduceMul, Int.reduceSub, Int.reduceToNat, Nat.reduceLeDiff, Nat.reduceDiv, Int.reduceDiv, reduceCtorEq, Option.some.injEq, exists_eq_left', hs_take hs2, hs_d8 hs2, hs_d9 hs2, hs_len hs2, hs_t10 hs2, hs_s8 hs2, hs_s9 hs2, zh_len, zh_spl hs2, e64] | refine AW.seq ?_ | refine AW.block ?_ | refine AW.scope ?_ | refine AW.cond_tt rfl ?_ | refine AW.cond_ff rfl ?_ | refine AW.label ?_ | refine AW.skip ?_ | refine AW.ret ?_ | refine AW.exit ?_ | refine AW.region ?_ | refine AW.draw (by kernel_rfl) (by decide +kernel) ?_ | refine AW.drawN (by kernel_rfl) (by decide +kernel) ?_ | ((with_reducible refine And.intro ?_ ?_); (focus ((repeat' (with_reducible apply And.intro)) <;> first | (with_reducible exact OrdAt.of (by kernel_rfl)) | exact True.intro | (with_reducible assumption) | omega | rfl | exact Nat.le_of_ble_eq_true rfl | (unfold inI; omega)))))
      rw [dt_hv, moreS, moreR, moreM, moreE, if_pos (Decidable.not_not.1 h1), if_pos (Decidable.not_not.1 h1), if_pos (Decidable.not_not.1 h1), if_pos (Decidable.not_not.1 h1), ← he]
      exact Wk.refl _
end Go.Proofs.YtapjkdmdckfjbaaDoor

namespace Go.Proofs.YtapjkdmdckfjbaaDoor
open Go Go.Eng Go.Proofs
set_option maxRecDepth 100000
set_option maxHeartbeats 1000000
set_option linter.unusedSimpArgs false
set_option linter.unusedVariables false
def st9r (s0 s : List UInt32) (r0 : List UInt8) (m0 : UInt64) (r : List UInt8) (m : UInt64) (b t : List UInt8) : S := ⟨[(8, .sl 1 (bys t) t.length none), (1, .sl 1 (bys b) b.length none), (2, .loc 0 0), (4, .loc 1 0), (6, .loc 4 0)], 52, [(4, .box (s.map u32 ++ [.sl 1 (bys r) r.length (some 3), u64 m])), (3, .tok), (1, .box zh), (0, .box (hv s0 r0 m0))], 8, []⟩
attribute [local simp] labL_app renL_app
section
variable {s : List UInt32} {x y : AV} (hs : s.length = 8)
include hs
theorem zh_s0 : splice zh 0 (s.map u32) = s.map u32 ++ [nilS, u64 0] := hs_s0 (s := List.replicate 8 0) rfl hs
end
theorem f9 (s : List UInt32) (hs : s.length = 8) (r : List UInt8) (hr : r.length ≤ 500000) (m : UInt64) (b : List UInt8) (hb : b.length ≤ 500000) :
    AFun Tryd.prog 9 [.agg (hv s r m), .sl 1 (bys b) b.length none] (.tup [.agg (hv (moreS s r m b) (moreR s r m b) (moreM r m b)), int (moreE r m)]) := by
  refine AFun.enterW Tryd.func9 rfl Tryd.call9 (by simp [Tryd.ntmps9]) fun γ1 => ?_
  simp only [frameOf, Tryd.ntmps9]
  have e64 : ((b.length : Int) % 18446744073709551616) = ((UInt64.ofNat b.length).toNat : Int) := by
    rw [UInt64.toNat_ofNat']; omega
  repeat (first | simp only [go_sem, Nat.reduceLT, Nat.reduceEqDiff, reduceIte, Int.reduceEq, Int.reduceLE, Int.reduceLT, Nat.reduceMul, Nat.reduceAdd, Nat.reduceSub, Int.reduceNeg, Int.reduceAdd, Int.reduceMul, Int.reduceSub, Int.reduceToNat, Nat.reduceLeDiff, Nat.reduceDiv, Int.reduceDiv, reduceCtorEq, Option.some.injEq, exists_eq_left', hs_take hs, hs_d8 hs, hs_d9 hs, hs_len hs, hs_t10 hs, List.length_map, zh_eq, zh_len, zh_s0 hs, hs_s8 hs, hs_s9 hs, zh_spl hs, Option.some.injEq, exists_eq_left', hs, Nat.reduceAdd, Nat.reduceLeDiff] | refine AW.seq ?_ | refine AW.block ?_ | refine AW.scope ?_ | refine AW.cond_tt rfl ?_ | refine AW.cond_ff rfl ?_ | refine AW.label ?_ | refine AW.skip ?_ | refine AW.ret ?_ | refine AW.exit ?_ | refine AW.region ?_ | refine AW.draw (by kernel_rfl) (by decide +kernel) ?_ | refine AW.drawN (by kernel_rfl) (by decide +kernel) ?_ | ((with_reducible refine And.intro ?_ ?_); (focus ((repeat' (with_reducible apply And.intro)) <;> first | (with_reducible exact OrdAt.of (by kernel_rfl)) | exact True.intro | (with_reducible assumption) | omega | rfl | exact Nat.le_of_ble_eq_true rfl | (unfold inI; omega)))))
  refine CallE.flat (f20 s hs r m) (by simp only [List.map_cons, List.map_nil, frz_hv]) rfl (by rfl) ?_
  repeat (first | simp only [go_sem, Nat.reduceLT, Nat.reduceEqDiff, reduceIte, Int.reduceEq, Int.reduceLE, Int.reduceLT, Nat.reduceMul, Nat.reduceAdd, Nat.reduceSub, Int.reduceNeg, Int.reduceAdd, Int.reduceMul, Int.reduceSub, Int.reduceToNat, Nat.reduceLeDiff, Nat.reduceDiv, Int.reduceDiv, reduceCtorEq, Option.some.injEq, exists_eq_left'] | refine AW.seq ?_ | refine AW.block ?_ | refine AW.scope ?_ | refine AW.cond_tt rfl ?_ | refine AW.cond_ff rfl ?_ | refine AW.label ?_ | refine AW.skip ?_ | refine AW.ret ?_ | refine AW.exit ?_ | refine AW.region ?_ | refine AW.draw (by kernel_rfl) (by decide +kernel) ?_ | refine AW.drawN (by kernel_rfl) (by decide +kernel) ?_ | ((with_reducible refine And.intro ?_ ?_); (focus ((repeat' (with_reducible apply And.intro)) <;> first | (with_reducible exact OrdAt.of (by kernel_rfl)) | exact True.intro | (with_reducible assumption) | omega | rfl | exact Nat.le_of_ble_eq_true rfl | (unfold inI; omega)))))
  refine AW.cond_dec rfl (fun h1 => ?_) (fun h1 => ?_)
  · repeat (first | simp only [go_sem, Nat.reduceLT, Nat.reduceEqDiff, reduceIte, Int.reduceEq, Int.reduceLE, Int.reduceLT, Nat.reduceMul, Nat.reduceAdd, Nat.reduceSub, Int.reduceNeg, Int.reduceAdd, Int.reduceMul, Int.reduceSub, Int.reduceToNat, Nat.reduceLeDiff, Nat.reduceDiv, Int.reduceDiv, reduceCtorEq, Option.some.injEq, exists_eq_left', hs_take hs, hs_d8 hs, hs_d9 hs, hs_len hs, hs_t10 hs, zh_spl hs, zh_len] | refine AW.seq ?_ | refine AW.block ?_ | refine AW.scope ?_ | refine AW.cond_tt rfl ?_ | refine AW.cond_ff rfl ?_ | refine AW.label ?_ | refine AW.skip ?_ | refine AW.ret ?_ | refine AW.exit ?_ | refine AW.region ?_ | refine AW.draw (by kernel_rfl) (by decide +kernel) ?_ | refine AW.drawN (by kernel_rfl) (by decide +kernel) ?_ | ((with_reducible refine And.intro ?_ ?_); (focus ((repeat' (with_reducible apply And.intro)) <;> first | (with_reducible exact OrdAt.of (by kernel_rfl)) | exact True.intro | (with_reducible assumption) | omega | rfl | exact Nat.le_of_ble_eq_true rfl | (unfold inI; omega)))))
    rw [dt_hv, moreS, moreR, moreM, moreE, if_neg h1, if_neg h1, if_neg h1, if_neg h1]
    exact Wk.refl _
  · repeat (first | simp only [go_sem, Nat.reduceLT, Nat.reduceEqDiff, reduceIte, Int.reduceEq, Int.reduceLE, Int.reduceLT, Nat.reduceMul, Nat.reduceAdd, Nat.reduceSub, Int.reduceNeg, Int.reduceAdd, Int.reduceMul, Int.reduceSub, Int.reduceToNat, Nat.reduceLeDiff, Nat.reduceDiv, Int.reduceDiv, reduceCtorEq, Option.some.injEq, exists_eq_left', hs_take hs, hs_d8 hs, hs_d9 hs, hs_len hs, hs_t10 hs, hs_s8 hs, hs_s9 hs, e64, List.length_append] | refine AW.seq ?_ | refine AW.block ?_ | refine AW.scope ?_ | refine AW.cond_tt rfl ?_ | refine AW.cond_ff rfl ?_ | refine AW.label ?_ | refine AW.skip ?_ | refine AW.ret ?_ | refine AW.exit ?_ | refine AW.region ?_ | refine AW.draw (by kernel_rfl) (by decide +kernel) ?_ | refine AW.drawN (by kernel_rfl) (by decide +kernel) ?_ | ((with_reducible refine And.intro ?_ ?_); (focus ((repeat' (with_reducible apply And.intro)) <;> first | (with_reducible exact OrdAt.of (by kernel_rfl)) | exact True.intro | (with_reducible assumption) | omega | rfl | exact Nat.le_of_ble_eq_true rfl | (unfold inI; omega)))))
    refine AW.loop (fun s' => ∃ (s2 : List UInt32) (t : List UInt8), s2.length = 8 ∧ t.length ≤ 1000000 ∧ eat s2 t = eat s (r ++ b) ∧ s' = st9r s s2 r m r (m + UInt64.ofNat b.length) b t) (fun s' => slotLen s' 8) (s0 := st9r s s r m r (m + UInt64.ofNat b.length) b (r ++ b)) ?_ ⟨s, r ++ b, hs, by rw [List.length_append]; omega, rfl, rfl⟩ ?_
    · simp only [st9r, List.length_append]
      refine (Sub.untok 8 rfl).trans ?_
      exact (Sub.same (by first | exact Nat.zero_le _ | exact Nat.le_refl _ | decide | omega) rfl rfl (by simp) (by simp [lab, labL, ren, renL, look_cons, renL_bys, labL_bys, renL_mapu8, labL_mapu8, renL_mapu32, labL_mapu32]) (by simp [labO, renO, lab, labL, ren, renL, look_cons, renL_bys, labL_bys, renL_mapu8, labL_mapu8, renL_mapu32, labL_mapu32]))
    rintro s' ⟨s2, t, hs2, ht, he, rfl⟩
    simp only [st9r]
    repeat (first | simp only [go_sem, Nat.reduceLT, Nat.reduceEqDiff, reduceIte, Int.reduceEq, Int.reduceLE, Int.reduceLT, Nat.reduceMul, Nat.reduceAdd, Nat.reduceSub, Int.reduceNeg, Int.reduceAdd, Int.reduceMul, Int.reduceSub, Int.reduceToNat, Nat.reduceLeDiff, Nat.reduceDiv, Int.reduceDiv, reduceCtorEq, Option.some.injEq, exists_eq_left'] | refine AW.seq ?_ | refine AW.block ?_ | refine AW.scope ?_ | refine AW.cond_tt rfl ?_ | refine AW.cond_ff rfl ?_ | refine AW.label ?_ | refine AW.skip ?_ | refine AW.ret ?_ | refine AW.exit ?_ | refine AW.region ?_ | refine AW.draw (by kernel_rfl) (by decide +kernel) ?_ | refine AW.drawN (by kernel_rfl) (by decide +kernel) ?_ | ((with_reducible refine And.intro ?_ ?_); (focus ((repeat' (with_reducible apply And.intro)) <;> first | (with_reducible exact OrdAt.of (by kernel_rfl)) | exact True.intro | (with_reducible assumption) | omega | rfl | exact Nat.le_of_ble_eq_true rfl | (unfold inI; omega)))))
    refine AW.cond_dec rfl (fun h2 => ?_) (fun h2 => ?_)
    · have h64 : 64 ≤ t.length := by omega
      have hbl : (blk s2 t).length = 8 := by rw [blk_len, hs2]
      have e4 : ((t.length : Int) - 64).toNat = t.length - 64 := by omega
      have e5 : (t.drop 64).take (t.length - 64) = t.drop 64 := List.take_of_length_le (by rw [List.length_drop]; omega)
      have e6 : (t.take 64).length = 64 := by rw [List.length_take]; omega
      repeat (first | simp only [go_sem, Nat.reduceLT, Nat.reduceEqDiff, reduceIte, Int.reduceEq, Int.reduceLE, Int.reduceLT, Nat.reduceMul, Nat.reduceAdd, Nat.reduceSub, Int.reduceNeg, Int.reduceAdd, Int.reduceMul, Int.reduceSub, Int.reduceToNat, Nat.reduceLeDiff, Nat.reduceDiv, Int.reduceDiv, reduceCtorEq, Option.some.injEq, exists_eq_left', hs_take hs2, hs_d8 hs2, hs_d9 hs2, hs_len hs2, hs_t10 hs2] | refine AW.seq ?_ | refine AW.block ?_ | refine AW.scope ?_ | refine AW.cond_tt rfl ?_ | refine AW.cond_ff rfl ?_ | refine AW.label ?_ | refine AW.skip ?_ | refine AW.ret ?_ | refine AW.exit ?_ | refine AW.region ?_ | refine AW.draw (by kernel_rfl) (by decide +kernel) ?_ | refine AW.drawN (by kernel_rfl) (by decide +kernel) ?_ | ((with_reducible refine And.intro ?_ ?_); (focus ((repeat' (with_reducible apply And.intro)) <;> first | (with_reducible exact OrdAt.of (by kernel_rfl)) | exact True.intro | (with_reducible assumption) | omega | rfl | exact Nat.le_of_ble_eq_true rfl | (unfold inI; omega)))))
      have hcall := f21 s2 hs2 (t.take 64) e6
      rw [e6, blk_eq s2 hs2 t] at hcall
      refine CallXE.mem hcall (by simp only [List.map_cons, List.map_nil, frz_sl, frz_agg32]) (by simp [bor]) (by rfl) ?_
      repeat (first | simp only [go_sem, Nat.reduceLT, Nat.reduceEqDiff, reduceIte, Int.reduceEq, Int.reduceLE, Int.reduceLT, Nat.reduceMul, Nat.reduceAdd, Nat.reduceSub, Int.reduceNeg, Int.reduceAdd, Int.reduceMul, Int.reduceSub, Int.reduceToNat, Nat.reduceLeDiff, Nat.reduceDiv, Int.reduceDiv, reduceCtorEq, Option.some.injEq, exists_eq_left', hs_take hs2, hs_d8 hs2, hs_d9 hs2, hs_len hs2, hs_t10 hs2, List.length_map, hbl, hs_s0 hs2 hbl, e4, e5] | refine AW.seq ?_ | refine AW.block ?_ | refine AW.scope ?_ | refine AW.cond_tt rfl ?_ | refine AW.cond_ff rfl ?_ | refine AW.label ?_ | refine AW.skip ?_ | refine AW.ret ?_ | refine AW.exit ?_ | refine AW.region ?_ | refine AW.draw (by kernel_rfl) (by decide +kernel) ?_ | refine AW.drawN (by kernel_rfl) (by decide +kernel) ?_ | ((with_reducible refine And.intro ?_ ?_); (focus ((repeat' (with_reducible apply And.intro)) <;> first | (with_reducible exact OrdAt.of (by kernel_rfl)) | exact True.intro | (with_reducible assumption) | omega | rfl | exact Nat.le_of_ble_eq_true rfl | (unfold inI; omega)))))
      rw [Qof_lp]
      refine ⟨st9r s (blk s2 t) r m r (m + UInt64.ofNat b.length) b (t.drop 64), ?_, ⟨_, _, hbl, by rw [List.length_drop]; omega, by rw [← eat_ge (by omega), he], rfl⟩, ?_⟩
      · simp only [st9r, List.length_drop]
        exact (Sub.same (by first | exact Nat.zero_le _ | exact Nat.le_refl _ | decide | omega) rfl rfl (by simp) (by simp [lab, labL, ren, renL, look_cons, renL_bys, labL_bys, renL_mapu8, labL_mapu8, renL_mapu32, labL_mapu32]) (by simp [labO, renO, lab, labL, ren, renL, look_cons, renL_bys, labL_bys, renL_mapu8, labL_mapu8, renL_mapu32, labL_mapu32]))
      · simp [slotLen, st9r, look_cons]; omega
    · have h64 : t.length < 64 := by omega
      rw [eat_lt h64] at he
      repeat (first | simp only [go_sem, Nat.reduceLT, Nat.reduceEqDiff, reduceIte, Int.reduceEq, Int.reduceLE, Int.reduceLT, Nat.reduceMul, Nat.reduceAdd, Nat.reduceSub, Int.reduceNeg, Int.reduceAdd, Int.reduceMul, Int.reduceSub, Int.reduceToNat, Nat.reduceLeDiff, Nat.reduceDiv, Int.reduceDiv, reduceCtorEq, Option.some.injEq, exists_eq_left', hs_take hs2, hs_d8 hs2, hs_d9 hs2, hs_len hs2, hs_t10 hs2, hs_s8 hs2, hs_s9 hs2, zh_len, zh_spl hs2, e64] | refine AW.seq ?_ | refine AW.block ?_ | refine AW.scope ?_ | refine AW.cond_tt rfl ?_ | refine AW.cond_ff rfl ?_ | refine AW.label ?_ | refine AW.skip ?_ | refine AW.ret ?_ | refine AW.exit ?_ | refine AW.region ?_ | refine AW.draw (by kernel_rfl) (by decide +kernel) ?_ | refine AW.drawN (by kernel_rfl) (by decide +kernel) ?_ | ((with_reducible refine And.intro ?_ ?_); (focus ((repeat' (with_reducible apply And.intro)) <;> first | (with_reducible exact OrdAt.of (by kernel_rfl)) | exact True.intro | (with_reducible assumption) | omega | rfl | exact Nat.le_of_ble_eq_true rfl | (unfold inI; omega)))))
      rw [dt_hv, moreS, moreR, moreM, moreE, if_pos (Decidable.not_not.1 h1), if_pos (Decidable.not_not.1 h1), if_pos (Decidable.not_not.1 h1), if_pos (Decidable.not_not.1 h1), ← he]
      exact Wk.refl _
end Go.Proofs.YtapjkdmdckfjbaaDoor

namespace Go.Proofs.YtapjkdmdckfjbaaDoor
open Go Go.Eng Go.Proofs
set_option maxRecDepth 100000
set_option maxHeartbeats 1000000
set_option linter.unusedSimpArgs false
set_option linter.unusedVariables false
attribute [local simp] labL_app renL_app
theorem eat_len (s : List UInt32) (t : List UInt8) : (eat s t).1.length = s.length := by
  induction s, t using eat.induct with
  | case1 s t h => rw [eat_lt h]
  | case2 s t h ih => rw [eat_ge h, ih, blk_len]
theorem moreS_len (s : List UInt32) (r : List UInt8) (m : UInt64) (b : List UInt8) : (moreS s r m b).length = s.length := by
  unfold moreS; split
  · exact eat_len _ _
  · rfl
def padN (r : List UInt8) : Nat := (119 - r.length) % 64
def endB (r : List UInt8) (m : UInt64) : List UInt8 := (128 :: List.replicate (padN r) 0) ++ bigE (8 * m) 8 8
theorem endB_length (r : List UInt8) (m : UInt64) : (endB r m).length = 9 + padN r := by simp [endB, bigE_length]; omega
def byteAt (s : List UInt32) (i : Nat) : UInt8 := (shr32 (s.getD (i / 4) 0) (8 * (3 - i % 4))).toUInt8
def sumG (s : List UInt32) (n : Nat) : List UInt8 := (List.range 32).map fun i => if i < n then byteAt s i else 0
theorem sumG_len (s : List UInt32) (n : Nat) : (sumG s n).length = 32 := by simp [sumG]
theorem sumG_set (s : List UInt32) (n : Nat) : (sumG s n).set n (byteAt s n) = sumG s (n + 1) := by
  apply List.ext_getElem?
  intro i
  rw [List.getElem?_set, sumG_len]
  simp only [sumG, List.getElem?_map, List.getElem?_range']
  by_cases h : n = i
  · subst h
    by_cases h2 : n < 32
    · simp [h2, List.getElem?_range h2]
    · simp [h2, List.getElem?_eq_none]
  · simp only [if_neg h]
    by_cases h2 : i < 32
    · rw [List.getElem?_range h2]
      simp only [Option.map_some]
      by_cases h3 : i < n
      · simp [h3, show i < n + 1 by omega]
      · simp [h3, show ¬ i < n + 1 by omega]
    · simp [List.getElem?_eq_none, h2]
theorem sumG_zero (s : List UInt32) : sumG s 0 = List.replicate 32 0 := by simp [sumG]; rfl
@[go_sem] theorem wrap_u32_u8 (x : UInt32) : IntKind.u8.wrap (x.toNat : Int) = (x.toUInt8.toNat : Int) := by
  rw [wrap_u _ rfl, UInt32.toNat_toUInt8]; rfl
theorem shr32_zero (x : UInt32) : shr32 x 0 = x := by apply UInt32.toNat_inj.1; simp [shr32]
theorem byteAt0 (M : List UInt32) (n : Nat) : byteAt M (4 * n) = (shr32 (M.getD n 0) 24).toUInt8 := by
  unfold byteAt; rw [show 4 * n / 4 = n by omega, show 4 * n % 4 = 0 by omega]
theorem byteAt1 (M : List UInt32) (n : Nat) : byteAt M (4 * n + 1) = (shr32 (M.getD n 0) 16).toUInt8 := by
  unfold byteAt; rw [show (4 * n + 1) / 4 = n by omega, show (4 * n + 1) % 4 = 1 by omega]
theorem byteAt2 (M : List UInt32) (n : Nat) : byteAt M (4 * n + 2) = (shr32 (M.getD n 0) 8).toUInt8 := by
  unfold byteAt; rw [show (4 * n + 2) / 4 = n by omega, show (4 * n + 2) % 4 = 2 by omega]
theorem byteAt3 (M : List UInt32) (n : Nat) : byteAt M (4 * n + 3) = (M.getD n 0).toUInt8 := by
  unfold byteAt; rw [show (4 * n + 3) / 4 = n by omega, show (4 * n + 3) % 4 = 3 by omega, show 8 * (3 - 3) = 0 from rfl, shr32_zero]
def st10 (M : List UInt32) (n : Nat) : S := ⟨[(39, int n), (38, .agg (M.map u32)), (4, .loc 2 0), (2, .loc 1 0)], 71, [(2, .box ((sumG M (4 * n)).map u8)), (1, .box ((List.replicate 32 (0 : UInt8)).map u8))], 5, []⟩
def finS (s : List UInt32) (r : List UInt8) (m : UInt64) : List UInt8 := if fitsS r m then sumG (moreS s r m (endB r m)) 32 else List.replicate 32 0
theorem f10 (s : List UInt32) (hs : s.length = 8) (r : List UInt8) (m : UInt64) :
    AFun Tryd.prog 10 [.agg (hv s r m)] (.tup [.agg ((finS s r m).map u8), int (moreE r m)]) := by
  refine AFun.enterW Tryd.func10 rfl Tryd.call10 (by simp [Tryd.ntmps10]) fun γ1 => ?_
  simp only [frameOf, Tryd.ntmps10]
  repeat (first | simp only [go_sem, Nat.reduceLT, Nat.reduceEqDiff, reduceIte, Int.reduceEq, Int.reduceLE, Int.reduceLT, Nat.reduceMul, Nat.reduceAdd, Nat.reduceSub, Int.reduceNeg, Int.reduceAdd, Int.reduceMul, Int.reduceSub, Int.reduceToNat, Nat.reduceLeDiff, Nat.reduceDiv, Int.reduceDiv, reduceCtorEq, Option.some.injEq, exists_eq_left', hs_take hs, hs_d8 hs, hs_d9 hs, hs_len hs, hs_t10 hs, List.length_map, zh_eq] | refine AW.seq ?_ | refine AW.block ?_ | refine AW.scope ?_ | refine AW.cond_tt rfl ?_ | refine AW.cond_ff rfl ?_ | refine AW.label ?_ | refine AW.skip ?_ | refine AW.ret ?_ | refine AW.exit ?_ | refine AW.region ?_ | refine AW.draw (by kernel_rfl) (by decide +kernel) ?_ | refine AW.drawN (by kernel_rfl) (by decide +kernel) ?_ | ((with_reducible refine And.intro ?_ ?_); (focus ((repeat' (with_reducible apply And.intro)) <;> first | (with_reducible exact OrdAt.of (by kernel_rfl)) | exact True.intro | (with_reducible assumption) | omega | rfl | exact Nat.le_of_ble_eq_true rfl | (unfold inI; omega)))))
  refine CallE.flat (f17 s hs r m) (by simp only [List.map_cons, List.map_nil, frz_hv]) rfl (by rfl) ?_
  repeat (first | simp only [go_sem, Nat.reduceLT, Nat.reduceEqDiff, reduceIte, Int.reduceEq, Int.reduceLE, Int.reduceLT, Nat.reduceMul, Nat.reduceAdd, Nat.reduceSub, Int.reduceNeg, Int.reduceAdd, Int.reduceMul, Int.reduceSub, Int.reduceToNat, Nat.reduceLeDiff, Nat.reduceDiv, Int.reduceDiv, reduceCtorEq, Option.some.injEq, exists_eq_left'] | refine AW.seq ?_ | refine AW.block ?_ | refine AW.scope ?_ | refine AW.cond_tt rfl ?_ | refine AW.cond_ff rfl ?_ | refine AW.label ?_ | refine AW.skip ?_ | refine AW.ret ?_ | refine AW.exit ?_ | refine AW.region ?_ | refine AW.draw (by kernel_rfl) (by decide +kernel) ?_ | refine AW.drawN (by kernel_rfl) (by decide +kernel) ?_ | ((with_reducible refine And.intro ?_ ?_); (focus ((repeat' (with_reducible apply And.intro)) <;> first | (with_reducible exact OrdAt.of (by kernel_rfl)) | exact True.intro | (with_reducible assumption) | omega | rfl | exact Nat.le_of_ble_eq_true rfl | (unfold inI; omega)))))
  refine AW.cond_dec rfl (fun h1 => ?_) (fun h1 => ?_)
  · have hz : splice (List.replicate 32 (u8 0)) 0 (List.take 32 (List.replicate 32 (u8 0))) = (List.replicate 32 (0 : UInt8)).map u8 := rfl
    have hz2 : ((List.replicate 32 (0 : UInt8)).map u8).take 32 = (List.replicate 32 (0 : UInt8)).map u8 := rfl
    repeat (first | simp only [go_sem, Nat.reduceLT, Nat.reduceEqDiff, reduceIte, Int.reduceEq, Int.reduceLE, Int.reduceLT, Nat.reduceMul, Nat.reduceAdd, Nat.reduceSub, Int.reduceNeg, Int.reduceAdd, Int.reduceMul, Int.reduceSub, Int.reduceToNat, Nat.reduceLeDiff, Nat.reduceDiv, Int.reduceDiv, reduceCtorEq, Option.some.injEq, exists_eq_left', hs_take hs, hs_d8 hs, hs_d9 hs, hs_len hs, hs_t10 hs, List.length_replicate, hz, hz2, List.length_map] | refine AW.seq ?_ | refine AW.block ?_ | refine AW.scope ?_ | refine AW.cond_tt rfl ?_ | refine AW.cond_ff rfl ?_ | refine AW.label ?_ | refine AW.skip ?_ | refine AW.ret ?_ | refine AW.exit ?_ | refine AW.region ?_ | refine AW.draw (by kernel_rfl) (by decide +kernel) ?_ | refine AW.drawN (by kernel_rfl) (by decide +kernel) ?_ | ((with_reducible refine And.intro ?_ ?_); (focus ((repeat' (with_reducible apply And.intro)) <;> first | (with_reducible exact OrdAt.of (by kernel_rfl)) | exact True.intro | (with_reducible assumption) | omega | rfl | exact Nat.le_of_ble_eq_true rfl | (unfold inI; omega)))))
    rw [finS, if_neg h1, moreE, if_neg h1]
    exact Wk.refl _
  · have hf := Decidable.not_not.1 h1
    have hrl : r.length < 64 := hf.1
    have e1 : ((119 : Int) - (r.length : Int)).tmod 64 = (padN r : Int) := by
      rw [Int.tmod_eq_emod_of_nonneg (by omega)]; unfold padN; omega
    have e2 : ((1 : Int) + (padN r : Int)).toNat = padN r + 1 := by omega
    have hp : padN r < 64 := Nat.mod_lt _ (by omega)
    have hz2 : splice (List.replicate (padN r + 1) (u8 0)) 0 [u8 128] = u8 128 :: List.replicate (padN r) (u8 0) := by simp [splice, List.replicate_succ]
    have hpb : ¬ putBad (8 * m) 8 := by unfold putBad; omega
    have hB : putS (128 :: List.replicate (padN r) 0) (8 * m) 8 = endB r m := by rw [putS, if_neg hpb]; rfl
    have hBl : (128 :: List.replicate (padN r) (0 : UInt8)).length = padN r + 1 := by simp
    have hel := endB_length r m
    have q8 : binO Tryd.prog 25 .mul (.v (.int .u64 8)) (u64 m) = (True, u64 (8 * m)) := bin_mul_u64 (P := Tryd.prog) (t := 25) 8 m
    have hzr : zrow [u8 0] (padN r + 1) = bys (List.replicate (padN r + 1) 0) := by simp [zrow, bys]
    have hz1 : splice (bys (List.replicate (padN r + 1) 0)) 0 [u8 128] = bys (128 :: List.replicate (padN r) 0) := by simp [bys, splice, List.replicate_succ]
    repeat (first | simp only [go_sem, Nat.reduceLT, Nat.reduceEqDiff, reduceIte, Int.reduceEq, Int.reduceLE, Int.reduceLT, Nat.reduceMul, Nat.reduceAdd, Nat.reduceSub, Int.reduceNeg, Int.reduceAdd, Int.reduceMul, Int.reduceSub, Int.reduceToNat, Nat.reduceLeDiff, Nat.reduceDiv, Int.reduceDiv, reduceCtorEq, Option.some.injEq, exists_eq_left', hs_take hs, hs_d8 hs, hs_d9 hs, hs_len hs, hs_t10 hs, List.length_append, e1, e2, hzr, hz1, q8, bys_length, List.length_replicate, List.length_cons] | refine AW.seq ?_ | refine AW.block ?_ | refine AW.scope ?_ | refine AW.cond_tt rfl ?_ | refine AW.cond_ff rfl ?_ | refine AW.label ?_ | refine AW.skip ?_ | refine AW.ret ?_ | refine AW.exit ?_ | refine AW.region ?_ | refine AW.draw (by kernel_rfl) (by decide +kernel) ?_ | refine AW.drawN (by kernel_rfl) (by decide +kernel) ?_ | ((with_reducible refine And.intro ?_ ?_); (focus ((repeat' (with_reducible apply And.intro)) <;> first | (with_reducible exact OrdAt.of (by kernel_rfl)) | exact True.intro | (with_reducible assumption) | omega | rfl | exact Nat.le_of_ble_eq_true rfl | (unfold inI; omega)))))
    have hput := f22 (128 :: List.replicate (padN r) 0) (by rw [hBl]; omega) (8 * m) 8 (by unfold inI; omega)
    rw [hB, putE, if_neg hpb, hBl] at hput
    refine CallE.mem hput (by simp [frz, rowOf, look_cons, bys, dt, hz2]) (by simp [bor, look_cons, isBox]) (by rfl) ?_
    repeat (first | simp only [go_sem, Nat.reduceLT, Nat.reduceEqDiff, reduceIte, Int.reduceEq, Int.reduceLE, Int.reduceLT, Nat.reduceMul, Nat.reduceAdd, Nat.reduceSub, Int.reduceNeg, Int.reduceAdd, Int.reduceMul, Int.reduceSub, Int.reduceToNat, Nat.reduceLeDiff, Nat.reduceDiv, Int.reduceDiv, reduceCtorEq, Option.some.injEq, exists_eq_left', hs_take hs, hs_d8 hs, hs_d9 hs, hs_len hs, hs_t10 hs, List.length_append] | refine AW.seq ?_ | refine AW.block ?_ | refine AW.scope ?_ | refine AW.cond_tt rfl ?_ | refine AW.cond_ff rfl ?_ | refine AW.label ?_ | refine AW.skip ?_ | refine AW.ret ?_ | refine AW.exit ?_ | refine AW.region ?_ | refine AW.draw (by kernel_rfl) (by decide +kernel) ?_ | refine AW.drawN (by kernel_rfl) (by decide +kernel) ?_ | ((with_reducible refine And.intro ?_ ?_); (focus ((repeat' (with_reducible apply And.intro)) <;> first | (with_reducible exact OrdAt.of (by kernel_rfl)) | exact True.intro | (with_reducible assumption) | omega | rfl | exact Nat.le_of_ble_eq_true rfl | (unfold inI; omega)))))
    refine CallE.mem (f8 s hs r (by omega) m (endB r m) (by omega)) (by simp only [List.map_cons, List.map_nil, frz_hv, frz_sl]) (by simp [bor]) (by rfl) ?_
    have hml : (moreS s r m (endB r m)).length = 8 := by rw [moreS_len, hs]
    generalize hM : moreS s r m (endB r m) = M at hml ⊢
    generalize moreR s r m (endB r m) = Mr
    generalize moreM r m (endB r m) = Mm
    repeat (first | simp only [go_sem, Nat.reduceLT, Nat.reduceEqDiff, reduceIte, Int.reduceEq, Int.reduceLE, Int.reduceLT, Nat.reduceMul, Nat.reduceAdd, Nat.reduceSub, Int.reduceNeg, Int.reduceAdd, Int.reduceMul, Int.reduceSub, Int.reduceToNat, Nat.reduceLeDiff, Nat.reduceDiv, Int.reduceDiv, reduceCtorEq, Option.some.injEq, exists_eq_left', hs_take hml, hs_d8 hml, hs_d9 hml, hs_len hml, hs_t10 hml, zh_eq, zh_len, zh_spl hml] | refine AW.seq ?_ | refine AW.block ?_ | refine AW.scope ?_ | refine AW.cond_tt rfl ?_ | refine AW.cond_ff rfl ?_ | refine AW.label ?_ | refine AW.skip ?_ | refine AW.ret ?_ | refine AW.exit ?_ | refine AW.region ?_ | refine AW.draw (by kernel_rfl) (by decide +kernel) ?_ | refine AW.drawN (by kernel_rfl) (by decide +kernel) ?_ | ((with_reducible refine And.intro ?_ ?_); (focus ((repeat' (with_reducible apply And.intro)) <;> first | (with_reducible exact OrdAt.of (by kernel_rfl)) | exact True.intro | (with_reducible assumption) | omega | rfl | exact Nat.le_of_ble_eq_true rfl | (unfold inI; omega)))))
    have hz32 : List.replicate 32 (u8 0) = (List.replicate 32 (0 : UInt8)).map u8 := rfl
    refine AW.loop (fun s' => ∃ n : Nat, n ≤ 8 ∧ s' = st10 M n) (fun s' => (8 - slotN s' 39).toNat) (s0 := st10 M 0) ?_ ⟨0, by omega, rfl⟩ ?_
    · simp only [st10, sumG_zero, Nat.mul_zero, hz32]
      exact (Sub.same (by first | exact Nat.zero_le _ | exact Nat.le_refl _ | decide | omega) rfl rfl (by simp) (by simp [lab, labL, ren, renL, look_cons, renL_bys, labL_bys, renL_mapu8, labL_mapu8, renL_mapu32, labL_mapu32]) (by simp [labO, renO, lab, labL, ren, renL, look_cons, renL_bys, labL_bys, renL_mapu8, labL_mapu8, renL_mapu32, labL_mapu32]))
    rintro s' ⟨n, hn, rfl⟩
    simp only [st10]
    repeat (first | simp only [go_sem, Nat.reduceLT, Nat.reduceEqDiff, reduceIte, Int.reduceEq, Int.reduceLE, Int.reduceLT, Nat.reduceMul, Nat.reduceAdd, Nat.reduceSub, Int.reduceNeg, Int.reduceAdd, Int.reduceMul, Int.reduceSub, Int.reduceToNat, Nat.reduceLeDiff, Nat.reduceDiv, Int.reduceDiv, reduceCtorEq, Option.some.injEq, exists_eq_left'] | refine AW.seq ?_ | refine AW.block ?_ | refine AW.scope ?_ | refine AW.cond_tt rfl ?_ | refine AW.cond_ff rfl ?_ | refine AW.label ?_ | refine AW.skip ?_ | refine AW.ret ?_ | refine AW.exit ?_ | refine AW.region ?_ | refine AW.draw (by kernel_rfl) (by decide +kernel) ?_ | refine AW.drawN (by kernel_rfl) (by decide +kernel) ?_ | ((with_reducible refine And.intro ?_ ?_); (focus ((repeat' (with_reducible apply And.intro)) <;> first | (with_reducible exact OrdAt.of (by kernel_rfl)) | exact True.intro | (with_reducible assumption) | omega | rfl | exact Nat.le_of_ble_eq_true rfl | (unfold inI; omega)))))
    refine AW.cond_dec rfl (fun h2 => ?_) (fun h2 => ?_)
    · have hn8 : n < 8 := by omega
      have b0 : 4 * n < 32 := by omega
      have b1 : 4 * n + 1 < 32 := by omega
      have b2 : 4 * n + 2 < 32 := by omega
      have b3 : 4 * n + 3 < 32 := by omega
      have a0 : ((4 : Int) * n).toNat = 4 * n := by omega
      have a1 : ((4 : Int) * n + 1).toNat = 4 * n + 1 := by omega
      have a2 : ((4 : Int) * n + 2).toNat = 4 * n + 2 := by omega
      have a3 : ((4 : Int) * n + 3).toNat = 4 * n + 3 := by omega
      repeat (first | simp only [go_sem, Nat.reduceLT, Nat.reduceEqDiff, reduceIte, Int.reduceEq, Int.reduceLE, Int.reduceLT, Nat.reduceMul, Nat.reduceAdd, Nat.reduceSub, Int.reduceNeg, Int.reduceAdd, Int.reduceMul, Int.reduceSub, Int.reduceToNat, Nat.reduceLeDiff, Nat.reduceDiv, Int.reduceDiv, reduceCtorEq, Option.some.injEq, exists_eq_left', row_u32, splice_u8, hml, hn8, List.length_map, List.length_drop, a0, a1, a2, a3, b0, b1, b2, b3, sumG_len, List.length_set] | refine AW.seq ?_ | refine AW.block ?_ | refine AW.scope ?_ | refine AW.cond_tt rfl ?_ | refine AW.cond_ff rfl ?_ | refine AW.label ?_ | refine AW.skip ?_ | refine AW.ret ?_ | refine AW.exit ?_ | refine AW.region ?_ | refine AW.draw (by kernel_rfl) (by decide +kernel) ?_ | refine AW.drawN (by kernel_rfl) (by decide +kernel) ?_ | ((with_reducible refine And.intro ?_ ?_); (focus ((repeat' (with_reducible apply And.intro)) <;> first | (with_reducible exact OrdAt.of (by kernel_rfl)) | exact True.intro | (with_reducible assumption) | omega | rfl | exact Nat.le_of_ble_eq_true rfl | (unfold inI; omega)))))
      rw [← byteAt0, ← byteAt1, ← byteAt2, ← byteAt3, sumG_set, sumG_set, sumG_set, sumG_set]
      rw [Qof_lp]
      refine ⟨st10 M (n + 1), ?_, ⟨n + 1, by omega, rfl⟩, ?_⟩
      · simp only [st10, Nat.mul_succ]
        exact (Sub.same (by first | exact Nat.zero_le _ | exact Nat.le_refl _ | decide | omega) rfl rfl (by simp) (by simp [lab, labL, ren, renL, look_cons, renL_bys, labL_bys, renL_mapu8, labL_mapu8, renL_mapu32, labL_mapu32]) (by simp [labO, renO, lab, labL, ren, renL, look_cons, renL_bys, labL_bys, renL_mapu8, labL_mapu8, renL_mapu32, labL_mapu32]))
      · simp [slotN, st10, look_cons]; omega
    · have hn8 : n = 8 := by omega
      subst hn8
      have ht : ((sumG M 32).map u8).take 32 = (sumG M 32).map u8 := List.take_of_length_le (by rw [List.length_map, sumG_len]; exact Nat.le_refl _)
      have hsp : splice ((List.replicate 32 (0 : UInt8)).map u8) 0 ((sumG M 32).map u8) = (sumG M 32).map u8 := splice_all (by rw [List.length_map, List.length_map, sumG_len, List.length_replicate])
      repeat (first | simp only [go_sem, Nat.reduceLT, Nat.reduceEqDiff, reduceIte, Int.reduceEq, Int.reduceLE, Int.reduceLT, Nat.reduceMul, Nat.reduceAdd, Nat.reduceSub, Int.reduceNeg, Int.reduceAdd, Int.reduceMul, Int.reduceSub, Int.reduceToNat, Nat.reduceLeDiff, Nat.reduceDiv, Int.reduceDiv, reduceCtorEq, Option.some.injEq, exists_eq_left', List.length_map, sumG_len, ht, hsp, List.length_replicate] | refine AW.seq ?_ | refine AW.block ?_ | refine AW.scope ?_ | refine AW.cond_tt rfl ?_ | refine AW.cond_ff rfl ?_ | refine AW.label ?_ | refine AW.skip ?_ | refine AW.ret ?_ | refine AW.exit ?_ | refine AW.region ?_ | refine AW.draw (by kernel_rfl) (by decide +kernel) ?_ | refine AW.drawN (by kernel_rfl) (by decide +kernel) ?_ | ((with_reducible refine And.intro ?_ ?_); (focus ((repeat' (with_reducible apply And.intro)) <;> first | (with_reducible exact OrdAt.of (by kernel_rfl)) | exact True.intro | (with_reducible assumption) | omega | rfl | exact Nat.le_of_ble_eq_true rfl | (unfold inI; omega)))))
      rw [finS, if_pos hf, hM, moreE, if_pos hf]
      exact Wk.refl _
end Go.Proofs.YtapjkdmdckfjbaaDoor

namespace Go.Proofs.YtapjkdmdckfjbaaDoor
open Go Go.Eng Go.Proofs
set_option maxRecDepth 100000
set_option maxHeartbeats 1000000
set_option linter.unusedSimpArgs false
set_option linter.unusedVariables false
attribute [local simp] labL_app renL_app
def tl (k : Nat) : List UInt8 := 128 :: List.replicate k 0
theorem tl_len (k : Nat) : (tl k).length = k + 1 := by simp [tl]
theorem tl_succ (k : Nat) : tl k ++ [0] = tl (k + 1) := by simp [tl, List.replicate_succ']
def st11 (s : List UInt32) (r : List UInt8) (m : UInt64) (i : Int) (t : List UInt8) : S := ⟨[(7, int i), (6, .sl 1 (bys t) t.length (some 3)), (4, .loc 2 0), (2, .loc 1 0), (1, .loc 0 0)], 69, [(3, .tok), (2, .box ((List.replicate 32 (0 : UInt8)).map u8)), (1, .box ((List.replicate 32 (0 : UInt8)).map u8)), (0, .box (hv s r m))], 4, []⟩
def st11a (s : List UInt32) (r : List UInt8) (m : UInt64) (t : List UInt8) : S := ⟨[(6, .sl 1 (bys t) t.length (some 3)), (4, .loc 2 0), (2, .loc 1 0), (1, .loc 0 0)], 69, [(3, .tok), (2, .box ((List.replicate 32 (0 : UInt8)).map u8)), (1, .box ((List.replicate 32 (0 : UInt8)).map u8)), (0, .box (hv s r m))], 4, []⟩
def st11c (M : List UInt32) (Mr : List UInt8) (Mm : UInt64) (i : Nat) : S := ⟨[(10, int i), (8, .loc 4 0), (4, .loc 2 0), (2, .loc 1 0)], 69, [(4, .box (hv M Mr Mm)), (2, .box ((sumG M i).map u8)), (1, .box ((List.replicate 32 (0 : UInt8)).map u8))], 5, []⟩
theorem f11 (s : List UInt32) (hs : s.length = 8) (r : List UInt8) (m : UInt64) :
    AFun Tryd.prog 11 [.agg (hv s r m)] (.tup [.agg ((finS s r m).map u8), int (moreE r m)]) := by
  refine AFun.enterW Tryd.func11 rfl Tryd.call11 (by simp [Tryd.ntmps11]) fun γ1 => ?_
  simp only [frameOf, Tryd.ntmps11]
  have hz32 : List.replicate 32 (u8 0) = (List.replicate 32 (0 : UInt8)).map u8 := rfl
  have hz : splice ((List.replicate 32 (0 : UInt8)).map u8) 0 ((List.replicate 32 (0 : UInt8)).map u8) = (List.replicate 32 (0 : UInt8)).map u8 := rfl
  have hz2 : ((List.replicate 32 (0 : UInt8)).map u8).take 32 = (List.replicate 32 (0 : UInt8)).map u8 := rfl
  repeat (first | simp only [go_sem, Nat.reduceLT, Nat.reduceEqDiff, reduceIte, Int.reduceEq, Int.reduceLE, Int.reduceLT, Nat.reduceMul, Nat.reduceAdd, Nat.reduceSub, Int.reduceNeg, Int.reduceAdd, Int.reduceMul, Int.reduceSub, Int.reduceToNat, Nat.reduceLeDiff, Nat.reduceDiv, Int.reduceDiv, reduceCtorEq, Option.some.injEq, exists_eq_left', hs_take hs, hs_d8 hs, hs_d9 hs, hs_len hs, hs_t10 hs, List.length_map, zh_eq, hz32, hz, hz2, List.length_replicate] | refine AW.seq ?_ | refine AW.block ?_ | refine AW.scope ?_ | refine AW.cond_tt rfl ?_ | refine AW.cond_ff rfl ?_ | refine AW.label ?_ | refine AW.skip ?_ | refine AW.ret ?_ | refine AW.exit ?_ | refine AW.region ?_ | refine AW.draw (by kernel_rfl) (by decide +kernel) ?_ | refine AW.drawN (by kernel_rfl) (by decide +kernel) ?_ | ((with_reducible refine And.intro ?_ ?_); (focus ((repeat' (with_reducible apply And.intro)) <;> first | (with_reducible exact OrdAt.of (by kernel_rfl)) | exact True.intro | (with_reducible assumption) | omega | rfl | exact Nat.le_of_ble_eq_true rfl | (unfold inI; omega)))))
  refine CallE.flat (f20 s hs r m) (by simp only [List.map_cons, List.map_nil, frz_hv]) rfl (by rfl) ?_
  repeat (first | simp only [go_sem, Nat.reduceLT, Nat.reduceEqDiff, reduceIte, Int.reduceEq, Int.reduceLE, Int.reduceLT, Nat.reduceMul, Nat.reduceAdd, Nat.reduceSub, Int.reduceNeg, Int.reduceAdd, Int.reduceMul, Int.reduceSub, Int.reduceToNat, Nat.reduceLeDiff, Nat.reduceDiv, Int.reduceDiv, reduceCtorEq, Option.some.injEq, exists_eq_left'] | refine AW.seq ?_ | refine AW.block ?_ | refine AW.scope ?_ | refine AW.cond_tt rfl ?_ | refine AW.cond_ff rfl ?_ | refine AW.label ?_ | refine AW.skip ?_ | refine AW.ret ?_ | refine AW.exit ?_ | refine AW.region ?_ | refine AW.draw (by kernel_rfl) (by decide +kernel) ?_ | refine AW.drawN (by kernel_rfl) (by decide +kernel) ?_ | ((with_reducible refine And.intro ?_ ?_); (focus ((repeat' (with_reducible apply And.intro)) <;> first | (with_reducible exact OrdAt.of (by kernel_rfl)) | exact True.intro | (with_reducible assumption) | omega | rfl | exact Nat.le_of_ble_eq_true rfl | (unfold inI; omega)))))
  refine AW.cond_dec rfl (fun h1 => ?_) (fun h1 => ?_)
  · repeat (first | simp only [go_sem, Nat.reduceLT, Nat.reduceEqDiff, reduceIte, Int.reduceEq, Int.reduceLE, Int.reduceLT, Nat.reduceMul, Nat.reduceAdd, Nat.reduceSub, Int.reduceNeg, Int.reduceAdd, Int.reduceMul, Int.reduceSub, Int.reduceToNat, Nat.reduceLeDiff, Nat.reduceDiv, Int.reduceDiv, reduceCtorEq, Option.some.injEq, exists_eq_left', hs_take hs, hs_d8 hs, hs_d9 hs, hs_len hs, hs_t10 hs, List.length_replicate, hz, hz2, List.length_map] | refine AW.seq ?_ | refine AW.block ?_ | refine AW.scope ?_ | refine AW.cond_tt rfl ?_ | refine AW.cond_ff rfl ?_ | refine AW.label ?_ | refine AW.skip ?_ | refine AW.ret ?_ | refine AW.exit ?_ | refine AW.region ?_ | refine AW.draw (by kernel_rfl) (by decide +kernel) ?_ | refine AW.drawN (by kernel_rfl) (by decide +kernel) ?_ | ((with_reducible refine And.intro ?_ ?_); (focus ((repeat' (with_reducible apply And.intro)) <;> first | (with_reducible exact OrdAt.of (by kernel_rfl)) | exact True.intro | (with_reducible assumption) | omega | rfl | exact Nat.le_of_ble_eq_true rfl | (unfold inI; omega)))))
    rw [finS, if_neg h1, moreE, if_neg h1]
    exact Wk.refl _
  · have hf := Decidable.not_not.1 h1
    have hrl : r.length < 64 := hf.1
    have hp : padN r < 64 := Nat.mod_lt _ (by omega)
    repeat (first | simp only [go_sem, Nat.reduceLT, Nat.reduceEqDiff, reduceIte, Int.reduceEq, Int.reduceLE, Int.reduceLT, Nat.reduceMul, Nat.reduceAdd, Nat.reduceSub, Int.reduceNeg, Int.reduceAdd, Int.reduceMul, Int.reduceSub, Int.reduceToNat, Nat.reduceLeDiff, Nat.reduceDiv, Int.reduceDiv, reduceCtorEq, Option.some.injEq, exists_eq_left', hs_take hs, hs_d8 hs, hs_d9 hs, hs_len hs, hs_t10 hs, List.length_append] | refine AW.seq ?_ | refine AW.block ?_ | refine AW.scope ?_ | refine AW.cond_tt rfl ?_ | refine AW.cond_ff rfl ?_ | refine AW.label ?_ | refine AW.skip ?_ | refine AW.ret ?_ | refine AW.exit ?_ | refine AW.region ?_ | refine AW.draw (by kernel_rfl) (by decide +kernel) ?_ | refine AW.drawN (by kernel_rfl) (by decide +kernel) ?_ | ((with_reducible refine And.intro ?_ ?_); (focus ((repeat' (with_reducible apply And.intro)) <;> first | (with_reducible exact OrdAt.of (by kernel_rfl)) | exact True.intro | (with_reducible assumption) | omega | rfl | exact Nat.le_of_ble_eq_true rfl | (unfold inI; omega)))))
    refine AW.loop (fun s' => ∃ k : Nat, k ≤ padN r ∧ s' = st11a s r m (tl k)) (fun s' => 100 - slotLen s' 6) (s0 := st11a s r m (tl 0)) ?_ ⟨0, by omega, rfl⟩ ?_
    · simp only [st11a, tl, bys, List.replicate_zero, List.map_cons, List.map_nil, List.length_cons, List.length_nil]
      exact (Sub.same (by first | exact Nat.zero_le _ | exact Nat.le_refl _ | decide | omega) rfl rfl (by simp) (by simp [lab, labL, ren, renL, look_cons, renL_bys, labL_bys, renL_mapu8, labL_mapu8, renL_mapu32, labL_mapu32]) (by simp [labO, renO, lab, labL, ren, renL, look_cons, renL_bys, labL_bys, renL_mapu8, labL_mapu8, renL_mapu32, labL_mapu32]))
    rintro s' ⟨k, hk, rfl⟩
    simp only [st11a]
    have hkl := tl_len k
    repeat (first | simp only [go_sem, Nat.reduceLT, Nat.reduceEqDiff, reduceIte, Int.reduceEq, Int.reduceLE, Int.reduceLT, Nat.reduceMul, Nat.reduceAdd, Nat.reduceSub, Int.reduceNeg, Int.reduceAdd, Int.reduceMul, Int.reduceSub, Int.reduceToNat, Nat.reduceLeDiff, Nat.reduceDiv, Int.reduceDiv, reduceCtorEq, Option.some.injEq, exists_eq_left', hs_take hs, hs_d8 hs, hs_d9 hs, hs_len hs, hs_t10 hs] | refine AW.seq ?_ | refine AW.block ?_ | refine AW.scope ?_ | refine AW.cond_tt rfl ?_ | refine AW.cond_ff rfl ?_ | refine AW.label ?_ | refine AW.skip ?_ | refine AW.ret ?_ | refine AW.exit ?_ | refine AW.region ?_ | refine AW.draw (by kernel_rfl) (by decide +kernel) ?_ | refine AW.drawN (by kernel_rfl) (by decide +kernel) ?_ | ((with_reducible refine And.intro ?_ ?_); (focus ((repeat' (with_reducible apply And.intro)) <;> first | (with_reducible exact OrdAt.of (by kernel_rfl)) | exact True.intro | (with_reducible assumption) | omega | rfl | exact Nat.le_of_ble_eq_true rfl | (unfold inI; omega)))))
    refine AW.cond_dec rfl (fun h2 => ?_) (fun h2 => ?_)
    · have hk2 : k + 1 ≤ padN r := by
        rcases Nat.lt_or_ge k (padN r) with h | h
        · exact h
        · exfalso
          apply h2
          rw [Int.tmod_eq_emod_of_nonneg (by omega)]
          unfold padN at hk h
          omega
      repeat (first | simp only [go_sem, Nat.reduceLT, Nat.reduceEqDiff, reduceIte, Int.reduceEq, Int.reduceLE, Int.reduceLT, Nat.reduceMul, Nat.reduceAdd, Nat.reduceSub, Int.reduceNeg, Int.reduceAdd, Int.reduceMul, Int.reduceSub, Int.reduceToNat, Nat.reduceLeDiff, Nat.reduceDiv, Int.reduceDiv, reduceCtorEq, Option.some.injEq, exists_eq_left', hs_take hs, hs_d8 hs, hs_d9 hs, hs_len hs, hs_t10 hs] | refine AW.seq ?_ | refine AW.block ?_ | refine AW.scope ?_ | refine AW.cond_tt rfl ?_ | refine AW.cond_ff rfl ?_ | refine AW.label ?_ | refine AW.skip ?_ | refine AW.ret ?_ | refine AW.exit ?_ | refine AW.region ?_ | refine AW.draw (by kernel_rfl) (by decide +kernel) ?_ | refine AW.drawN (by kernel_rfl) (by decide +kernel) ?_ | ((with_reducible refine And.intro ?_ ?_); (focus ((repeat' (with_reducible apply And.intro)) <;> first | (with_reducible exact OrdAt.of (by kernel_rfl)) | exact True.intro | (with_reducible assumption) | omega | rfl | exact Nat.le_of_ble_eq_true rfl | (unfold inI; omega)))))
      rw [Qof_lp]
      refine ⟨st11a s r m (tl (k + 1)), ?_, ⟨k + 1, hk2, rfl⟩, ?_⟩
      · simp only [st11a]
        refine Sub.of (fun l => if l = 3 then 5 else l) (fun l h => absurd h (Nat.not_lt_zero l)) (by intro l l' h h' e; dsimp only at *; split at e <;> split at e <;> omega) (Nat.zero_le _) rfl rfl (by simp) ?_ ?_
        · simp [lab, labL, ren, renL, look_cons, renL_bys, labL_bys, ← tl_succ, bys, renL_mapu8, labL_mapu8]
        · simp [labO, renO, look_cons, labL_mapu8, renL_mapu8, lab, labL, ren, renL, renL_bys, labL_bys, renL_mapu32, labL_mapu32]
      · simp [slotLen, st11a, look_cons, tl_len]; omega
    · have hkp : k = padN r := by
        rw [Int.tmod_eq_emod_of_nonneg (by omega)] at h2
        unfold padN at hk ⊢
        omega
      repeat (first | simp only [go_sem, Nat.reduceLT, Nat.reduceEqDiff, reduceIte, Int.reduceEq, Int.reduceLE, Int.reduceLT, Nat.reduceMul, Nat.reduceAdd, Nat.reduceSub, Int.reduceNeg, Int.reduceAdd, Int.reduceMul, Int.reduceSub, Int.reduceToNat, Nat.reduceLeDiff, Nat.reduceDiv, Int.reduceDiv, reduceCtorEq, Option.some.injEq, exists_eq_left'] | refine AW.seq ?_ | refine AW.block ?_ | refine AW.scope ?_ | refine AW.cond_tt rfl ?_ | refine AW.cond_ff rfl ?_ | refine AW.label ?_ | refine AW.skip ?_ | refine AW.ret ?_ | refine AW.exit ?_ | refine AW.region ?_ | refine AW.draw (by kernel_rfl) (by decide +kernel) ?_ | refine AW.drawN (by kernel_rfl) (by decide +kernel) ?_ | ((with_reducible refine And.intro ?_ ?_); (focus ((repeat' (with_reducible apply And.intro)) <;> first | (with_reducible exact OrdAt.of (by kernel_rfl)) | exact True.intro | (with_reducible assumption) | omega | rfl | exact Nat.le_of_ble_eq_true rfl | (unfold inI; omega)))))
      refine AW.loop (fun s' => ∃ j : Nat, j ≤ 8 ∧ s' = st11 s r m (7 - (j : Int)) (tl (padN r) ++ bigE (8 * m) 8 j)) (fun s' => (slotN s' 7 + 1).toNat) (s0 := st11 s r m 7 (tl (padN r))) ?_ ⟨0, by omega, by simp [bigE]⟩ ?_
      · simp only [st11, hkp]
        exact (Sub.same (by first | exact Nat.zero_le _ | exact Nat.le_refl _ | decide | omega) rfl rfl (by simp) (by simp [lab, labL, ren, renL, look_cons, renL_bys, labL_bys, renL_mapu8, labL_mapu8, renL_mapu32, labL_mapu32]) (by simp [labO, renO, lab, labL, ren, renL, look_cons, renL_bys, labL_bys, renL_mapu8, labL_mapu8, renL_mapu32, labL_mapu32]))
      rintro s' ⟨j, hj, rfl⟩
      simp only [st11]
      have hjl : (tl (padN r) ++ bigE (8 * m) 8 j).length = padN r + 1 + j := by rw [List.length_append, tl_len, bigE_length]
      repeat (first | simp only [go_sem, Nat.reduceLT, Nat.reduceEqDiff, reduceIte, Int.reduceEq, Int.reduceLE, Int.reduceLT, Nat.reduceMul, Nat.reduceAdd, Nat.reduceSub, Int.reduceNeg, Int.reduceAdd, Int.reduceMul, Int.reduceSub, Int.reduceToNat, Nat.reduceLeDiff, Nat.reduceDiv, Int.reduceDiv, reduceCtorEq, Option.some.injEq, exists_eq_left'] | refine AW.seq ?_ | refine AW.block ?_ | refine AW.scope ?_ | refine AW.cond_tt rfl ?_ | refine AW.cond_ff rfl ?_ | refine AW.label ?_ | refine AW.skip ?_ | refine AW.ret ?_ | refine AW.exit ?_ | refine AW.region ?_ | refine AW.draw (by kernel_rfl) (by decide +kernel) ?_ | refine AW.drawN (by kernel_rfl) (by decide +kernel) ?_ | ((with_reducible refine And.intro ?_ ?_); (focus ((repeat' (with_reducible apply And.intro)) <;> first | (with_reducible exact OrdAt.of (by kernel_rfl)) | exact True.intro | (with_reducible assumption) | omega | rfl | exact Nat.le_of_ble_eq_true rfl | (unfold inI; omega)))))
      refine AW.cond_dec rfl (fun h3 => ?_) (fun h3 => ?_)
      · have q8 : binO Tryd.prog 25 .mul (u64 m) (.v (.int .u64 8)) = (True, u64 (8 * m)) := by rw [UInt64.mul_comm]; exact bin_mul_u64 (P := Tryd.prog) (t := 25) m 8
        have hu : ((8 : Int) * (7 - (j : Int))) % 18446744073709551616 = ((8 * (7 - j) : Nat) : Int) := by omega
        repeat (first | simp only [go_sem, Nat.reduceLT, Nat.reduceEqDiff, reduceIte, Int.reduceEq, Int.reduceLE, Int.reduceLT, Nat.reduceMul, Nat.reduceAdd, Nat.reduceSub, Int.reduceNeg, Int.reduceAdd, Int.reduceMul, Int.reduceSub, Int.reduceToNat, Nat.reduceLeDiff, Nat.reduceDiv, Int.reduceDiv, reduceCtorEq, Option.some.injEq, exists_eq_left', hs_take hs, hs_d8 hs, hs_d9 hs, hs_len hs, hs_t10 hs, q8, hu, wrap_u64c] | refine AW.seq ?_ | refine AW.block ?_ | refine AW.scope ?_ | refine AW.cond_tt rfl ?_ | refine AW.cond_ff rfl ?_ | refine AW.label ?_ | refine AW.skip ?_ | refine AW.ret ?_ | refine AW.exit ?_ | refine AW.region ?_ | refine AW.draw (by kernel_rfl) (by decide +kernel) ?_ | refine AW.drawN (by kernel_rfl) (by decide +kernel) ?_ | ((with_reducible refine And.intro ?_ ?_); (focus ((repeat' (with_reducible apply And.intro)) <;> first | (with_reducible exact OrdAt.of (by kernel_rfl)) | exact True.intro | (with_reducible assumption) | omega | rfl | exact Nat.le_of_ble_eq_true rfl | (unfold inI; omega)))))
        have hb : tl (padN r) ++ bigE (8 * m) 8 j ++ [(shr64 (8 * m) (8 * (7 - j))).toUInt8] = tl (padN r) ++ bigE (8 * m) 8 (j + 1) := by
          rw [bigE_succ, List.append_assoc, show (8 * ((8 : Int) - 1 - (j : Int))).toNat = 8 * (7 - j) by omega]
        rw [hb, Qof_lp]
        refine ⟨st11 s r m (7 - ((j + 1 : Nat) : Int)) (tl (padN r) ++ bigE (8 * m) 8 (j + 1)), ?_, ⟨j + 1, by omega, rfl⟩, ?_⟩
        · simp only [st11]
          have hl2 : (tl (padN r) ++ bigE (8 * m) 8 (j + 1)).length = (tl (padN r) ++ bigE (8 * m) 8 j).length + 1 := by simp [bigE_length]; omega
          have hj2 : (7 : Int) - ((j + 1 : Nat) : Int) = 7 - (j : Int) - 1 := by omega
          rw [hl2, hj2]
          refine Sub.of (fun l => if l = 3 then 5 else l) (fun l h => absurd h (Nat.not_lt_zero l)) (by intro l l' h h' e; dsimp only at *; split at e <;> split at e <;> omega) (Nat.zero_le _) rfl rfl (by simp) ?_ ?_
          · simp [lab, labL, ren, renL, look_cons, renL_bys, labL_bys, bys, renL_mapu8, labL_mapu8]
          · simp [labO, renO, look_cons, labL_mapu8, renL_mapu8, lab, labL, ren, renL, renL_bys, labL_bys, renL_mapu32, labL_mapu32]
        · simp [slotN, st11, look_cons]; omega
      · have hj8 : j = 8 := by omega
        subst hj8
        have hE : tl (padN r) ++ bigE (8 * m) 8 8 = endB r m := rfl
        have hel := endB_length r m
        rw [hE]
        repeat (first | simp only [go_sem, Nat.reduceLT, Nat.reduceEqDiff, reduceIte, Int.reduceEq, Int.reduceLE, Int.reduceLT, Nat.reduceMul, Nat.reduceAdd, Nat.reduceSub, Int.reduceNeg, Int.reduceAdd, Int.reduceMul, Int.reduceSub, Int.reduceToNat, Nat.reduceLeDiff, Nat.reduceDiv, Int.reduceDiv, reduceCtorEq, Option.some.injEq, exists_eq_left', hs_take hs, hs_d8 hs, hs_d9 hs, hs_len hs, hs_t10 hs] | refine AW.seq ?_ | refine AW.block ?_ | refine AW.scope ?_ | refine AW.cond_tt rfl ?_ | refine AW.cond_ff rfl ?_ | refine AW.label ?_ | refine AW.skip ?_ | refine AW.ret ?_ | refine AW.exit ?_ | refine AW.region ?_ | refine AW.draw (by kernel_rfl) (by decide +kernel) ?_ | refine AW.drawN (by kernel_rfl) (by decide +kernel) ?_ | ((with_reducible refine And.intro ?_ ?_); (focus ((repeat' (with_reducible apply And.intro)) <;> first | (with_reducible exact OrdAt.of (by kernel_rfl)) | exact True.intro | (with_reducible assumption) | omega | rfl | exact Nat.le_of_ble_eq_true rfl | (unfold inI; omega)))))
        refine CallE.mem (f9 s hs r (by omega) m (endB r m) (by omega)) (by simp only [List.map_cons, List.map_nil, frz_hv, frz_sl]) (by simp [bor, look_cons, isBox]) (by rfl) ?_
        have hml : (moreS s r m (endB r m)).length = 8 := by rw [moreS_len, hs]
        generalize hM : moreS s r m (endB r m) = M at hml ⊢
        generalize moreR s r m (endB r m) = Mr
        generalize moreM r m (endB r m) = Mm
        repeat (first | simp only [go_sem, Nat.reduceLT, Nat.reduceEqDiff, reduceIte, Int.reduceEq, Int.reduceLE, Int.reduceLT, Nat.reduceMul, Nat.reduceAdd, Nat.reduceSub, Int.reduceNeg, Int.reduceAdd, Int.reduceMul, Int.reduceSub, Int.reduceToNat, Nat.reduceLeDiff, Nat.reduceDiv, Int.reduceDiv, reduceCtorEq, Option.some.injEq, exists_eq_left', hs_take hml, hs_d8 hml, hs_d9 hml, hs_len hml, hs_t10 hml, zh_eq, zh_len, zh_spl hml] | refine AW.seq ?_ | refine AW.block ?_ | refine AW.scope ?_ | refine AW.cond_tt rfl ?_ | refine AW.cond_ff rfl ?_ | refine AW.label ?_ | refine AW.skip ?_ | refine AW.ret ?_ | refine AW.exit ?_ | refine AW.region ?_ | refine AW.draw (by kernel_rfl) (by decide +kernel) ?_ | refine AW.drawN (by kernel_rfl) (by decide +kernel) ?_ | ((with_reducible refine And.intro ?_ ?_); (focus ((repeat' (with_reducible apply And.intro)) <;> first | (with_reducible exact OrdAt.of (by kernel_rfl)) | exact True.intro | (with_reducible assumption) | omega | rfl | exact Nat.le_of_ble_eq_true rfl | (unfold inI; omega)))))
        refine AW.loop (fun s' => ∃ n : Nat, n ≤ 32 ∧ s' = st11c M Mr Mm n) (fun s' => (32 - slotN s' 10).toNat) (s0 := st11c M Mr Mm 0) ?_ ⟨0, by omega, rfl⟩ ?_
        · simp only [st11c, sumG_zero]
          exact (Sub.same (by first | exact Nat.zero_le _ | exact Nat.le_refl _ | decide | omega) rfl rfl (by simp) (by simp [lab, labL, ren, renL, look_cons, renL_bys, labL_bys, renL_mapu8, labL_mapu8, renL_mapu32, labL_mapu32]) (by simp [labO, renO, lab, labL, ren, renL, look_cons, renL_bys, labL_bys, renL_mapu8, labL_mapu8, renL_mapu32, labL_mapu32]))
        rintro s' ⟨n, hn, rfl⟩
        simp only [st11c]
        repeat (first | simp only [go_sem, Nat.reduceLT, Nat.reduceEqDiff, reduceIte, Int.reduceEq, Int.reduceLE, Int.reduceLT, Nat.reduceMul, Nat.reduceAdd, Nat.reduceSub, Int.reduceNeg, Int.reduceAdd, Int.reduceMul, Int.reduceSub, Int.reduceToNat, Nat.reduceLeDiff, Nat.reduceDiv, Int.reduceDiv, reduceCtorEq, Option.some.injEq, exists_eq_left'] | refine AW.seq ?_ | refine AW.block ?_ | refine AW.scope ?_ | refine AW.cond_tt rfl ?_ | refine AW.cond_ff rfl ?_ | refine AW.label ?_ | refine AW.skip ?_ | refine AW.ret ?_ | refine AW.exit ?_ | refine AW.region ?_ | refine AW.draw (by kernel_rfl) (by decide +kernel) ?_ | refine AW.drawN (by kernel_rfl) (by decide +kernel) ?_ | ((with_reducible refine And.intro ?_ ?_); (focus ((repeat' (with_reducible apply And.intro)) <;> first | (with_reducible exact OrdAt.of (by kernel_rfl)) | exact True.intro | (with_reducible assumption) | omega | rfl | exact Nat.le_of_ble_eq_true rfl | (unfold inI; omega)))))
        refine AW.cond_dec rfl (fun h4 => ?_) (fun h4 => ?_)
        · have hn32 : n < 32 := by omega
          have a0 : ((n : Int) / 4).toNat = n / 4 := by omega
          have b0 : n / 4 < 8 := by omega
          have t1 : ((n : Int)).tdiv 4 = ((n / 4 : Nat) : Int) := by rw [Int.tdiv_eq_ediv_of_nonneg (by omega)]; omega
          have w1 : IntKind.i64.wrap ((n / 4 : Nat) : Int) = ((n / 4 : Nat) : Int) := wrapI _ (by unfold inI; omega)
          have t2 : ((n : Int)).tmod 4 = ((n % 4 : Nat) : Int) := by rw [Int.tmod_eq_emod_of_nonneg (by omega)]; omega
          have t3 : ((8 : Int) * (3 - ((n % 4 : Nat) : Int))) % 18446744073709551616 = ((8 * (3 - n % 4) : Nat) : Int) := by omega
          have hrow : ((hv M Mr Mm).drop (n / 4)).getD 0 .bad = u32 (M.getD (n / 4) 0) := by
            rw [List.getD_eq_getElem?_getD, List.getElem?_drop, List.getElem?_append_left (by rw [List.length_map]; omega), ← List.getElem?_drop, ← List.getD_eq_getElem?_getD]
            exact row_u32 (by omega)
          repeat (first | simp only [go_sem, Nat.reduceLT, Nat.reduceEqDiff, reduceIte, Int.reduceEq, Int.reduceLE, Int.reduceLT, Nat.reduceMul, Nat.reduceAdd, Nat.reduceSub, Int.reduceNeg, Int.reduceAdd, Int.reduceMul, Int.reduceSub, Int.reduceToNat, Nat.reduceLeDiff, Nat.reduceDiv, Int.reduceDiv, reduceCtorEq, Option.some.injEq, exists_eq_left', t1, w1, t2, t3, hrow, row_u32, splice_u8, hml, hn32, List.length_map, List.length_drop, a0, b0, sumG_len, hs_take hml, hs_len hml, wrap_u64c] | refine AW.seq ?_ | refine AW.block ?_ | refine AW.scope ?_ | refine AW.cond_tt rfl ?_ | refine AW.cond_ff rfl ?_ | refine AW.label ?_ | refine AW.skip ?_ | refine AW.ret ?_ | refine AW.exit ?_ | refine AW.region ?_ | refine AW.draw (by kernel_rfl) (by decide +kernel) ?_ | refine AW.drawN (by kernel_rfl) (by decide +kernel) ?_ | ((with_reducible refine And.intro ?_ ?_); (focus ((repeat' (with_reducible apply And.intro)) <;> first | (with_reducible exact OrdAt.of (by kernel_rfl)) | exact True.intro | (with_reducible assumption) | omega | rfl | exact Nat.le_of_ble_eq_true rfl | (unfold inI; omega)))))
          have hbt : (shr32 (M.getD (n / 4) 0) (8 * (3 - n % 4))).toUInt8 = byteAt M n := rfl
          rw [hbt, sumG_set, Qof_lp]
          refine ⟨st11c M Mr Mm (n + 1), ?_, ⟨n + 1, by omega, rfl⟩, ?_⟩
          · simp only [st11c]
            exact (Sub.same (by first | exact Nat.zero_le _ | exact Nat.le_refl _ | decide | omega) rfl rfl (by simp) (by simp [lab, labL, ren, renL, look_cons, renL_bys, labL_bys, renL_mapu8, labL_mapu8, renL_mapu32, labL_mapu32]) (by simp [labO, renO, lab, labL, ren, renL, look_cons, renL_bys, labL_bys, renL_mapu8, labL_mapu8, renL_mapu32, labL_mapu32]))
          · simp [slotN, st11c, look_cons]; omega
        · have hn32 : n = 32 := by omega
          subst hn32
          have ht : ((sumG M 32).map u8).take 32 = (sumG M 32).map u8 := List.take_of_length_le (by rw [List.length_map, sumG_len]; exact Nat.le_refl _)
          have hsp : splice ((List.replicate 32 (0 : UInt8)).map u8) 0 ((sumG M 32).map u8) = (sumG M 32).map u8 := splice_all (by rw [List.length_map, List.length_map, sumG_len, List.length_replicate])
          repeat (first | simp only [go_sem, Nat.reduceLT, Nat.reduceEqDiff, reduceIte, Int.reduceEq, Int.reduceLE, Int.reduceLT, Nat.reduceMul, Nat.reduceAdd, Nat.reduceSub, Int.reduceNeg, Int.reduceAdd, Int.reduceMul, Int.reduceSub, Int.reduceToNat, Nat.reduceLeDiff, Nat.reduceDiv, Int.reduceDiv, reduceCtorEq, Option.some.injEq, exists_eq_left', List.length_map, sumG_len, ht, hsp, List.length_replicate] | refine AW.seq ?_ | refine AW.block ?_ | refine AW.scope ?_ | refine AW.cond_tt rfl ?_ | refine AW.cond_ff rfl ?_ | refine AW.label ?_ | refine AW.skip ?_ | refine AW.ret ?_ | refine AW.exit ?_ | refine AW.region ?_ | refine AW.draw (by kernel_rfl) (by decide +kernel) ?_ | refine AW.drawN (by kernel_rfl) (by decide +kernel) ?_ | ((with_reducible refine And.intro ?_ ?_); (focus ((repeat' (with_reducible apply And.intro)) <;> first | (with_reducible exact OrdAt.of (by kernel_rfl)) | exact True.intro | (with_reducible assumption) | omega | rfl | exact Nat.le_of_ble_eq_true rfl | (unfold inI; omega)))))
          rw [finS, if_pos hf, hM, moreE, if_pos hf]
          exact Wk.refl _
end Go.Proofs.YtapjkdmdckfjbaaDoor

namespace Go.Proofs.YtapjkdmdckfjbaaDoor
open Go Go.Eng Go.Proofs
set_option maxRecDepth 100000
set_option maxHeartbeats 1000000
set_option linter.unusedSimpArgs false
set_option linter.unusedVariables false
attribute [local simp] labL_app renL_app
theorem bytesA_bys (b : List UInt8) : bytesA (bys b) = b := by
  unfold bytesA bys
  rw [List.map_map]
  conv => rhs; rw [← List.map_id b]
  refine List.map_congr_left fun x _ => ?_
  have h : (x.toNat : Int) < 256 := by have := x.toNat_lt; omega
  simp [byteA, h]
theorem bytesOk_bys (b : List UInt8) : bytesOk (bys b) = True := by
  simp only [bytesOk, bys, List.mem_map, eq_iff_iff, iff_true]
  rintro _ ⟨x, _, rfl⟩
  have h : (x.toNat : Int) < 256 := by have := x.toNat_lt; omega
  have h0 : (0 : Int) ≤ x.toNat := by omega
  simp [byteA, h]
theorem f12 (s : List UInt32) (hs : s.length = 8) (r : List UInt8) (m : UInt64) (s2 : List UInt32) (hs2 : s2.length = 8) (r2 : List UInt8) (m2 : UInt64) :
    AFun Tryd.prog 12 [.agg (hv s r m), .agg (hv s2 r2 m2)] (boo (decide (s = s2 ∧ r = r2 ∧ m = m2))) := by
  refine AFun.enter Tryd.func12 rfl Tryd.call12 (by simp [Tryd.ntmps12]) fun γ1 => ?_
  simp only [frameOf, Tryd.ntmps12]
  repeat (first | simp only [go_sem, Nat.reduceLT, Nat.reduceEqDiff, reduceIte, Int.reduceEq, Int.reduceLE, Int.reduceLT, Nat.reduceMul, Nat.reduceAdd, Nat.reduceSub, Int.reduceNeg, Int.reduceAdd, Int.reduceMul, Int.reduceSub, Int.reduceToNat, Nat.reduceLeDiff, Nat.reduceDiv, Int.reduceDiv, reduceCtorEq, Option.some.injEq, exists_eq_left', hs_take hs, hs_d8 hs, hs_d9 hs, hs_len hs, hs_t10 hs, hs_take hs2, hs_d8 hs2, hs_d9 hs2, hs_len hs2, hs_t10 hs2, List.length_map, hs, hs2, Nat.reduceLeDiff] | refine AW.seq ?_ | refine AW.block ?_ | refine AW.scope ?_ | refine AW.cond_tt rfl ?_ | refine AW.cond_ff rfl ?_ | refine AW.label ?_ | refine AW.skip ?_ | refine AW.ret ?_ | refine AW.exit ?_ | refine AW.region ?_ | refine AW.draw (by kernel_rfl) (by decide +kernel) ?_ | refine AW.drawN (by kernel_rfl) (by decide +kernel) ?_ | ((with_reducible refine And.intro ?_ ?_); (focus ((repeat' (with_reducible apply And.intro)) <;> first | (with_reducible exact OrdAt.of (by kernel_rfl)) | exact True.intro | (with_reducible assumption) | omega | rfl | exact Nat.le_of_ble_eq_true rfl | (unfold inI; omega)))))
  refine exG_dec (fun h1 => ?_) (fun h1 => ?_)
  · repeat (first | simp only [go_sem, Nat.reduceLT, Nat.reduceEqDiff, reduceIte, Int.reduceEq, Int.reduceLE, Int.reduceLT, Nat.reduceMul, Nat.reduceAdd, Nat.reduceSub, Int.reduceNeg, Int.reduceAdd, Int.reduceMul, Int.reduceSub, Int.reduceToNat, Nat.reduceLeDiff, Nat.reduceDiv, Int.reduceDiv, reduceCtorEq, Option.some.injEq, exists_eq_left', hs_take hs, hs_d8 hs, hs_d9 hs, hs_len hs, hs_t10 hs, hs_take hs2, hs_d8 hs2, hs_d9 hs2, hs_len hs2, hs_t10 hs2, bytesA_bys, bytesOk_bys] | refine AW.seq ?_ | refine AW.block ?_ | refine AW.scope ?_ | refine AW.cond_tt rfl ?_ | refine AW.cond_ff rfl ?_ | refine AW.label ?_ | refine AW.skip ?_ | refine AW.ret ?_ | refine AW.exit ?_ | refine AW.region ?_ | refine AW.draw (by kernel_rfl) (by decide +kernel) ?_ | refine AW.drawN (by kernel_rfl) (by decide +kernel) ?_ | ((with_reducible refine And.intro ?_ ?_); (focus ((repeat' (with_reducible apply And.intro)) <;> first | (with_reducible exact OrdAt.of (by kernel_rfl)) | exact True.intro | (with_reducible assumption) | omega | rfl | exact Nat.le_of_ble_eq_true rfl | (unfold inI; omega)))))
    refine exG_dec (fun h2 => ?_) (fun h2 => ?_)
    · repeat (first | simp only [go_sem, Nat.reduceLT, Nat.reduceEqDiff, reduceIte, Int.reduceEq, Int.reduceLE, Int.reduceLT, Nat.reduceMul, Nat.reduceAdd, Nat.reduceSub, Int.reduceNeg, Int.reduceAdd, Int.reduceMul, Int.reduceSub, Int.reduceToNat, Nat.reduceLeDiff, Nat.reduceDiv, Int.reduceDiv, reduceCtorEq, Option.some.injEq, exists_eq_left', hs_take hs, hs_d8 hs, hs_d9 hs, hs_len hs, hs_t10 hs, hs_take hs2, hs_d8 hs2, hs_d9 hs2, hs_len hs2, hs_t10 hs2] | refine AW.seq ?_ | refine AW.block ?_ | refine AW.scope ?_ | refine AW.cond_tt rfl ?_ | refine AW.cond_ff rfl ?_ | refine AW.label ?_ | refine AW.skip ?_ | refine AW.ret ?_ | refine AW.exit ?_ | refine AW.region ?_ | refine AW.draw (by kernel_rfl) (by decide +kernel) ?_ | refine AW.drawN (by kernel_rfl) (by decide +kernel) ?_ | ((with_reducible refine And.intro ?_ ?_); (focus ((repeat' (with_reducible apply And.intro)) <;> first | (with_reducible exact OrdAt.of (by kernel_rfl)) | exact True.intro | (with_reducible assumption) | omega | rfl | exact Nat.le_of_ble_eq_true rfl | (unfold inI; omega)))))
      have e : (m.toNat = m2.toNat) = (m = m2) := propext UInt64.toNat_inj
      simp [h1, h2, Int.natCast_inj, e]
    · repeat (first | simp only [go_sem, Nat.reduceLT, Nat.reduceEqDiff, reduceIte, Int.reduceEq, Int.reduceLE, Int.reduceLT, Nat.reduceMul, Nat.reduceAdd, Nat.reduceSub, Int.reduceNeg, Int.reduceAdd, Int.reduceMul, Int.reduceSub, Int.reduceToNat, Nat.reduceLeDiff, Nat.reduceDiv, Int.reduceDiv, reduceCtorEq, Option.some.injEq, exists_eq_left'] | refine AW.seq ?_ | refine AW.block ?_ | refine AW.scope ?_ | refine AW.cond_tt rfl ?_ | refine AW.cond_ff rfl ?_ | refine AW.label ?_ | refine AW.skip ?_ | refine AW.ret ?_ | refine AW.exit ?_ | refine AW.region ?_ | refine AW.draw (by kernel_rfl) (by decide +kernel) ?_ | refine AW.drawN (by kernel_rfl) (by decide +kernel) ?_ | ((with_reducible refine And.intro ?_ ?_); (focus ((repeat' (with_reducible apply And.intro)) <;> first | (with_reducible exact OrdAt.of (by kernel_rfl)) | exact True.intro | (with_reducible assumption) | omega | rfl | exact Nat.le_of_ble_eq_true rfl | (unfold inI; omega)))))
      simp [h2]
  · repeat (first | simp only [go_sem, Nat.reduceLT, Nat.reduceEqDiff, reduceIte, Int.reduceEq, Int.reduceLE, Int.reduceLT, Nat.reduceMul, Nat.reduceAdd, Nat.reduceSub, Int.reduceNeg, Int.reduceAdd, Int.reduceMul, Int.reduceSub, Int.reduceToNat, Nat.reduceLeDiff, Nat.reduceDiv, Int.reduceDiv, reduceCtorEq, Option.some.injEq, exists_eq_left'] | refine AW.seq ?_ | refine AW.block ?_ | refine AW.scope ?_ | refine AW.cond_tt rfl ?_ | refine AW.cond_ff rfl ?_ | refine AW.label ?_ | refine AW.skip ?_ | refine AW.ret ?_ | refine AW.exit ?_ | refine AW.region ?_ | refine AW.draw (by kernel_rfl) (by decide +kernel) ?_ | refine AW.drawN (by kernel_rfl) (by decide +kernel) ?_ | ((with_reducible refine And.intro ?_ ?_); (focus ((repeat' (with_reducible apply And.intro)) <;> first | (with_reducible exact OrdAt.of (by kernel_rfl)) | exact True.intro | (with_reducible assumption) | omega | rfl | exact Nat.le_of_ble_eq_true rfl | (unfold inI; omega)))))
    simp [h1]
def sumOf (b : List UInt8) : List UInt8 := finS (moreS shaFirst [] 0 b) (moreR shaFirst [] 0 b) (moreM [] 0 b)
theorem finS_len (s : List UInt32) (r : List UInt8) (m : UInt64) : (finS s r m).length = 32 := by
  unfold finS; split
  · exact sumG_len _ _
  · simp
theorem f15 (b : List UInt8) (hb : b.length ≤ 500000) : AFun Tryd.prog 15 [.sl 1 (bys b) b.length none] (.agg ((sumOf b).map u8)) := by
  refine AFun.enterW Tryd.func15 rfl Tryd.call15 (by simp [Tryd.ntmps15]) fun γ1 => ?_
  simp only [frameOf, Tryd.ntmps15]
  have hml : (moreS shaFirst [] 0 b).length = 8 := by rw [moreS_len]; rfl
  have hz : List.replicate 32 (u8 0) = (List.replicate 32 (0 : UInt8)).map u8 := rfl
  repeat (first | simp only [go_sem, Nat.reduceLT, Nat.reduceEqDiff, reduceIte, Int.reduceEq, Int.reduceLE, Int.reduceLT, Nat.reduceMul, Nat.reduceAdd, Nat.reduceSub, Int.reduceNeg, Int.reduceAdd, Int.reduceMul, Int.reduceSub, Int.reduceToNat, Nat.reduceLeDiff, Nat.reduceDiv, Int.reduceDiv, reduceCtorEq, Option.some.injEq, exists_eq_left'] | refine AW.seq ?_ | refine AW.block ?_ | refine AW.scope ?_ | refine AW.cond_tt rfl ?_ | refine AW.cond_ff rfl ?_ | refine AW.label ?_ | refine AW.skip ?_ | refine AW.ret ?_ | refine AW.exit ?_ | refine AW.region ?_ | refine AW.draw (by kernel_rfl) (by decide +kernel) ?_ | refine AW.drawN (by kernel_rfl) (by decide +kernel) ?_ | ((with_reducible refine And.intro ?_ ?_); (focus ((repeat' (with_reducible apply And.intro)) <;> first | (with_reducible exact OrdAt.of (by kernel_rfl)) | exact True.intro | (with_reducible assumption) | omega | rfl | exact Nat.le_of_ble_eq_true rfl | (unfold inI; omega)))))
  refine CallE.mem f13 rfl (by simp [bor]) (by rfl) ?_
  repeat (first | simp only [go_sem, Nat.reduceLT, Nat.reduceEqDiff, reduceIte, Int.reduceEq, Int.reduceLE, Int.reduceLT, Nat.reduceMul, Nat.reduceAdd, Nat.reduceSub, Int.reduceNeg, Int.reduceAdd, Int.reduceMul, Int.reduceSub, Int.reduceToNat, Nat.reduceLeDiff, Nat.reduceDiv, Int.reduceDiv, reduceCtorEq, Option.some.injEq, exists_eq_left'] | refine AW.seq ?_ | refine AW.block ?_ | refine AW.scope ?_ | refine AW.cond_tt rfl ?_ | refine AW.cond_ff rfl ?_ | refine AW.label ?_ | refine AW.skip ?_ | refine AW.ret ?_ | refine AW.exit ?_ | refine AW.region ?_ | refine AW.draw (by kernel_rfl) (by decide +kernel) ?_ | refine AW.drawN (by kernel_rfl) (by decide +kernel) ?_ | ((with_reducible refine And.intro ?_ ?_); (focus ((repeat' (with_reducible apply And.intro)) <;> first | (with_reducible exact OrdAt.of (by kernel_rfl)) | exact True.intro | (with_reducible assumption) | omega | rfl | exact Nat.le_of_ble_eq_true rfl | (unfold inI; omega)))))
  refine CallE.mem (f8 shaFirst rfl [] (by simp) 0 b hb) (by simp only [List.map_cons, List.map_nil, frz_hv, frz_sl]) (by simp [bor]) (by rfl) ?_
  unfold sumOf
  generalize hM : moreS shaFirst [] 0 b = M at hml ⊢
  generalize moreR shaFirst [] 0 b = Mr
  generalize moreM [] 0 b = Mm
  repeat (first | simp only [go_sem, Nat.reduceLT, Nat.reduceEqDiff, reduceIte, Int.reduceEq, Int.reduceLE, Int.reduceLT, Nat.reduceMul, Nat.reduceAdd, Nat.reduceSub, Int.reduceNeg, Int.reduceAdd, Int.reduceMul, Int.reduceSub, Int.reduceToNat, Nat.reduceLeDiff, Nat.reduceDiv, Int.reduceDiv, reduceCtorEq, Option.some.injEq, exists_eq_left', hs_take hml, hs_d8 hml, hs_d9 hml, hs_len hml, hs_t10 hml, zh_eq, zh_len, zh_spl hml] | refine AW.seq ?_ | refine AW.block ?_ | refine AW.scope ?_ | refine AW.cond_tt rfl ?_ | refine AW.cond_ff rfl ?_ | refine AW.label ?_ | refine AW.skip ?_ | refine AW.ret ?_ | refine AW.exit ?_ | refine AW.region ?_ | refine AW.draw (by kernel_rfl) (by decide +kernel) ?_ | refine AW.drawN (by kernel_rfl) (by decide +kernel) ?_ | ((with_reducible refine And.intro ?_ ?_); (focus ((repeat' (with_reducible apply And.intro)) <;> first | (with_reducible exact OrdAt.of (by kernel_rfl)) | exact True.intro | (with_reducible assumption) | omega | rfl | exact Nat.le_of_ble_eq_true rfl | (unfold inI; omega)))))
  refine CallE.mem (f10 M hml Mr Mm) (by simp only [List.map_cons, List.map_nil, frz_hv, frz_sl]) (by simp [bor]) (by rfl) ?_
  have hfl := finS_len M Mr Mm
  generalize finS M Mr Mm = F at hfl ⊢
  have ht : (F.map u8).take 32 = F.map u8 := List.take_of_length_le (by rw [List.length_map, hfl]; exact Nat.le_refl _)
  have hsp : splice ((List.replicate 32 (0 : UInt8)).map u8) 0 (F.map u8) = F.map u8 := splice_all (by rw [List.length_map, List.length_map, hfl, List.length_replicate])
  repeat (first | simp only [go_sem, Nat.reduceLT, Nat.reduceEqDiff, reduceIte, Int.reduceEq, Int.reduceLE, Int.reduceLT, Nat.reduceMul, Nat.reduceAdd, Nat.reduceSub, Int.reduceNeg, Int.reduceAdd, Int.reduceMul, Int.reduceSub, Int.reduceToNat, Nat.reduceLeDiff, Nat.reduceDiv, Int.reduceDiv, reduceCtorEq, Option.some.injEq, exists_eq_left', List.length_map, hfl, ht, hsp, hz, List.length_replicate, Nat.reduceLeDiff] | refine AW.seq ?_ | refine AW.block ?_ | refine AW.scope ?_ | refine AW.cond_tt rfl ?_ | refine AW.cond_ff rfl ?_ | refine AW.label ?_ | refine AW.skip ?_ | refine AW.ret ?_ | refine AW.exit ?_ | refine AW.region ?_ | refine AW.draw (by kernel_rfl) (by decide +kernel) ?_ | refine AW.drawN (by kernel_rfl) (by decide +kernel) ?_ | ((with_reducible refine And.intro ?_ ?_); (focus ((repeat' (with_reducible apply And.intro)) <;> first | (with_reducible exact OrdAt.of (by kernel_rfl)) | exact True.intro | (with_reducible assumption) | omega | rfl | exact Nat.le_of_ble_eq_true rfl | (unfold inI; omega)))))
  exact Wk.refl _
theorem f16 (b : List UInt8) (hb : b.length ≤ 500000) : AFun Tryd.prog 16 [.sl 1 (bys b) b.length none] (.agg ((sumOf b).map u8)) := by
  refine AFun.enterW Tryd.func16 rfl Tryd.call16 (by simp [Tryd.ntmps16]) fun γ1 => ?_
  simp only [frameOf, Tryd.ntmps16]
  have hml : (moreS shaFirst [] 0 b).length = 8 := by rw [moreS_len]; rfl
  have hz : List.replicate 32 (u8 0) = (List.replicate 32 (0 : UInt8)).map u8 := rfl
  repeat (first | simp only [go_sem, Nat.reduceLT, Nat.reduceEqDiff, reduceIte, Int.reduceEq, Int.reduceLE, Int.reduceLT, Nat.reduceMul, Nat.reduceAdd, Nat.reduceSub, Int.reduceNeg, Int.reduceAdd, Int.reduceMul, Int.reduceSub, Int.reduceToNat, Nat.reduceLeDiff, Nat.reduceDiv, Int.reduceDiv, reduceCtorEq, Option.some.injEq, exists_eq_left'] | refine AW.seq ?_ | refine AW.block ?_ | refine AW.scope ?_ | refine AW.cond_tt rfl ?_ | refine AW.cond_ff rfl ?_ | refine AW.label ?_ | refine AW.skip ?_ | refine AW.ret ?_ | refine AW.exit ?_ | refine AW.region ?_ | refine AW.draw (by kernel_rfl) (by decide +kernel) ?_ | refine AW.drawN (by kernel_rfl) (by decide +kernel) ?_ | ((with_reducible refine And.intro ?_ ?_); (focus ((repeat' (with_reducible apply And.intro)) <;> first | (with_reducible exact OrdAt.of (by kernel_rfl)) | exact True.intro | (with_reducible assumption) | omega | rfl | exact Nat.le_of_ble_eq_true rfl | (unfold inI; omega)))))
  refine CallE.mem f14 rfl (by simp [bor]) (by rfl) ?_
  repeat (first | simp only [go_sem, Nat.reduceLT, Nat.reduceEqDiff, reduceIte, Int.reduceEq, Int.reduceLE, Int.reduceLT, Nat.reduceMul, Nat.reduceAdd, Nat.reduceSub, Int.reduceNeg, Int.reduceAdd, Int.reduceMul, Int.reduceSub, Int.reduceToNat, Nat.reduceLeDiff, Nat.reduceDiv, Int.reduceDiv, reduceCtorEq, Option.some.injEq, exists_eq_left'] | refine AW.seq ?_ | refine AW.block ?_ | refine AW.scope ?_ | refine AW.cond_tt rfl ?_ | refine AW.cond_ff rfl ?_ | refine AW.label ?_ | refine AW.skip ?_ | refine AW.ret ?_ | refine AW.exit ?_ | refine AW.region ?_ | refine AW.draw (by kernel_rfl) (by decide +kernel) ?_ | refine AW.drawN (by kernel_rfl) (by decide +kernel) ?_ | ((with_reducible refine And.intro ?_ ?_); (focus ((repeat' (with_reducible apply And.intro)) <;> first | (with_reducible exact OrdAt.of (by kernel_rfl)) | exact True.intro | (with_reducible assumption) | omega | rfl | exact Nat.le_of_ble_eq_true rfl | (unfold inI; omega)))))
  refine CallE.mem (f9 shaFirst rfl [] (by simp) 0 b hb) (by simp only [List.map_cons, List.map_nil, frz_hv, frz_sl]) (by simp [bor]) (by rfl) ?_
  unfold sumOf
  generalize hM : moreS shaFirst [] 0 b = M at hml ⊢
  generalize moreR shaFirst [] 0 b = Mr
  generalize moreM [] 0 b = Mm
  repeat (first | simp only [go_sem, Nat.reduceLT, Nat.reduceEqDiff, reduceIte, Int.reduceEq, Int.reduceLE, Int.reduceLT, Nat.reduceMul, Nat.reduceAdd, Nat.reduceSub, Int.reduceNeg, Int.reduceAdd, Int.reduceMul, Int.reduceSub, Int.reduceToNat, Nat.reduceLeDiff, Nat.reduceDiv, Int.reduceDiv, reduceCtorEq, Option.some.injEq, exists_eq_left', hs_take hml, hs_d8 hml, hs_d9 hml, hs_len hml, hs_t10 hml, zh_eq, zh_len, zh_spl hml] | refine AW.seq ?_ | refine AW.block ?_ | refine AW.scope ?_ | refine AW.cond_tt rfl ?_ | refine AW.cond_ff rfl ?_ | refine AW.label ?_ | refine AW.skip ?_ | refine AW.ret ?_ | refine AW.exit ?_ | refine AW.region ?_ | refine AW.draw (by kernel_rfl) (by decide +kernel) ?_ | refine AW.drawN (by kernel_rfl) (by decide +kernel) ?_ | ((with_reducible refine And.intro ?_ ?_); (focus ((repeat' (with_reducible apply And.intro)) <;> first | (with_reducible exact OrdAt.of (by kernel_rfl)) | exact True.intro | (with_reducible assumption) | omega | rfl | exact Nat.le_of_ble_eq_true rfl | (unfold inI; omega)))))
  refine CallE.mem (f11 M hml Mr Mm) (by simp only [List.map_cons, List.map_nil, frz_hv, frz_sl]) (by simp [bor]) (by rfl) ?_
  have hfl := finS_len M Mr Mm
  generalize finS M Mr Mm = F at hfl ⊢
  have ht : (F.map u8).take 32 = F.map u8 := List.take_of_length_le (by rw [List.length_map, hfl]; exact Nat.le_refl _)
  have hsp : splice ((List.replicate 32 (0 : UInt8)).map u8) 0 (F.map u8) = F.map u8 := splice_all (by rw [List.length_map, List.length_map, hfl, List.length_replicate])
  repeat (first | simp only [go_sem, Nat.reduceLT, Nat.reduceEqDiff, reduceIte, Int.reduceEq, Int.reduceLE, Int.reduceLT, Nat.reduceMul, Nat.reduceAdd, Nat.reduceSub, Int.reduceNeg, Int.reduceAdd, Int.reduceMul, Int.reduceSub, Int.reduceToNat, Nat.reduceLeDiff, Nat.reduceDiv, Int.reduceDiv, reduceCtorEq, Option.some.injEq, exists_eq_left', List.length_map, hfl, ht, hsp, hz, List.length_replicate, Nat.reduceLeDiff] | refine AW.seq ?_ | refine AW.block ?_ | refine AW.scope ?_ | refine AW.cond_tt rfl ?_ | refine AW.cond_ff rfl ?_ | refine AW.label ?_ | refine AW.skip ?_ | refine AW.ret ?_ | refine AW.exit ?_ | refine AW.region ?_ | refine AW.draw (by kernel_rfl) (by decide +kernel) ?_ | refine AW.drawN (by kernel_rfl) (by decide +kernel) ?_ | ((with_reducible refine And.intro ?_ ?_); (focus ((repeat' (with_reducible apply And.intro)) <;> first | (with_reducible exact OrdAt.of (by kernel_rfl)) | exact True.intro | (with_reducible assumption) | omega | rfl | exact Nat.le_of_ble_eq_true rfl | (unfold inI; omega)))))
  exact Wk.refl _
end Go.Proofs.YtapjkdmdckfjbaaDoor

namespace Go.Proofs.YtapjkdmdckfjbaaDoor
open Go Go.Eng Go.Proofs
set_option maxRecDepth 100000
set_option maxHeartbeats 1000000
set_option linter.unusedSimpArgs false
set_option linter.unusedVariables false
theorem blk_app (s : List UInt32) (a b : List UInt8) (h : 64 ≤ a.length) : blk s (a ++ b) = blk s a := by
  have e : ∀ j, j ≤ 16 → wIni (a ++ b) j = wIni a j := by
    intro j hj
    induction j with
    | zero => rfl
    | succ j ih =>
      have g : ∀ k, k < 64 → (a ++ b).getD k 0 = a.getD k 0 := fun k hk => by
        simp only [List.getD_eq_getElem?_getD, List.getElem?_append_left (show k < a.length by omega)]
      rw [wIni, wIni, ih (by omega), wordB, wordB, g _ (by omega), g _ (by omega), g _ (by omega), g _ (by omega)]
  rw [blk, blk, e 16 (Nat.le_refl _)]
theorem eat_app (s : List UInt32) (a b : List UInt8) : eat s (a ++ b) = eat (eat s a).1 ((eat s a).2 ++ b) := by
  induction s, a using eat.induct with
  | case1 s a h => rw [eat_lt h]
  | case2 s a h ih =>
    rw [eat_ge h, eat_ge (s := s) (t := a ++ b) (by rw [List.length_append]; omega), blk_app _ _ _ (by omega), List.drop_append_of_le_length (by omega), ih]
theorem eat_rest (s : List UInt32) (a : List UInt8) : (eat s a).2 = a.drop (a.length - a.length % 64) := by
  induction s, a using eat.induct with
  | case1 s a h => rw [eat_lt h, Nat.mod_eq_of_lt h, Nat.sub_self, List.drop_zero]
  | case2 s a h ih =>
    rw [eat_ge h, ih, List.drop_drop, List.length_drop]
    congr 1
    omega
theorem eat_rlen (s : List UInt32) (a : List UInt8) : (eat s a).2.length = a.length % 64 := by
  rw [eat_rest, List.length_drop]; have := Nat.mod_le a.length 64; omega
/-- the state behind a text -/
def hS (t : List UInt8) : List UInt32 := (eat shaFirst t).1
def hR (t : List UInt8) : List UInt8 := (eat shaFirst t).2
def hM (t : List UInt8) : UInt64 := UInt64.ofNat t.length
theorem hS_nil : hS [] = shaFirst := by unfold hS; rw [eat_lt (by decide)]
theorem hR_nil : hR [] = [] := by unfold hR; rw [eat_lt (by decide)]
theorem hM_nil : hM [] = 0 := rfl
theorem hS_len (t : List UInt8) : (hS t).length = 8 := by unfold hS; rw [eat_len]; rfl
theorem hR_len (t : List UInt8) : (hR t).length = t.length % 64 := eat_rlen _ _
theorem hR_lt (t : List UInt8) : (hR t).length < 64 := by rw [hR_len]; exact Nat.mod_lt _ (by decide)
theorem hR_eq (t : List UInt8) : hR t = t.drop (t.length - t.length % 64) := eat_rest _ _
theorem h_fits (t : List UInt8) : fitsS (hR t) (hM t) := by
  refine ⟨hR_lt t, ?_⟩
  rw [hR_len, hM, UInt64.toNat_ofNat']
  omega
theorem more_S (t b : List UInt8) : moreS (hS t) (hR t) (hM t) b = hS (t ++ b) := by
  rw [moreS, if_pos (h_fits t)]; unfold hS hR; rw [← eat_app]
theorem more_R (t b : List UInt8) : moreR (hS t) (hR t) (hM t) b = hR (t ++ b) := by
  rw [moreR, if_pos (h_fits t)]; unfold hS hR; rw [← eat_app]
theorem more_M (t b : List UInt8) : moreM (hR t) (hM t) b = hM (t ++ b) := by
  rw [moreM, if_pos (h_fits t)]; unfold hM; rw [List.length_append, UInt64.ofNat_add]
theorem more_E (t : List UInt8) : moreE (hR t) (hM t) = 0 := if_pos (h_fits t)
theorem more0_S (b : List UInt8) : moreS shaFirst [] 0 b = hS b := by have := more_S [] b; rwa [hS_nil, hR_nil, hM_nil] at this
theorem more0_R (b : List UInt8) : moreR shaFirst [] 0 b = hR b := by have := more_R [] b; rwa [hS_nil, hR_nil, hM_nil] at this
theorem more0_M (b : List UInt8) : moreM [] 0 b = hM b := by have := more_M [] b; rwa [hR_nil, hM_nil] at this
theorem more0_E : moreE [] 0 = 0 := by have := more_E []; rwa [hR_nil, hM_nil] at this
theorem sumOf_eq (b : List UInt8) : sumOf b = finS (hS b) (hR b) (hM b) := by rw [sumOf, more0_S, more0_R, more0_M]
theorem sumOf_len (b : List UInt8) : (sumOf b).length = 32 := finS_len _ _ _
theorem fin_sum (b : List UInt8) : finS (hS b) (hR b) (hM b) = sumOf b := (sumOf_eq b).symm
/-- a text, and what it is ended with -/
def padT (b : List UInt8) : List UInt8 := b ++ endB (hR b) (hM b)
theorem sumOf_pad (b : List UInt8) : sumOf b = sumG (eat shaFirst (padT b)).1 32 := by
  rw [sumOf_eq, finS, if_pos (h_fits b), more_S]; rfl
end Go.Proofs.YtapjkdmdckfjbaaDoor

namespace Go.Proofs.YtapjkdmdckfjbaaDoor
open Go Go.Eng Go.Proofs
set_option maxRecDepth 100000
set_option maxHeartbeats 1000000
set_option linter.unusedSimpArgs false
set_option linter.unusedVariables false
/-! sums by numbers, for the kernel -/
def rotN (x k : Nat) : Nat := Nat.lor (Nat.shiftRight x k) (Nat.mod (Nat.shiftLeft x (Nat.sub 32 k)) 4294967296)
def xor3 (a b c : Nat) : Nat := Nat.xor (Nat.xor a b) c
def s0N (x : Nat) : Nat := xor3 (rotN x 7) (rotN x 18) (Nat.shiftRight x 3)
def s1N (x : Nat) : Nat := xor3 (rotN x 17) (rotN x 19) (Nat.shiftRight x 10)
def addN (a b : Nat) : Nat := Nat.mod (Nat.add a b) 4294967296
def t1N (e f g h k w : Nat) : Nat := Nat.add (Nat.add (Nat.add (Nat.add h (xor3 (rotN e 6) (rotN e 11) (rotN e 25))) (Nat.lor (Nat.land e f) (Nat.land (Nat.xor 4294967295 e) g))) k) w
def t2N (a b c : Nat) : Nat := Nat.add (xor3 (rotN a 2) (rotN a 13) (rotN a 22)) (Nat.lor (Nat.lor (Nat.land a b) (Nat.land a c)) (Nat.land b c))
def newW (w0 w1 w9 w14 : Nat) : Nat := Nat.mod (Nat.add (Nat.add (Nat.add (s1N w14) w9) (s0N w1)) w0) 4294967296
def compN (K : Nat → Nat → Nat → Nat → Nat → Nat → Nat → Nat → Prop) (ks : List Nat) : Nat → Nat → Nat → Nat → Nat → Nat → Nat → Nat → Nat → Nat → Nat → Nat → Nat → Nat → Nat → Nat → Nat → Nat → Nat → Nat → Nat → Nat → Nat → Nat → Prop :=
  List.rec (motive := fun _ => Nat → Nat → Nat → Nat → Nat → Nat → Nat → Nat → Nat → Nat → Nat → Nat → Nat → Nat → Nat → Nat → Nat → Nat → Nat → Nat → Nat → Nat → Nat → Nat → Prop)
    (fun a b c d e f g h _ _ _ _ _ _ _ _ _ _ _ _ _ _ _ _ => K a b c d e f g h)
    (fun k _ ih a b c d e f g h w0 w1 w2 w3 w4 w5 w6 w7 w8 w9 w10 w11 w12 w13 w14 w15 =>
      (fun t1 => ih (addN t1 (t2N a b c)) a b c (addN d t1) e f g w1 w2 w3 w4 w5 w6 w7 w8 w9 w10 w11 w12 w13 w14 w15 (newW w0 w1 w9 w14)) (t1N e f g h k w0)) ks
def kN : List Nat := shaK.map UInt32.toNat
def wN (N sh : Nat) : Nat := Nat.mod (Nat.shiftRight N sh) 4294967296
def blkN (ks : List Nat) (N sh : Nat) (K : Nat → Nat → Nat → Nat → Nat → Nat → Nat → Nat → Prop) (a b c d e f g h : Nat) : Prop :=
  compN (fun a' b' c' d' e' f' g' h' => K (addN a a') (addN b b') (addN c c') (addN d d') (addN e e') (addN f f') (addN g g') (addN h h')) ks a b c d e f g h
    (wN N (Nat.add sh 480)) (wN N (Nat.add sh 448)) (wN N (Nat.add sh 416)) (wN N (Nat.add sh 384)) (wN N (Nat.add sh 352)) (wN N (Nat.add sh 320)) (wN N (Nat.add sh 288)) (wN N (Nat.add sh 256))
    (wN N (Nat.add sh 224)) (wN N (Nat.add sh 192)) (wN N (Nat.add sh 160)) (wN N (Nat.add sh 128)) (wN N (Nat.add sh 96)) (wN N (Nat.add sh 64)) (wN N (Nat.add sh 32)) (wN N sh)
def catN (x y : Nat) : Nat := Nat.add (Nat.mul x 4294967296) y
def digN (a b c d e f g h : Nat) : Nat := catN (catN (catN (catN (catN (catN (catN a b) c) d) e) f) g) h
def eatN (ks : List Nat) (D N : Nat) (q : Nat) : Nat → Nat → Nat → Nat → Nat → Nat → Nat → Nat → Prop :=
  Nat.rec (motive := fun _ => Nat → Nat → Nat → Nat → Nat → Nat → Nat → Nat → Prop) (fun a b c d e f g h => digN a b c d e f g h = D) (fun q ih => blkN ks N (Nat.mul 512 q) ih) q

theorem rot_N (x : UInt32) (k : Nat) : (rotr x k).toNat = rotN x.toNat k := by
  unfold rotr rotN
  rw [UInt32.toNat_or]
  have e1 : (shr32 x k).toNat = x.toNat >>> k := by
    show (x.toBitVec >>> k).toNat = _
    rw [BitVec.toNat_ushiftRight]; rfl
  have e2 : (shl32 x (32 - k)).toNat = (x.toNat <<< (32 - k)) % 4294967296 := by
    show (x.toBitVec <<< (32 - k)).toNat = _
    rw [BitVec.toNat_shiftLeft]; rfl
  rw [e1, e2]; rfl
theorem shr_N (x : UInt32) (k : Nat) : (shr32 x k).toNat = Nat.shiftRight x.toNat k := by
  show (x.toBitVec >>> k).toNat = _
  rw [BitVec.toNat_ushiftRight]; rfl
theorem s0_N (x : UInt32) : (sg0 x).toNat = s0N x.toNat := by
  unfold sg0 s0N xor3
  rw [UInt32.toNat_xor, UInt32.toNat_xor, rot_N, rot_N, shr_N]; rfl
theorem s1_N (x : UInt32) : (sg1 x).toNat = s1N x.toNat := by
  unfold sg1 s1N xor3
  rw [UInt32.toNat_xor, UInt32.toNat_xor, rot_N, rot_N, shr_N]; rfl
theorem add_N (a b : UInt32) : (a + b).toNat = addN a.toNat b.toNat := UInt32.toNat_add a b
theorem not_N (x : UInt32) : (~~~x).toNat = Nat.xor 4294967295 x.toNat := by
  have e : (~~~x) = 4294967295 ^^^ x := by
    apply UInt32.toBitVec_inj.1
    rw [UInt32.toBitVec_not, UInt32.toBitVec_xor]
    have : (4294967295 : UInt32).toBitVec = BitVec.allOnes 32 := rfl
    rw [this, BitVec.allOnes_xor]
  rw [e, UInt32.toNat_xor]; rfl
theorem t1_N (r : Rg) (k w : UInt32) : (t1R r k w).toNat = t1N r.e.toNat r.f.toNat r.g.toNat r.h.toNat k.toNat w.toNat % 4294967296 := by
  unfold t1R t1N xor3
  rw [UInt32.toNat_add, UInt32.toNat_add, UInt32.toNat_add, UInt32.toNat_add, UInt32.toNat_xor, UInt32.toNat_xor, rot_N, rot_N, rot_N, UInt32.toNat_or, UInt32.toNat_and, UInt32.toNat_and, not_N]
  show _ = (_ + _ + _ + _ + _) % 4294967296
  simp only [Nat.reducePow, Nat.mod_add_mod]
  rfl
theorem t2_N (r : Rg) : (t2R r).toNat = t2N r.a.toNat r.b.toNat r.c.toNat % 4294967296 := by
  unfold t2R t2N xor3
  rw [UInt32.toNat_add, UInt32.toNat_xor, UInt32.toNat_xor, rot_N, rot_N, rot_N, UInt32.toNat_or, UInt32.toNat_or, UInt32.toNat_and, UInt32.toNat_and, UInt32.toNat_and]
  rfl
/-- the words, on and on -/
def wF (w : Nat → UInt32) : Nat → UInt32
  | n => if h : n < 16 then w n else sg1 (wF w (n - 2)) + wF w (n - 7) + sg0 (wF w (n - 15)) + wF w (n - 16)
termination_by n => n
theorem wF_lo {w : Nat → UInt32} {n : Nat} (h : n < 16) : wF w n = w n := by rw [wF, dif_pos h]
theorem wF_hi (w : Nat → UInt32) (n : Nat) : wF w (n + 16) = sg1 (wF w (n + 14)) + wF w (n + 9) + sg0 (wF w (n + 1)) + wF w n := by
  rw [wF, dif_neg (by omega), show n + 16 - 2 = n + 14 by omega, show n + 16 - 7 = n + 9 by omega, show n + 16 - 15 = n + 1 by omega, show n + 16 - 16 = n by omega]
theorem wF_N (w : Nat → UInt32) (n : Nat) : (wF w (n + 16)).toNat = newW (wF w n).toNat (wF w (n + 1)).toNat (wF w (n + 9)).toNat (wF w (n + 14)).toNat := by
  rw [wF_hi, UInt32.toNat_add, UInt32.toNat_add, UInt32.toNat_add, s1_N, s0_N]
  unfold newW
  show _ = (_ + _ + _ + _) % 4294967296
  simp only [Nat.reducePow, Nat.mod_add_mod]
theorem wd_wF (b : List UInt8) : ∀ n, n < 64 → wd b n = wF (wordB b) n := by
  intro n
  induction n using Nat.strongRecOn with
  | _ n ih =>
    intro h
    by_cases h16 : n < 16
    · rw [wF_lo h16, wd_lo b n h16]
    · obtain ⟨m, rfl⟩ : ∃ m, n = m + 16 := ⟨n - 16, by omega⟩
      rw [wF_hi, wd_hi b _ (by omega) h, ih (m + 16 - 2) (by omega) (by omega), ih (m + 16 - 7) (by omega) (by omega), ih (m + 16 - 15) (by omega) (by omega), ih (m + 16 - 16) (by omega) (by omega), show m + 16 - 2 = m + 14 by omega, show m + 16 - 7 = m + 9 by omega, show m + 16 - 15 = m + 1 by omega, show m + 16 - 16 = m by omega]
def rn4 (w : Nat → UInt32) (r : Rg) : Nat → Rg
  | 0 => r
  | n + 1 => stepR (rn4 w r n) (shaK.getD n 0) (wF w n)
theorem rn4_eq (b : List UInt8) (r : Rg) : ∀ n, n ≤ 64 → rn2 r (wr b 64) n = rn4 (wordB b) r n
  | 0, _ => rfl
  | n + 1, h => by
    show stepR _ _ _ = stepR _ _ _
    rw [rn4_eq b r n (by omega), wr_wd b 64 (by omega), wd_wF b n (by omega)]
theorem kN_get (n : Nat) (h : n < 64) : kN.drop n = (shaK.getD n 0).toNat :: kN.drop (n + 1) := by
  have hl : kN.length = 64 := rfl
  rw [List.drop_eq_getElem_cons (by omega)]
  congr 1
  simp only [kN, List.getElem_map]
  rw [List.getD_eq_getElem?_getD, List.getElem?_eq_getElem (by show n < 64; exact h)]; rfl
theorem comp_N (w : Nat → UInt32) (r0 : Rg) (K : Nat → Nat → Nat → Nat → Nat → Nat → Nat → Nat → Prop) : ∀ m n, n + m = 64 → ∀ r : Rg, rn4 w r0 n = r →
    compN K (kN.drop n) r.a.toNat r.b.toNat r.c.toNat r.d.toNat r.e.toNat r.f.toNat r.g.toNat r.h.toNat
      (wF w n).toNat (wF w (n + 1)).toNat (wF w (n + 2)).toNat (wF w (n + 3)).toNat (wF w (n + 4)).toNat (wF w (n + 5)).toNat (wF w (n + 6)).toNat (wF w (n + 7)).toNat
      (wF w (n + 8)).toNat (wF w (n + 9)).toNat (wF w (n + 10)).toNat (wF w (n + 11)).toNat (wF w (n + 12)).toNat (wF w (n + 13)).toNat (wF w (n + 14)).toNat (wF w (n + 15)).toNat
    = K (rn4 w r0 64).a.toNat (rn4 w r0 64).b.toNat (rn4 w r0 64).c.toNat (rn4 w r0 64).d.toNat (rn4 w r0 64).e.toNat (rn4 w r0 64).f.toNat (rn4 w r0 64).g.toNat (rn4 w r0 64).h.toNat
  | 0, n, h, r, hr => by
    obtain rfl : n = 64 := by omega
    rw [hr]; rfl
  | m + 1, n, h, r, hr => by
    have ih := comp_N w r0 K m (n + 1) (by omega) (stepR r (shaK.getD n 0) (wF w n)) (by rw [rn4, hr])
    rw [← ih, kN_get n (by omega)]
    have e1 : (stepR r (shaK.getD n 0) (wF w n)).a.toNat = addN (t1N r.e.toNat r.f.toNat r.g.toNat r.h.toNat (shaK.getD n 0).toNat (wF w n).toNat) (t2N r.a.toNat r.b.toNat r.c.toNat) := by
      show (t1R r _ _ + t2R r).toNat = _
      rw [UInt32.toNat_add, t1_N, t2_N, addN]
      show _ = (_ + _) % 4294967296
      simp only [Nat.reducePow, Nat.mod_add_mod, Nat.add_mod_mod]
    have e2 : (stepR r (shaK.getD n 0) (wF w n)).e.toNat = addN r.d.toNat (t1N r.e.toNat r.f.toNat r.g.toNat r.h.toNat (shaK.getD n 0).toNat (wF w n).toNat) := by
      show (r.d + t1R r _ _).toNat = _
      rw [UInt32.toNat_add, t1_N, addN]
      show _ = (_ + _) % 4294967296
      simp only [Nat.reducePow, Nat.mod_add_mod, Nat.add_mod_mod]
    rw [e1, e2, show n + 1 + 15 = n + 16 by omega, wF_N]
    rfl
end Go.Proofs.YtapjkdmdckfjbaaDoor

namespace Go.Proofs.YtapjkdmdckfjbaaDoor
open Go Go.Eng Go.Proofs
set_option maxRecDepth 100000
set_option maxHeartbeats 1000000
set_option linter.unusedSimpArgs false
set_option linter.unusedVariables false
def natOf (l : List UInt8) : Nat := l.foldl (fun n x => n * 256 + x.toNat) 0
theorem natOf_fold (l : List UInt8) : ∀ n, l.foldl (fun n x => n * 256 + x.toNat) n = n * 256 ^ l.length + natOf l := by
  induction l with
  | nil => intro n; simp [natOf]
  | cons x l ih =>
    intro n
    have e : natOf (x :: l) = x.toNat * 256 ^ l.length + natOf l := by
      show List.foldl _ (0 * 256 + x.toNat) l = _
      rw [ih, Nat.zero_mul, Nat.zero_add]
    rw [List.foldl_cons, ih, e, List.length_cons, Nat.pow_succ, Nat.add_mul, Nat.mul_assoc, Nat.mul_comm 256, Nat.add_assoc]
theorem natOf_app (a b : List UInt8) : natOf (a ++ b) = natOf a * 256 ^ b.length + natOf b := by
  show List.foldl _ 0 (a ++ b) = _
  rw [List.foldl_append, natOf_fold]; rfl
theorem natOf_lt (a : List UInt8) : natOf a < 256 ^ a.length := by
  induction a with
  | nil => simp [natOf]
  | cons x a ih =>
    have : x :: a = [x] ++ a := rfl
    rw [this, natOf_app]
    have hx : natOf [x] = x.toNat := by simp [natOf]
    have h2 := x.toNat_lt
    rw [hx, List.length_append, Nat.pow_add, List.length_singleton]
    have h3 : (x.toNat + 1) * 256 ^ a.length ≤ 256 ^ 1 * 256 ^ a.length := Nat.mul_le_mul_right _ (by omega)
    rw [Nat.add_mul] at h3
    omega
theorem pow8 (n : Nat) : 256 ^ n = 2 ^ (8 * n) := by rw [Nat.pow_mul]
theorem word_N (b0 b1 b2 b3 : UInt8) : (shl32 b0.toUInt32 24 ||| shl32 b1.toUInt32 16 ||| shl32 b2.toUInt32 8 ||| b3.toUInt32).toNat = natOf [b0, b1, b2, b3] := by
  rw [word_bytes]
  have h0 := b0.toNat_lt; have h1 := b1.toNat_lt; have h2 := b2.toNat_lt; have h3 := b3.toNat_lt
  simp only [natOf, List.foldl_cons, List.foldl_nil, UInt32.toNat_add, UInt32.toNat_mul, UInt8.toNat_toUInt32, show (0 : UInt32).toNat = 0 from rfl, show (256 : UInt32).toNat = 256 from rfl]
  omega
theorem wordB_N (p : List UInt8) (j : Nat) (h : 4 * j + 4 ≤ p.length) : (wordB p j).toNat = wN (natOf p) (8 * (p.length - 4 * j - 4)) := by
  have e0 : p = p.take (4 * j) ++ ([p.getD (4 * j) 0, p.getD (4 * j + 1) 0, p.getD (4 * j + 2) 0, p.getD (4 * j + 3) 0] ++ p.drop (4 * j + 4)) := by
    have e1 : p = p.take (4 * j) ++ p.drop (4 * j) := (List.take_append_drop _ _).symm
    have g : ∀ k, 4 * j + k < p.length → p.drop (4 * j + k) = p.getD (4 * j + k) 0 :: p.drop (4 * j + k + 1) := fun k hk => by
      rw [List.drop_eq_getElem_cons hk]; congr 1; simp [List.getD_eq_getElem?_getD, hk]
    conv => lhs; rw [e1, show p.drop (4 * j) = _ from g 0 (by omega), show p.drop (4 * j + 0 + 1) = _ from g 1 (by omega), g 2 (by omega), g 3 (by omega)]
    rfl
  have hl : (p.drop (4 * j + 4)).length = p.length - 4 * j - 4 := by rw [List.length_drop]; omega
  rw [wordB, word_N]
  have hm := natOf_lt [p.getD (4 * j) 0, p.getD (4 * j + 1) 0, p.getD (4 * j + 2) 0, p.getD (4 * j + 3) 0]
  have hd := natOf_lt (p.drop (4 * j + 4))
  have hN : natOf p = (natOf (p.take (4 * j)) * 4294967296 + natOf [p.getD (4 * j) 0, p.getD (4 * j + 1) 0, p.getD (4 * j + 2) 0, p.getD (4 * j + 3) 0]) * 256 ^ (p.length - 4 * j - 4) + natOf (p.drop (4 * j + 4)) := by
    conv => lhs; rw [e0]
    rw [natOf_app, natOf_app, List.length_append, Nat.pow_add, Nat.add_mul, hl]
    simp only [List.length_cons, List.length_nil]
    rw [← Nat.mul_assoc, ← Nat.add_assoc]
  rw [hN]
  show _ = (((natOf (p.take (4 * j)) * 4294967296 + natOf [p.getD (4 * j) 0, p.getD (4 * j + 1) 0, p.getD (4 * j + 2) 0, p.getD (4 * j + 3) 0]) * 256 ^ (p.length - 4 * j - 4) + natOf (p.drop (4 * j + 4))) >>> (8 * (p.length - 4 * j - 4))) % 4294967296
  rw [hl] at hd
  rw [Nat.shiftRight_eq_div_pow, ← pow8, Nat.mul_comm _ (256 ^ _), Nat.mul_add_div (Nat.pow_pos (by decide)), Nat.div_eq_of_lt hd, Nat.add_zero]
  simp only [List.length_cons, List.length_nil] at hm
  omega
theorem wN_mod (N m sh : Nat) (h : sh + 32 ≤ m) : wN N sh = wN (N % 2 ^ m) sh := by
  show (N >>> sh) % 4294967296 = ((N % 2 ^ m) >>> sh) % 4294967296
  rw [Nat.shiftRight_eq_div_pow, Nat.shiftRight_eq_div_pow]
  have e : 2 ^ m = 2 ^ sh * 2 ^ (m - sh) := by rw [← Nat.pow_add]; congr 1; omega
  rw [e, Nat.mod_mul_right_div_self]
  have e2 : 2 ^ (m - sh) = 4294967296 * 2 ^ (m - sh - 32) := by
    rw [show (4294967296 : Nat) = 2 ^ 32 from rfl, ← Nat.pow_add]; congr 1; omega
  rw [e2, Nat.mod_mul_right_mod]
theorem blk_get (s : List UInt32) (hs : s.length = 8) (p : List UInt8) (j : Nat) (hj : j < 8) : ((blk s p).getD j 0).toNat = addN (s.getD j 0).toNat ((rgL (rn4 (wordB (p.take 64)) (rgOf s) 64)).getD j 0).toNat := by
  rw [blk, (rnd_eq p (rgOf s) 64 (Nat.le_refl _)).2, rn4_eq _ _ 64 (Nat.le_refl _), addL_get _ _ (by omega), if_pos hj, add_N]
def gN (s : List UInt32) (j : Nat) : Nat := (s.getD j 0).toNat
theorem mod_low {N A B q k : Nat} (h : N % 2 ^ (k * (q + 1)) = A * 2 ^ (k * q) + B) (hB : B < 2 ^ (k * q)) : N % 2 ^ (k * q) = B := by
  have h3 : 2 ^ (k * (q + 1)) = 2 ^ (k * q) * 2 ^ k := by rw [← Nat.pow_add, Nat.mul_succ]
  rw [h3] at h
  have h4 := Nat.mod_mul_right_mod N (2 ^ (k * q)) (2 ^ k)
  rw [← h4, h, Nat.mul_comm, Nat.mul_add_mod, Nat.mod_eq_of_lt hB]
theorem eat_N (ks : List Nat) (hk : ks = kN) (D : Nat) : ∀ (q : Nat) (p : List UInt8) (N : Nat) (s : List UInt32), p.length = 64 * q → N % 2 ^ (512 * q) = natOf p → s.length = 8 →
    eatN ks D N q (gN s 0) (gN s 1) (gN s 2) (gN s 3) (gN s 4) (gN s 5) (gN s 6) (gN s 7) = (digN (gN (eat s p).1 0) (gN (eat s p).1 1) (gN (eat s p).1 2) (gN (eat s p).1 3) (gN (eat s p).1 4) (gN (eat s p).1 5) (gN (eat s p).1 6) (gN (eat s p).1 7) = D)
  | 0, p, N, s, hp, hN, hs => by
    rw [eat_lt (by omega)]; rfl
  | q + 1, p, N, s, hp, hN, hs => by
    have hbl : (blk s p).length = 8 := by rw [blk_len, hs]
    have hd : (p.drop 64).length = 64 * q := by rw [List.length_drop]; omega
    have hNd : N % 2 ^ (512 * q) = natOf (p.drop 64) := by
      have e : p = p.take 64 ++ p.drop 64 := (List.take_append_drop _ _).symm
      have h1 : natOf p = natOf (p.take 64) * 2 ^ (512 * q) + natOf (p.drop 64) := by
        conv => lhs; rw [e]
        rw [natOf_app, hd, pow8]; congr 3; omega
      have h2 := natOf_lt (p.drop 64)
      rw [hd, pow8, show 8 * (64 * q) = 512 * q by omega] at h2
      exact mod_low (by rw [hN, h1]) h2
    rw [eat_ge (by omega), ← eat_N ks hk D q (p.drop 64) N (blk s p) hd hNd hbl]
    have hw : ∀ j, j < 16 → wN N (512 * q + (480 - 32 * j)) = (wF (wordB (p.take 64)) j).toNat := by
      intro j hj
      rw [wF_lo hj, wordB_take p j hj, wordB_N p j (by omega), wN_mod N (512 * (q + 1)) _ (by omega), hN, hp]
      congr 1
      omega
    have key := comp_N (wordB (p.take 64)) (rgOf s) (fun a' b' c' d' e' f' g' h' => eatN ks D N q (addN (gN s 0) a') (addN (gN s 1) b') (addN (gN s 2) c') (addN (gN s 3) d') (addN (gN s 4) e') (addN (gN s 5) f') (addN (gN s 6) g') (addN (gN s 7) h')) 64 0 rfl (rgOf s) rfl
    rw [List.drop_zero, ← hk, ← hw 0 (by omega), ← hw 1 (by omega), ← hw 2 (by omega), ← hw 3 (by omega), ← hw 4 (by omega), ← hw 5 (by omega), ← hw 6 (by omega), ← hw 7 (by omega), ← hw 8 (by omega), ← hw 9 (by omega), ← hw 10 (by omega), ← hw 11 (by omega), ← hw 12 (by omega), ← hw 13 (by omega), ← hw 14 (by omega), ← hw 15 (by omega)] at key
    refine Eq.trans (show _ = _ from ?_) (key.trans ?_)
    · rfl
    · unfold gN
      rw [blk_get s hs p 0 (by omega), blk_get s hs p 1 (by omega), blk_get s hs p 2 (by omega), blk_get s hs p 3 (by omega), blk_get s hs p 4 (by omega), blk_get s hs p 5 (by omega), blk_get s hs p 6 (by omega), blk_get s hs p 7 (by omega)]
      rfl
end Go.Proofs.YtapjkdmdckfjbaaDoor

namespace Go.Proofs.YtapjkdmdckfjbaaDoor
open Go Go.Eng Go.Proofs
set_option maxRecDepth 100000
set_option maxHeartbeats 1000000
set_option linter.unusedSimpArgs false
set_option linter.unusedVariables false
/-- thirty-two bytes of a number -/
def toB (D : Nat) : List UInt8 := (List.range 32).map fun i => UInt8.ofNat (D >>> (8 * (31 - i)))
theorem toB_len (D : Nat) : (toB D).length = 32 := by simp [toB]
theorem dig_get (x0 x1 x2 x3 x4 x5 x6 x7 : Nat) (h1 : x1 < 4294967296) (h2 : x2 < 4294967296) (h3 : x3 < 4294967296) (h4 : x4 < 4294967296) (h5 : x5 < 4294967296) (h6 : x6 < 4294967296) (h7 : x7 < 4294967296) (h0 : x0 < 4294967296) :
    ∀ j, j < 8 → (digN x0 x1 x2 x3 x4 x5 x6 x7 >>> (32 * (7 - j))) % 4294967296 = [x0, x1, x2, x3, x4, x5, x6, x7].getD j 0 := by
  have c : ∀ x y, y < 4294967296 → catN x y >>> 32 = x := fun x y h => by
    show (x * 4294967296 + y) >>> 32 = x
    rw [Nat.shiftRight_eq_div_pow]; omega
  have d : ∀ x y, y < 4294967296 → catN x y % 4294967296 = y := fun x y h => by
    show (x * 4294967296 + y) % 4294967296 = y
    omega
  intro j hj
  have sh : ∀ (N a b : Nat), N >>> (a + b) = (N >>> a) >>> b := fun N a b => Nat.shiftRight_add N a b
  unfold digN
  match j, hj with
  | 7, _ => exact d _ _ h7
  | 6, _ => rw [c _ _ h7]; exact d _ _ h6
  | 5, _ => rw [show 32 * (7 - 5) = 32 + 32 from rfl, sh, c _ _ h7, c _ _ h6]; exact d _ _ h5
  | 4, _ => rw [show 32 * (7 - 4) = 32 + 32 + 32 from rfl, sh, sh, c _ _ h7, c _ _ h6, c _ _ h5]; exact d _ _ h4
  | 3, _ => rw [show 32 * (7 - 3) = 32 + 32 + 32 + 32 from rfl, sh, sh, sh, c _ _ h7, c _ _ h6, c _ _ h5, c _ _ h4]; exact d _ _ h3
  | 2, _ => rw [show 32 * (7 - 2) = 32 + 32 + 32 + 32 + 32 from rfl, sh, sh, sh, sh, c _ _ h7, c _ _ h6, c _ _ h5, c _ _ h4, c _ _ h3]; exact d _ _ h2
  | 1, _ => rw [show 32 * (7 - 1) = 32 + 32 + 32 + 32 + 32 + 32 from rfl, sh, sh, sh, sh, sh, c _ _ h7, c _ _ h6, c _ _ h5, c _ _ h4, c _ _ h3, c _ _ h2]; exact d _ _ h1
  | 0, _ =>
    rw [show 32 * (7 - 0) = 32 + 32 + 32 + 32 + 32 + 32 + 32 from rfl, sh, sh, sh, sh, sh, sh, c _ _ h7, c _ _ h6, c _ _ h5, c _ _ h4, c _ _ h3, c _ _ h2, c _ _ h1]
    exact Nat.mod_eq_of_lt h0
theorem sumG_toB (s : List UInt32) (hs : s.length = 8) : sumG s 32 = toB (digN (gN s 0) (gN s 1) (gN s 2) (gN s 3) (gN s 4) (gN s 5) (gN s 6) (gN s 7)) := by
  unfold sumG toB
  refine List.map_congr_left fun i hi => ?_
  have hi : i < 32 := List.mem_range.1 hi
  rw [if_pos hi, byteAt]
  have hg : ∀ j, gN s j < 4294967296 := fun j => UInt32.toNat_lt _
  have hd := dig_get _ _ _ _ _ _ _ _ (hg 1) (hg 2) (hg 3) (hg 4) (hg 5) (hg 6) (hg 7) (hg 0) (i / 4) (by omega)
  have he : [gN s 0, gN s 1, gN s 2, gN s 3, gN s 4, gN s 5, gN s 6, gN s 7].getD (i / 4) 0 = (s.getD (i / 4) 0).toNat := by
    have : i / 4 < 8 := by omega
    generalize i / 4 = q at this
    match q, this with
    | 0, _ => rfl
    | 1, _ => rfl
    | 2, _ => rfl
    | 3, _ => rfl
    | 4, _ => rfl
    | 5, _ => rfl
    | 6, _ => rfl
    | 7, _ => rfl
  generalize digN (gN s 0) (gN s 1) (gN s 2) (gN s 3) (gN s 4) (gN s 5) (gN s 6) (gN s 7) = D at hd ⊢
  rw [he] at hd
  apply UInt8.toNat_inj.1
  rw [UInt32.toNat_toUInt8, shr_N, UInt8.toNat_ofNat']
  show ((s.getD (i / 4) 0).toNat >>> _) % _ = _
  rw [← hd]
  have e1 : 8 * (31 - i) = 32 * (7 - i / 4) + 8 * (3 - i % 4) := by omega
  rw [e1, Nat.shiftRight_add]
  generalize D >>> (32 * (7 - i / 4)) = E
  have hk : 8 * (3 - i % 4) = 0 ∨ 8 * (3 - i % 4) = 8 ∨ 8 * (3 - i % 4) = 16 ∨ 8 * (3 - i % 4) = 24 := by omega
  rcases hk with h | h | h | h <;> rw [h] <;> simp only [Nat.shiftRight_eq_div_pow] <;> omega
/-- what a text of so many bytes is ended with -/
def endL (n : Nat) : List UInt8 := endB (List.replicate (n % 64) 0) (UInt64.ofNat n)
theorem padT_eq (b : List UInt8) : padT b = b ++ endL b.length := by
  unfold padT endL endB padN hM
  rw [hR_len, List.length_replicate]
theorem padT_mod (b : List UInt8) : (padT b).length % 64 = 0 := by
  rw [padT, List.length_append, endB_length, padN, hR_len]
  omega
def kL : List Nat := [1116352408, 1899447441, 3049323471, 3921009573, 961987163, 1508970993, 2453635748, 2870763221, 3624381080, 310598401, 607225278, 1426881987, 1925078388, 2162078206, 2614888103, 3248222580, 3835390401, 4022224774, 264347078, 604807628, 770255983, 1249150122, 1555081692, 1996064986, 2554220882, 2821834349, 2952996808, 3210313671, 3336571891, 3584528711, 113926993, 338241895, 666307205, 773529912, 1294757372, 1396182291, 1695183700, 1986661051, 2177026350, 2456956037, 2730485921, 2820302411, 3259730800, 3345764771, 3516065817, 3600352804, 4094571909, 275423344, 430227734, 506948616, 659060556, 883997877, 958139571, 1322822218, 1537002063, 1747873779, 1955562222, 2024104815, 2227730452, 2361852424, 2428436474, 2756734187, 3204031479, 3329325298]
theorem kL_eq : kL = kN := by kernel_rfl
/-- the sum of a text, by numbers -/
theorem sum_N (b : List UInt8) (N q D : Nat) (hq : (b ++ endL b.length).length = 64 * q) (hN : natOf (b ++ endL b.length) = N)
    (h : eatN kL D N q 1779033703 3144134277 1013904242 2773480762 1359893119 2600822924 528734635 1541459225 = (D = D)) : sumOf b = toB D := by
  have e := eat_N kL kL_eq D q (b ++ endL b.length) N shaFirst hq (by
    rw [← hN, Nat.mod_eq_of_lt]
    have := natOf_lt (b ++ endL b.length)
    rwa [hq, pow8, show 8 * (64 * q) = 512 * q by omega] at this) rfl
  have e' : eatN kL D N q 1779033703 3144134277 1013904242 2773480762 1359893119 2600822924 528734635 1541459225 := h ▸ rfl
  have e2 := (cast e e' : _ = D)
  rw [sumOf_pad, padT_eq, sumG_toB _ (by rw [eat_len]; rfl), e2]
end Go.Proofs.YtapjkdmdckfjbaaDoor

namespace Go.Proofs.YtapjkdmdckfjbaaDoor
open Go Go.Eng Go.Proofs
set_option maxRecDepth 100000
set_option maxHeartbeats 1000000
set_option linter.unusedSimpArgs false
set_option linter.unusedVariables false
theorem sum_abc : sumOf [97, 98, 99] = toB 84342368487090800366523834928142263660104883695016514377462985829716817089965 := by
  refine sum_N [97, 98, 99] _ 1 _ (by decide +kernel) rfl ?_
  kernel_rfl
theorem sum_abc0 : (sumOf [97, 98, 99]).getD 0 0 = UInt8.ofNat 186 ∧ (sumOf [97, 98, 99]).getD 1 0 = UInt8.ofNat 120 ∧ (sumOf [97, 98, 99]).getD 31 0 = UInt8.ofNat 173 := by
  rw [sum_abc]; decide +kernel
theorem eat_ab : hS [97, 98] = shaFirst ∧ hR [97, 98] = [97, 98] ∧ hM [97, 98] = 2 := ⟨by unfold hS; rw [eat_lt (by decide)], by unfold hR; rw [eat_lt (by decide)], rfl⟩
theorem f7 : AFun Tryd.prog 7 [] (boo true) := by
  obtain ⟨g0, g1, g2⟩ := sum_abc0
  have hAl := sumOf_len [97, 98, 99]
  have hE : moreE [] 1 = 1 := by decide
  have hm1 := more0_S [97, 98]
  have c1 := f8 shaFirst rfl [] (by decide) 0 [97, 98] (by decide)
  rw [more0_S, more0_R, more0_M, more0_E] at c1
  have c2 := f8 (hS [97, 98]) (hS_len _) (hR [97, 98]) (by have := hR_lt [97, 98]; omega) (hM [97, 98]) [99] (by decide)
  rw [more_S, more_R, more_M, more_E] at c2
  have c3 := f10 (hS [97, 98, 99]) (hS_len _) (hR [97, 98, 99]) (hM [97, 98, 99])
  rw [fin_sum, more_E] at c3
  have c4 := f10 (List.replicate 8 0) rfl [] 1
  rw [hE] at c4
  refine AFun.enterW Tryd.func7 rfl Tryd.call7 (by simp [Tryd.ntmps7]) fun γ1 => ?_
  simp only [frameOf, Tryd.ntmps7]
  repeat (first | simp only [go_sem, Nat.reduceLT, Nat.reduceEqDiff, reduceIte, Int.reduceEq, Int.reduceLE, Int.reduceLT, Nat.reduceMul, Nat.reduceAdd, Nat.reduceSub, Int.reduceNeg, Int.reduceAdd, Int.reduceMul, Int.reduceSub, Int.reduceToNat, Nat.reduceLeDiff, Nat.reduceDiv, Int.reduceDiv, reduceCtorEq, Option.some.injEq, exists_eq_left'] | refine AW.seq ?_ | refine AW.block ?_ | refine AW.scope ?_ | refine AW.cond_tt rfl ?_ | refine AW.cond_ff rfl ?_ | refine AW.label ?_ | refine AW.skip ?_ | refine AW.ret ?_ | refine AW.exit ?_ | refine AW.region ?_ | refine AW.draw (by kernel_rfl) (by decide +kernel) ?_ | refine AW.drawN (by kernel_rfl) (by decide +kernel) ?_ | ((with_reducible refine And.intro ?_ ?_); (focus ((repeat' (with_reducible apply And.intro)) <;> first | (with_reducible exact OrdAt.of (by kernel_rfl)) | exact True.intro | (with_reducible assumption) | omega | rfl | exact Nat.le_of_ble_eq_true rfl | (unfold inI; omega)))))
  refine CallE.mem (f15 [97, 98, 99] (by decide)) rfl (by simp [bor]) (by rfl) ?_
  generalize sumOf [97, 98, 99] = A at g0 g1 g2 hAl c3
  have hA : (A.map u8).length = 32 := by rw [List.length_map, hAl]
  have ht : (A.map u8).take 32 = A.map u8 := List.take_of_length_le (by rw [hA]; exact Nat.le_refl _)
  repeat (first | simp only [go_sem, Nat.reduceLT, Nat.reduceEqDiff, reduceIte, Int.reduceEq, Int.reduceLE, Int.reduceLT, Nat.reduceMul, Nat.reduceAdd, Nat.reduceSub, Int.reduceNeg, Int.reduceAdd, Int.reduceMul, Int.reduceSub, Int.reduceToNat, Nat.reduceLeDiff, Nat.reduceDiv, Int.reduceDiv, reduceCtorEq, Option.some.injEq, exists_eq_left', hA, ht] | refine AW.seq ?_ | refine AW.block ?_ | refine AW.scope ?_ | refine AW.cond_tt rfl ?_ | refine AW.cond_ff rfl ?_ | refine AW.label ?_ | refine AW.skip ?_ | refine AW.ret ?_ | refine AW.exit ?_ | refine AW.region ?_ | refine AW.draw (by kernel_rfl) (by decide +kernel) ?_ | refine AW.drawN (by kernel_rfl) (by decide +kernel) ?_ | ((with_reducible refine And.intro ?_ ?_); (focus ((repeat' (with_reducible apply And.intro)) <;> first | (with_reducible exact OrdAt.of (by kernel_rfl)) | exact True.intro | (with_reducible assumption) | omega | rfl | exact Nat.le_of_ble_eq_true rfl | (unfold inI; omega)))))
  refine CallE.mem f13 rfl (by simp [bor]) (by rfl) ?_
  repeat (first | simp only [go_sem, Nat.reduceLT, Nat.reduceEqDiff, reduceIte, Int.reduceEq, Int.reduceLE, Int.reduceLT, Nat.reduceMul, Nat.reduceAdd, Nat.reduceSub, Int.reduceNeg, Int.reduceAdd, Int.reduceMul, Int.reduceSub, Int.reduceToNat, Nat.reduceLeDiff, Nat.reduceDiv, Int.reduceDiv, reduceCtorEq, Option.some.injEq, exists_eq_left'] | refine AW.seq ?_ | refine AW.block ?_ | refine AW.scope ?_ | refine AW.cond_tt rfl ?_ | refine AW.cond_ff rfl ?_ | refine AW.label ?_ | refine AW.skip ?_ | refine AW.ret ?_ | refine AW.exit ?_ | refine AW.region ?_ | refine AW.draw (by kernel_rfl) (by decide +kernel) ?_ | refine AW.drawN (by kernel_rfl) (by decide +kernel) ?_ | ((with_reducible refine And.intro ?_ ?_); (focus ((repeat' (with_reducible apply And.intro)) <;> first | (with_reducible exact OrdAt.of (by kernel_rfl)) | exact True.intro | (with_reducible assumption) | omega | rfl | exact Nat.le_of_ble_eq_true rfl | (unfold inI; omega)))))
  have l2 := hS_len [97, 98]
  have l3 := hS_len [97, 98, 99]
  have l0 : (List.replicate 8 (0 : UInt32)).length = 8 := rfl
  refine CallE.mem c1 (by simp only [List.map_cons, List.map_nil, frz_hv, frz_sl]; rfl) (by simp [bor]) (by rfl) ?_
  repeat (first | simp only [go_sem, Nat.reduceLT, Nat.reduceEqDiff, reduceIte, Int.reduceEq, Int.reduceLE, Int.reduceLT, Nat.reduceMul, Nat.reduceAdd, Nat.reduceSub, Int.reduceNeg, Int.reduceAdd, Int.reduceMul, Int.reduceSub, Int.reduceToNat, Nat.reduceLeDiff, Nat.reduceDiv, Int.reduceDiv, reduceCtorEq, Option.some.injEq, exists_eq_left', hs_take l2, hs_d8 l2, hs_d9 l2, hs_len l2, hs_t10 l2, List.length_map, zh_eq, zh_len, zh_spl l2] | refine AW.seq ?_ | refine AW.block ?_ | refine AW.scope ?_ | refine AW.cond_tt rfl ?_ | refine AW.cond_ff rfl ?_ | refine AW.label ?_ | refine AW.skip ?_ | refine AW.ret ?_ | refine AW.exit ?_ | refine AW.region ?_ | refine AW.draw (by kernel_rfl) (by decide +kernel) ?_ | refine AW.drawN (by kernel_rfl) (by decide +kernel) ?_ | ((with_reducible refine And.intro ?_ ?_); (focus ((repeat' (with_reducible apply And.intro)) <;> first | (with_reducible exact OrdAt.of (by kernel_rfl)) | exact True.intro | (with_reducible assumption) | omega | rfl | exact Nat.le_of_ble_eq_true rfl | (unfold inI; omega)))))
  refine CallE.mem c2 (by simp only [List.map_cons, List.map_nil, frz_hv, frz_sl]; rfl) (by simp [bor]) (by rfl) ?_
  repeat (first | simp only [go_sem, Nat.reduceLT, Nat.reduceEqDiff, reduceIte, Int.reduceEq, Int.reduceLE, Int.reduceLT, Nat.reduceMul, Nat.reduceAdd, Nat.reduceSub, Int.reduceNeg, Int.reduceAdd, Int.reduceMul, Int.reduceSub, Int.reduceToNat, Nat.reduceLeDiff, Nat.reduceDiv, Int.reduceDiv, reduceCtorEq, Option.some.injEq, exists_eq_left', List.cons_append, List.nil_append, hs_take l3, hs_d8 l3, hs_d9 l3, hs_len l3, hs_t10 l3, hs_len l2, splice_all, Nat.le_refl, List.length_map, zh_eq, zh_len, zh_spl l3] | refine AW.seq ?_ | refine AW.block ?_ | refine AW.scope ?_ | refine AW.cond_tt rfl ?_ | refine AW.cond_ff rfl ?_ | refine AW.label ?_ | refine AW.skip ?_ | refine AW.ret ?_ | refine AW.exit ?_ | refine AW.region ?_ | refine AW.draw (by kernel_rfl) (by decide +kernel) ?_ | refine AW.drawN (by kernel_rfl) (by decide +kernel) ?_ | ((with_reducible refine And.intro ?_ ?_); (focus ((repeat' (with_reducible apply And.intro)) <;> first | (with_reducible exact OrdAt.of (by kernel_rfl)) | exact True.intro | (with_reducible assumption) | omega | rfl | exact Nat.le_of_ble_eq_true rfl | (unfold inI; omega)))))
  refine CallE.mem c3 (by simp only [List.map_cons, List.map_nil, frz_hv, frz_sl]) (by simp [bor]) (by rfl) ?_
  have hw : WkL [AV.agg ((List.replicate 8 (0 : UInt32)).map u32 ++ [nilS, u64 1])] [AV.agg (hv (List.replicate 8 0) [] 1)] := ⟨Wk.agg (WkL.app ((List.replicate 8 (0 : UInt32)).map u32) ⟨Wk.nil rfl rfl, Wk.refl _, trivial⟩), trivial⟩
  repeat (first | simp only [go_sem, Nat.reduceLT, Nat.reduceEqDiff, reduceIte, Int.reduceEq, Int.reduceLE, Int.reduceLT, Nat.reduceMul, Nat.reduceAdd, Nat.reduceSub, Int.reduceNeg, Int.reduceAdd, Int.reduceMul, Int.reduceSub, Int.reduceToNat, Nat.reduceLeDiff, Nat.reduceDiv, Int.reduceDiv, reduceCtorEq, Option.some.injEq, exists_eq_left', hA, ht, splice_all, List.length_replicate] | refine AW.seq ?_ | refine AW.block ?_ | refine AW.scope ?_ | refine AW.cond_tt rfl ?_ | refine AW.cond_ff rfl ?_ | refine AW.label ?_ | refine AW.skip ?_ | refine AW.ret ?_ | refine AW.exit ?_ | refine AW.region ?_ | refine AW.draw (by kernel_rfl) (by decide +kernel) ?_ | refine AW.drawN (by kernel_rfl) (by decide +kernel) ?_ | ((with_reducible refine And.intro ?_ ?_); (focus ((repeat' (with_reducible apply And.intro)) <;> first | (with_reducible exact OrdAt.of (by kernel_rfl)) | exact True.intro | (with_reducible assumption) | omega | rfl | exact Nat.le_of_ble_eq_true rfl | (unfold inI; omega)))))
  refine CallE.memW c4 hw (by simp [bor]) (by rfl) ?_
  have b0 : 0 < A.length := by omega
  have b1 : 1 < A.length := by omega
  have b31 : 31 < A.length := by omega
  have e0 : (A.map u8).getD 0 .bad = u8 (A.getD 0 0) := row_u8 (n := 0) b0
  have k3 : ((3 : UInt64).toNat : Int) = 3 := rfl
  have hM3 : hM [97, 98, 99] = 3 := rfl
  repeat (first | simp only [go_sem, Nat.reduceLT, Nat.reduceEqDiff, reduceIte, Int.reduceEq, Int.reduceLE, Int.reduceLT, Nat.reduceMul, Nat.reduceAdd, Nat.reduceSub, Int.reduceNeg, Int.reduceAdd, Int.reduceMul, Int.reduceSub, Int.reduceToNat, Nat.reduceLeDiff, Nat.reduceDiv, Int.reduceDiv, reduceCtorEq, Option.some.injEq, exists_eq_left', hA, ht, splice_all, List.length_replicate, row_u8, e0, b0, b1, b31, g0, g1, g2, hs_take l3, hs_d8 l3, hs_d9 l3, hs_len l3, hM3, eq_self, decide_true, exG_tt, k3, List.length_drop, List.length_map, hAl] | refine AW.seq ?_ | refine AW.block ?_ | refine AW.scope ?_ | refine AW.cond_tt rfl ?_ | refine AW.cond_ff rfl ?_ | refine AW.label ?_ | refine AW.skip ?_ | refine AW.ret ?_ | refine AW.exit ?_ | refine AW.region ?_ | refine AW.draw (by kernel_rfl) (by decide +kernel) ?_ | refine AW.drawN (by kernel_rfl) (by decide +kernel) ?_ | ((with_reducible refine And.intro ?_ ?_); (focus ((repeat' (with_reducible apply And.intro)) <;> first | (with_reducible exact OrdAt.of (by kernel_rfl)) | exact True.intro | (with_reducible assumption) | omega | rfl | exact Nat.le_of_ble_eq_true rfl | (unfold inI; omega)))))
  exact Wk.refl _
end Go.Proofs.YtapjkdmdckfjbaaDoor

namespace Go.Proofs.YtapjkdmdckfjbaaDoor
open Go Go.Eng Go.Proofs
set_option maxRecDepth 100000
set_option maxHeartbeats 4000000
set_option linter.unusedSimpArgs false
set_option linter.unusedVariables false
theorem f3 (s : List UInt32) (hs : s.length = 8) (r : List UInt8) (m : UInt64) (b : List UInt8) : AFun Tryd.prog 3 [.agg (hv s r m), .sl 1 (bys b) b.length none] (boo true) := by
  refine AFun.enterW Tryd.func3 rfl Tryd.call3 (by simp [Tryd.ntmps3]) fun γ1 => ?_
  simp only [frameOf, Tryd.ntmps3]
  repeat (first | simp only [go_sem, Nat.reduceLT, Nat.reduceEqDiff, reduceIte, Int.reduceEq, Int.reduceLE, Int.reduceLT, Nat.reduceMul, Nat.reduceAdd, Nat.reduceSub, Int.reduceNeg, Int.reduceAdd, Int.reduceMul, Int.reduceSub, Int.reduceToNat, Nat.reduceLeDiff, Nat.reduceDiv, Int.reduceDiv, reduceCtorEq, Option.some.injEq, exists_eq_left', hs_take hs, hs_d8 hs, hs_d9 hs, hs_len hs, hs_t10 hs, List.length_map, zh_eq, zh_len, zh_spl hs] | refine AW.seq ?_ | refine AW.block ?_ | refine AW.scope ?_ | refine AW.cond_tt rfl ?_ | refine AW.cond_ff rfl ?_ | refine AW.label ?_ | refine AW.skip ?_ | refine AW.ret ?_ | refine AW.exit ?_ | refine AW.region ?_ | refine AW.draw (by kernel_rfl) (by decide +kernel) ?_ | refine AW.drawN (by kernel_rfl) (by decide +kernel) ?_ | ((with_reducible refine And.intro ?_ ?_); (focus ((repeat' (with_reducible apply And.intro)) <;> first | (with_reducible exact OrdAt.of (by kernel_rfl)) | exact True.intro | (with_reducible assumption) | omega | rfl | exact Nat.le_of_ble_eq_true rfl | (unfold inI; omega)))))
  refine CallE.flat f7 rfl rfl (by rfl) ?_
  repeat (first | simp only [go_sem, Nat.reduceLT, Nat.reduceEqDiff, reduceIte, Int.reduceEq, Int.reduceLE, Int.reduceLT, Nat.reduceMul, Nat.reduceAdd, Nat.reduceSub, Int.reduceNeg, Int.reduceAdd, Int.reduceMul, Int.reduceSub, Int.reduceToNat, Nat.reduceLeDiff, Nat.reduceDiv, Int.reduceDiv, reduceCtorEq, Option.some.injEq, exists_eq_left', hs_take hs, hs_d8 hs, hs_d9 hs, hs_len hs, hs_t10 hs] | refine AW.seq ?_ | refine AW.block ?_ | refine AW.scope ?_ | refine AW.cond_tt rfl ?_ | refine AW.cond_ff rfl ?_ | refine AW.label ?_ | refine AW.skip ?_ | refine AW.ret ?_ | refine AW.exit ?_ | refine AW.region ?_ | refine AW.draw (by kernel_rfl) (by decide +kernel) ?_ | refine AW.drawN (by kernel_rfl) (by decide +kernel) ?_ | ((with_reducible refine And.intro ?_ ?_); (focus ((repeat' (with_reducible apply And.intro)) <;> first | (with_reducible exact OrdAt.of (by kernel_rfl)) | exact True.intro | (with_reducible assumption) | omega | rfl | exact Nat.le_of_ble_eq_true rfl | (unfold inI; omega)))))
  refine exG_decf (fun h1 => ?_) (fun h1 => ?_)
  · repeat (first | simp only [go_sem, Nat.reduceLT, Nat.reduceEqDiff, reduceIte, Int.reduceEq, Int.reduceLE, Int.reduceLT, Nat.reduceMul, Nat.reduceAdd, Nat.reduceSub, Int.reduceNeg, Int.reduceAdd, Int.reduceMul, Int.reduceSub, Int.reduceToNat, Nat.reduceLeDiff, Nat.reduceDiv, Int.reduceDiv, reduceCtorEq, Option.some.injEq, exists_eq_left', hs_take hs, hs_d8 hs, hs_d9 hs, hs_len hs, hs_t10 hs] | refine AW.seq ?_ | refine AW.block ?_ | refine AW.scope ?_ | refine AW.cond_tt rfl ?_ | refine AW.cond_ff rfl ?_ | refine AW.label ?_ | refine AW.skip ?_ | refine AW.ret ?_ | refine AW.exit ?_ | refine AW.region ?_ | refine AW.draw (by kernel_rfl) (by decide +kernel) ?_ | refine AW.drawN (by kernel_rfl) (by decide +kernel) ?_ | ((with_reducible refine And.intro ?_ ?_); (focus ((repeat' (with_reducible apply And.intro)) <;> first | (with_reducible exact OrdAt.of (by kernel_rfl)) | exact True.intro | (with_reducible assumption) | omega | rfl | exact Nat.le_of_ble_eq_true rfl | (unfold inI; omega)))))
    refine AW.cond_dec rfl (fun h2 => ?_) (fun h2 => ?_)
    · repeat (first | simp only [go_sem, Nat.reduceLT, Nat.reduceEqDiff, reduceIte, Int.reduceEq, Int.reduceLE, Int.reduceLT, Nat.reduceMul, Nat.reduceAdd, Nat.reduceSub, Int.reduceNeg, Int.reduceAdd, Int.reduceMul, Int.reduceSub, Int.reduceToNat, Nat.reduceLeDiff, Nat.reduceDiv, Int.reduceDiv, reduceCtorEq, Option.some.injEq, exists_eq_left', hs_take hs, hs_d8 hs, hs_d9 hs, hs_len hs, hs_t10 hs] | refine AW.seq ?_ | refine AW.block ?_ | refine AW.scope ?_ | refine AW.cond_tt rfl ?_ | refine AW.cond_ff rfl ?_ | refine AW.label ?_ | refine AW.skip ?_ | refine AW.ret ?_ | refine AW.exit ?_ | refine AW.region ?_ | refine AW.draw (by kernel_rfl) (by decide +kernel) ?_ | refine AW.drawN (by kernel_rfl) (by decide +kernel) ?_ | ((with_reducible refine And.intro ?_ ?_); (focus ((repeat' (with_reducible apply And.intro)) <;> first | (with_reducible exact OrdAt.of (by kernel_rfl)) | exact True.intro | (with_reducible assumption) | omega | rfl | exact Nat.le_of_ble_eq_true rfl | (unfold inI; omega)))))
      exact Wk.refl _
    · have hr : r.length ≤ 500000 := by omega
      have hb : b.length ≤ 500000 := by omega
      have hM := moreS_len s r m b
      rw [hs] at hM
      have hF := finS_len s r m
      have hFt : ((finS s r m).map u8).take 32 = (finS s r m).map u8 := List.take_of_length_le (by rw [List.length_map, hF]; exact Nat.le_refl _)
      repeat (first | simp only [go_sem, Nat.reduceLT, Nat.reduceEqDiff, reduceIte, Int.reduceEq, Int.reduceLE, Int.reduceLT, Nat.reduceMul, Nat.reduceAdd, Nat.reduceSub, Int.reduceNeg, Int.reduceAdd, Int.reduceMul, Int.reduceSub, Int.reduceToNat, Nat.reduceLeDiff, Nat.reduceDiv, Int.reduceDiv, reduceCtorEq, Option.some.injEq, exists_eq_left', hs_take hs, hs_d8 hs, hs_d9 hs, hs_len hs, hs_t10 hs] | refine AW.seq ?_ | refine AW.block ?_ | refine AW.scope ?_ | refine AW.cond_tt rfl ?_ | refine AW.cond_ff rfl ?_ | refine AW.label ?_ | refine AW.skip ?_ | refine AW.ret ?_ | refine AW.exit ?_ | refine AW.region ?_ | refine AW.draw (by kernel_rfl) (by decide +kernel) ?_ | refine AW.drawN (by kernel_rfl) (by decide +kernel) ?_ | ((with_reducible refine And.intro ?_ ?_); (focus ((repeat' (with_reducible apply And.intro)) <;> first | (with_reducible exact OrdAt.of (by kernel_rfl)) | exact True.intro | (with_reducible assumption) | omega | rfl | exact Nat.le_of_ble_eq_true rfl | (unfold inI; omega)))))
      refine CallE.mem (f8 s hs r hr m b hb) (by simp only [List.map_cons, List.map_nil, frz_hv, frz_sl]) (by simp [bor]) (by rfl) ?_
      repeat (first | simp only [go_sem, Nat.reduceLT, Nat.reduceEqDiff, reduceIte, Int.reduceEq, Int.reduceLE, Int.reduceLT, Nat.reduceMul, Nat.reduceAdd, Nat.reduceSub, Int.reduceNeg, Int.reduceAdd, Int.reduceMul, Int.reduceSub, Int.reduceToNat, Nat.reduceLeDiff, Nat.reduceDiv, Int.reduceDiv, reduceCtorEq, Option.some.injEq, exists_eq_left', hs_take hM, hs_d8 hM, hs_d9 hM, hs_len hM, hs_t10 hM, hs_take hs, hs_d8 hs, hs_d9 hs, hs_len hs, hs_t10 hs, splice_all, zh_eq, zh_len, zh_spl hM, List.length_map, List.length_replicate, hF, hFt, Nat.le_refl] | refine AW.seq ?_ | refine AW.block ?_ | refine AW.scope ?_ | refine AW.cond_tt rfl ?_ | refine AW.cond_ff rfl ?_ | refine AW.label ?_ | refine AW.skip ?_ | refine AW.ret ?_ | refine AW.exit ?_ | refine AW.region ?_ | refine AW.draw (by kernel_rfl) (by decide +kernel) ?_ | refine AW.drawN (by kernel_rfl) (by decide +kernel) ?_ | ((with_reducible refine And.intro ?_ ?_); (focus ((repeat' (with_reducible apply And.intro)) <;> first | (with_reducible exact OrdAt.of (by kernel_rfl)) | exact True.intro | (with_reducible assumption) | omega | rfl | exact Nat.le_of_ble_eq_true rfl | (unfold inI; omega)))))
      refine CallE.mem (f9 s hs r hr m b hb) (by simp only [List.map_cons, List.map_nil, frz_hv, frz_sl]) (by simp [bor]) (by rfl) ?_
      repeat (first | simp only [go_sem, Nat.reduceLT, Nat.reduceEqDiff, reduceIte, Int.reduceEq, Int.reduceLE, Int.reduceLT, Nat.reduceMul, Nat.reduceAdd, Nat.reduceSub, Int.reduceNeg, Int.reduceAdd, Int.reduceMul, Int.reduceSub, Int.reduceToNat, Nat.reduceLeDiff, Nat.reduceDiv, Int.reduceDiv, reduceCtorEq, Option.some.injEq, exists_eq_left', hs_take hM, hs_d8 hM, hs_d9 hM, hs_len hM, hs_t10 hM, hs_take hs, hs_d8 hs, hs_d9 hs, hs_len hs, hs_t10 hs, splice_all, zh_eq, zh_len, zh_spl hM, List.length_map, List.length_replicate, hF, hFt, Nat.le_refl] | refine AW.seq ?_ | refine AW.block ?_ | refine AW.scope ?_ | refine AW.cond_tt rfl ?_ | refine AW.cond_ff rfl ?_ | refine AW.label ?_ | refine AW.skip ?_ | refine AW.ret ?_ | refine AW.exit ?_ | refine AW.region ?_ | refine AW.draw (by kernel_rfl) (by decide +kernel) ?_ | refine AW.drawN (by kernel_rfl) (by decide +kernel) ?_ | ((with_reducible refine And.intro ?_ ?_); (focus ((repeat' (with_reducible apply And.intro)) <;> first | (with_reducible exact OrdAt.of (by kernel_rfl)) | exact True.intro | (with_reducible assumption) | omega | rfl | exact Nat.le_of_ble_eq_true rfl | (unfold inI; omega)))))
      refine CallE.mem (f10 s hs r m) (by simp only [List.map_cons, List.map_nil, frz_hv, frz_sl]) (by simp [bor]) (by rfl) ?_
      repeat (first | simp only [go_sem, Nat.reduceLT, Nat.reduceEqDiff, reduceIte, Int.reduceEq, Int.reduceLE, Int.reduceLT, Nat.reduceMul, Nat.reduceAdd, Nat.reduceSub, Int.reduceNeg, Int.reduceAdd, Int.reduceMul, Int.reduceSub, Int.reduceToNat, Nat.reduceLeDiff, Nat.reduceDiv, Int.reduceDiv, reduceCtorEq, Option.some.injEq, exists_eq_left', hs_take hM, hs_d8 hM, hs_d9 hM, hs_len hM, hs_t10 hM, hs_take hs, hs_d8 hs, hs_d9 hs, hs_len hs, hs_t10 hs, splice_all, zh_eq, zh_len, zh_spl hM, List.length_map, List.length_replicate, hF, hFt, Nat.le_refl] | refine AW.seq ?_ | refine AW.block ?_ | refine AW.scope ?_ | refine AW.cond_tt rfl ?_ | refine AW.cond_ff rfl ?_ | refine AW.label ?_ | refine AW.skip ?_ | refine AW.ret ?_ | refine AW.exit ?_ | refine AW.region ?_ | refine AW.draw (by kernel_rfl) (by decide +kernel) ?_ | refine AW.drawN (by kernel_rfl) (by decide +kernel) ?_ | ((with_reducible refine And.intro ?_ ?_); (focus ((repeat' (with_reducible apply And.intro)) <;> first | (with_reducible exact OrdAt.of (by kernel_rfl)) | exact True.intro | (with_reducible assumption) | omega | rfl | exact Nat.le_of_ble_eq_true rfl | (unfold inI; omega)))))
      refine CallE.mem (f11 s hs r m) (by simp only [List.map_cons, List.map_nil, frz_hv, frz_sl]) (by simp [bor]) (by rfl) ?_
      repeat (first | simp only [go_sem, Nat.reduceLT, Nat.reduceEqDiff, reduceIte, Int.reduceEq, Int.reduceLE, Int.reduceLT, Nat.reduceMul, Nat.reduceAdd, Nat.reduceSub, Int.reduceNeg, Int.reduceAdd, Int.reduceMul, Int.reduceSub, Int.reduceToNat, Nat.reduceLeDiff, Nat.reduceDiv, Int.reduceDiv, reduceCtorEq, Option.some.injEq, exists_eq_left', hs_take hM, hs_d8 hM, hs_d9 hM, hs_len hM, hs_t10 hM, hs_take hs, hs_d8 hs, hs_d9 hs, hs_len hs, hs_t10 hs, splice_all, zh_eq, zh_len, zh_spl hM, List.length_map, List.length_replicate, hF, hFt, Nat.le_refl] | refine AW.seq ?_ | refine AW.block ?_ | refine AW.scope ?_ | refine AW.cond_tt rfl ?_ | refine AW.cond_ff rfl ?_ | refine AW.label ?_ | refine AW.skip ?_ | refine AW.ret ?_ | refine AW.exit ?_ | refine AW.region ?_ | refine AW.draw (by kernel_rfl) (by decide +kernel) ?_ | refine AW.drawN (by kernel_rfl) (by decide +kernel) ?_ | ((with_reducible refine And.intro ?_ ?_); (focus ((repeat' (with_reducible apply And.intro)) <;> first | (with_reducible exact OrdAt.of (by kernel_rfl)) | exact True.intro | (with_reducible assumption) | omega | rfl | exact Nat.le_of_ble_eq_true rfl | (unfold inI; omega)))))
      refine CallE.flat (f12 _ hM (moreR s r m b) (moreM r m b) _ hM (moreR s r m b) (moreM r m b)) (by simp only [List.map_cons, List.map_nil, frz_hv, frz_sl]) rfl (by rfl) ?_
      repeat (first | simp only [go_sem, Nat.reduceLT, Nat.reduceEqDiff, reduceIte, Int.reduceEq, Int.reduceLE, Int.reduceLT, Nat.reduceMul, Nat.reduceAdd, Nat.reduceSub, Int.reduceNeg, Int.reduceAdd, Int.reduceMul, Int.reduceSub, Int.reduceToNat, Nat.reduceLeDiff, Nat.reduceDiv, Int.reduceDiv, reduceCtorEq, Option.some.injEq, exists_eq_left', hs_take hM, hs_d8 hM, hs_d9 hM, hs_len hM, hs_t10 hM, hs_take hs, hs_d8 hs, hs_d9 hs, hs_len hs, hs_t10 hs, splice_all, zh_eq, zh_len, zh_spl hM, List.length_map, List.length_replicate, hF, hFt, Nat.le_refl, eq_self, and_self, decide_true, exG_tt] | refine AW.seq ?_ | refine AW.block ?_ | refine AW.scope ?_ | refine AW.cond_tt rfl ?_ | refine AW.cond_ff rfl ?_ | refine AW.label ?_ | refine AW.skip ?_ | refine AW.ret ?_ | refine AW.exit ?_ | refine AW.region ?_ | refine AW.draw (by kernel_rfl) (by decide +kernel) ?_ | refine AW.drawN (by kernel_rfl) (by decide +kernel) ?_ | ((with_reducible refine And.intro ?_ ?_); (focus ((repeat' (with_reducible apply And.intro)) <;> first | (with_reducible exact OrdAt.of (by kernel_rfl)) | exact True.intro | (with_reducible assumption) | omega | rfl | exact Nat.le_of_ble_eq_true rfl | (unfold inI; omega)))))
      refine CallE.mem f13 rfl (by simp [bor]) (by rfl) ?_
      repeat (first | simp only [go_sem, Nat.reduceLT, Nat.reduceEqDiff, reduceIte, Int.reduceEq, Int.reduceLE, Int.reduceLT, Nat.reduceMul, Nat.reduceAdd, Nat.reduceSub, Int.reduceNeg, Int.reduceAdd, Int.reduceMul, Int.reduceSub, Int.reduceToNat, Nat.reduceLeDiff, Nat.reduceDiv, Int.reduceDiv, reduceCtorEq, Option.some.injEq, exists_eq_left', hs_take hM, hs_d8 hM, hs_d9 hM, hs_len hM, hs_t10 hM, hs_take hs, hs_d8 hs, hs_d9 hs, hs_len hs, hs_t10 hs, splice_all, zh_eq, zh_len, zh_spl hM, List.length_map, List.length_replicate, hF, hFt, Nat.le_refl, eq_self, and_self, decide_true, exG_tt] | refine AW.seq ?_ | refine AW.block ?_ | refine AW.scope ?_ | refine AW.cond_tt rfl ?_ | refine AW.cond_ff rfl ?_ | refine AW.label ?_ | refine AW.skip ?_ | refine AW.ret ?_ | refine AW.exit ?_ | refine AW.region ?_ | refine AW.draw (by kernel_rfl) (by decide +kernel) ?_ | refine AW.drawN (by kernel_rfl) (by decide +kernel) ?_ | ((with_reducible refine And.intro ?_ ?_); (focus ((repeat' (with_reducible apply And.intro)) <;> first | (with_reducible exact OrdAt.of (by kernel_rfl)) | exact True.intro | (with_reducible assumption) | omega | rfl | exact Nat.le_of_ble_eq_true rfl | (unfold inI; omega)))))
      refine CallE.mem f14 rfl (by simp [bor]) (by rfl) ?_
      repeat (first | simp only [go_sem, Nat.reduceLT, Nat.reduceEqDiff, reduceIte, Int.reduceEq, Int.reduceLE, Int.reduceLT, Nat.reduceMul, Nat.reduceAdd, Nat.reduceSub, Int.reduceNeg, Int.reduceAdd, Int.reduceMul, Int.reduceSub, Int.reduceToNat, Nat.reduceLeDiff, Nat.reduceDiv, Int.reduceDiv, reduceCtorEq, Option.some.injEq, exists_eq_left', hs_take hM, hs_d8 hM, hs_d9 hM, hs_len hM, hs_t10 hM, hs_take hs, hs_d8 hs, hs_d9 hs, hs_len hs, hs_t10 hs, splice_all, zh_eq, zh_len, zh_spl hM, List.length_map, List.length_replicate, hF, hFt, Nat.le_refl, eq_self, and_self, decide_true, exG_tt] | refine AW.seq ?_ | refine AW.block ?_ | refine AW.scope ?_ | refine AW.cond_tt rfl ?_ | refine AW.cond_ff rfl ?_ | refine AW.label ?_ | refine AW.skip ?_ | refine AW.ret ?_ | refine AW.exit ?_ | refine AW.region ?_ | refine AW.draw (by kernel_rfl) (by decide +kernel) ?_ | refine AW.drawN (by kernel_rfl) (by decide +kernel) ?_ | ((with_reducible refine And.intro ?_ ?_); (focus ((repeat' (with_reducible apply And.intro)) <;> first | (with_reducible exact OrdAt.of (by kernel_rfl)) | exact True.intro | (with_reducible assumption) | omega | rfl | exact Nat.le_of_ble_eq_true rfl | (unfold inI; omega)))))
      refine CallE.flat (f12 _ first_len [] 0 _ first_len [] 0) (by simp only [List.map_cons, List.map_nil, frz_hv, frz_sl]) rfl (by rfl) ?_
      repeat (first | simp only [go_sem, Nat.reduceLT, Nat.reduceEqDiff, reduceIte, Int.reduceEq, Int.reduceLE, Int.reduceLT, Nat.reduceMul, Nat.reduceAdd, Nat.reduceSub, Int.reduceNeg, Int.reduceAdd, Int.reduceMul, Int.reduceSub, Int.reduceToNat, Nat.reduceLeDiff, Nat.reduceDiv, Int.reduceDiv, reduceCtorEq, Option.some.injEq, exists_eq_left', hs_take hM, hs_d8 hM, hs_d9 hM, hs_len hM, hs_t10 hM, hs_take hs, hs_d8 hs, hs_d9 hs, hs_len hs, hs_t10 hs, splice_all, zh_eq, zh_len, zh_spl hM, List.length_map, List.length_replicate, hF, hFt, Nat.le_refl, eq_self, and_self, decide_true, exG_tt] | refine AW.seq ?_ | refine AW.block ?_ | refine AW.scope ?_ | refine AW.cond_tt rfl ?_ | refine AW.cond_ff rfl ?_ | refine AW.label ?_ | refine AW.skip ?_ | refine AW.ret ?_ | refine AW.exit ?_ | refine AW.region ?_ | refine AW.draw (by kernel_rfl) (by decide +kernel) ?_ | refine AW.drawN (by kernel_rfl) (by decide +kernel) ?_ | ((with_reducible refine And.intro ?_ ?_); (focus ((repeat' (with_reducible apply And.intro)) <;> first | (with_reducible exact OrdAt.of (by kernel_rfl)) | exact True.intro | (with_reducible assumption) | omega | rfl | exact Nat.le_of_ble_eq_true rfl | (unfold inI; omega)))))
      have hFm : ((finS s r m).map u8).length = 32 := by rw [List.length_map, hF]
      refine CallE.mem (f15 b hb) rfl (by simp [bor]) (by rfl) ?_
      repeat (first | simp only [go_sem, Nat.reduceLT, Nat.reduceEqDiff, reduceIte, Int.reduceEq, Int.reduceLE, Int.reduceLT, Nat.reduceMul, Nat.reduceAdd, Nat.reduceSub, Int.reduceNeg, Int.reduceAdd, Int.reduceMul, Int.reduceSub, Int.reduceToNat, Nat.reduceLeDiff, Nat.reduceDiv, Int.reduceDiv, reduceCtorEq, Option.some.injEq, exists_eq_left', eq_self, decide_true, exG_tt, aggEq_u8, intsOk_u8, hF, List.length_map] | refine AW.seq ?_ | refine AW.block ?_ | refine AW.scope ?_ | refine AW.cond_tt rfl ?_ | refine AW.cond_ff rfl ?_ | refine AW.label ?_ | refine AW.skip ?_ | refine AW.ret ?_ | refine AW.exit ?_ | refine AW.region ?_ | refine AW.draw (by kernel_rfl) (by decide +kernel) ?_ | refine AW.drawN (by kernel_rfl) (by decide +kernel) ?_ | ((with_reducible refine And.intro ?_ ?_); (focus ((repeat' (with_reducible apply And.intro)) <;> first | (with_reducible exact OrdAt.of (by kernel_rfl)) | exact True.intro | (with_reducible assumption) | omega | rfl | exact Nat.le_of_ble_eq_true rfl | (unfold inI; omega)))))
      refine CallE.mem (f16 b hb) rfl (by simp [bor]) (by rfl) ?_
      have hSl := sumOf_len b
      repeat (first | simp only [go_sem, Nat.reduceLT, Nat.reduceEqDiff, reduceIte, Int.reduceEq, Int.reduceLE, Int.reduceLT, Nat.reduceMul, Nat.reduceAdd, Nat.reduceSub, Int.reduceNeg, Int.reduceAdd, Int.reduceMul, Int.reduceSub, Int.reduceToNat, Nat.reduceLeDiff, Nat.reduceDiv, Int.reduceDiv, reduceCtorEq, Option.some.injEq, exists_eq_left', eq_self, decide_true, exG_tt, aggEq_u8, intsOk_u8, List.length_map, hSl] | refine AW.seq ?_ | refine AW.block ?_ | refine AW.scope ?_ | refine AW.cond_tt rfl ?_ | refine AW.cond_ff rfl ?_ | refine AW.label ?_ | refine AW.skip ?_ | refine AW.ret ?_ | refine AW.exit ?_ | refine AW.region ?_ | refine AW.draw (by kernel_rfl) (by decide +kernel) ?_ | refine AW.drawN (by kernel_rfl) (by decide +kernel) ?_ | ((with_reducible refine And.intro ?_ ?_); (focus ((repeat' (with_reducible apply And.intro)) <;> first | (with_reducible exact OrdAt.of (by kernel_rfl)) | exact True.intro | (with_reducible assumption) | omega | rfl | exact Nat.le_of_ble_eq_true rfl | (unfold inI; omega)))))
      exact Wk.refl _
  · repeat (first | simp only [go_sem, Nat.reduceLT, Nat.reduceEqDiff, reduceIte, Int.reduceEq, Int.reduceLE, Int.reduceLT, Nat.reduceMul, Nat.reduceAdd, Nat.reduceSub, Int.reduceNeg, Int.reduceAdd, Int.reduceMul, Int.reduceSub, Int.reduceToNat, Nat.reduceLeDiff, Nat.reduceDiv, Int.reduceDiv, reduceCtorEq, Option.some.injEq, exists_eq_left', hs_take hs, hs_d8 hs, hs_d9 hs, hs_len hs, hs_t10 hs] | refine AW.seq ?_ | refine AW.block ?_ | refine AW.scope ?_ | refine AW.cond_tt rfl ?_ | refine AW.cond_ff rfl ?_ | refine AW.label ?_ | refine AW.skip ?_ | refine AW.ret ?_ | refine AW.exit ?_ | refine AW.region ?_ | refine AW.draw (by kernel_rfl) (by decide +kernel) ?_ | refine AW.drawN (by kernel_rfl) (by decide +kernel) ?_ | ((with_reducible refine And.intro ?_ ?_); (focus ((repeat' (with_reducible apply And.intro)) <;> first | (with_reducible exact OrdAt.of (by kernel_rfl)) | exact True.intro | (with_reducible assumption) | omega | rfl | exact Nat.le_of_ble_eq_true rfl | (unfold inI; omega)))))
    exact Wk.refl _
end Go.Proofs.YtapjkdmdckfjbaaDoor

namespace Go.Proofs.YtapjkdmdckfjbaaDoor
open Go Go.Eng Go.Proofs
set_option maxRecDepth 100000
set_option maxHeartbeats 4000000
set_option linter.unusedSimpArgs false
set_option linter.unusedVariables false
theorem c8_0 (a : List UInt8) (h : a.length ≤ 500000) : AFun Tryd.prog 8 [.agg (hv shaFirst [] 0), .sl 1 (bys a) a.length none] (.tup [.agg (hv (hS a) (hR a) (hM a)), int 0]) := by
  have c1 := f8 shaFirst rfl [] (by simp) 0 a h
  rwa [more0_S, more0_R, more0_M, more0_E] at c1
theorem c8 (t b : List UInt8) (h : b.length ≤ 500000) : AFun Tryd.prog 8 [.agg (hv (hS t) (hR t) (hM t)), .sl 1 (bys b) b.length none] (.tup [.agg (hv (hS (t ++ b)) (hR (t ++ b)) (hM (t ++ b))), int 0]) := by
  have c1 := f8 (hS t) (hS_len t) (hR t) (by have := hR_lt t; omega) (hM t) b h
  rwa [more_S, more_R, more_M, more_E] at c1
theorem c10 (t : List UInt8) : AFun Tryd.prog 10 [.agg (hv (hS t) (hR t) (hM t))] (.tup [.agg ((sumOf t).map u8), int 0]) := by
  have c1 := f10 (hS t) (hS_len t) (hR t) (hM t)
  rwa [fin_sum, more_E] at c1
theorem f5 (a b : List UInt8) : AFun Tryd.prog 5 [.sl 1 (bys a) a.length none, .sl 1 (bys b) b.length none] (boo true) := by
  refine AFun.enterW Tryd.func5 rfl Tryd.call5 (by simp [Tryd.ntmps5]) fun γ1 => ?_
  simp only [frameOf, Tryd.ntmps5]
  repeat (first | simp only [go_sem, Nat.reduceLT, Nat.reduceEqDiff, reduceIte, Int.reduceEq, Int.reduceLE, Int.reduceLT, Nat.reduceMul, Nat.reduceAdd, Nat.reduceSub, Int.reduceNeg, Int.reduceAdd, Int.reduceMul, Int.reduceSub, Int.reduceToNat, Nat.reduceLeDiff, Nat.reduceDiv, Int.reduceDiv, reduceCtorEq, Option.some.injEq, exists_eq_left'] | refine AW.seq ?_ | refine AW.block ?_ | refine AW.scope ?_ | refine AW.cond_tt rfl ?_ | refine AW.cond_ff rfl ?_ | refine AW.label ?_ | refine AW.skip ?_ | refine AW.ret ?_ | refine AW.exit ?_ | refine AW.region ?_ | refine AW.draw (by kernel_rfl) (by decide +kernel) ?_ | refine AW.drawN (by kernel_rfl) (by decide +kernel) ?_ | ((with_reducible refine And.intro ?_ ?_); (focus ((repeat' (with_reducible apply And.intro)) <;> first | (with_reducible exact OrdAt.of (by kernel_rfl)) | exact True.intro | (with_reducible assumption) | omega | rfl | exact Nat.le_of_ble_eq_true rfl | (unfold inI; omega)))))
  refine CallE.flat f7 rfl rfl (by rfl) ?_
  repeat (first | simp only [go_sem, Nat.reduceLT, Nat.reduceEqDiff, reduceIte, Int.reduceEq, Int.reduceLE, Int.reduceLT, Nat.reduceMul, Nat.reduceAdd, Nat.reduceSub, Int.reduceNeg, Int.reduceAdd, Int.reduceMul, Int.reduceSub, Int.reduceToNat, Nat.reduceLeDiff, Nat.reduceDiv, Int.reduceDiv, reduceCtorEq, Option.some.injEq, exists_eq_left'] | refine AW.seq ?_ | refine AW.block ?_ | refine AW.scope ?_ | refine AW.cond_tt rfl ?_ | refine AW.cond_ff rfl ?_ | refine AW.label ?_ | refine AW.skip ?_ | refine AW.ret ?_ | refine AW.exit ?_ | refine AW.region ?_ | refine AW.draw (by kernel_rfl) (by decide +kernel) ?_ | refine AW.drawN (by kernel_rfl) (by decide +kernel) ?_ | ((with_reducible refine And.intro ?_ ?_); (focus ((repeat' (with_reducible apply And.intro)) <;> first | (with_reducible exact OrdAt.of (by kernel_rfl)) | exact True.intro | (with_reducible assumption) | omega | rfl | exact Nat.le_of_ble_eq_true rfl | (unfold inI; omega)))))
  refine exG_decf (fun h1 => ?_) (fun h1 => ?_)
  · repeat (first | simp only [go_sem, Nat.reduceLT, Nat.reduceEqDiff, reduceIte, Int.reduceEq, Int.reduceLE, Int.reduceLT, Nat.reduceMul, Nat.reduceAdd, Nat.reduceSub, Int.reduceNeg, Int.reduceAdd, Int.reduceMul, Int.reduceSub, Int.reduceToNat, Nat.reduceLeDiff, Nat.reduceDiv, Int.reduceDiv, reduceCtorEq, Option.some.injEq, exists_eq_left'] | refine AW.seq ?_ | refine AW.block ?_ | refine AW.scope ?_ | refine AW.cond_tt rfl ?_ | refine AW.cond_ff rfl ?_ | refine AW.label ?_ | refine AW.skip ?_ | refine AW.ret ?_ | refine AW.exit ?_ | refine AW.region ?_ | refine AW.draw (by kernel_rfl) (by decide +kernel) ?_ | refine AW.drawN (by kernel_rfl) (by decide +kernel) ?_ | ((with_reducible refine And.intro ?_ ?_); (focus ((repeat' (with_reducible apply And.intro)) <;> first | (with_reducible exact OrdAt.of (by kernel_rfl)) | exact True.intro | (with_reducible assumption) | omega | rfl | exact Nat.le_of_ble_eq_true rfl | (unfold inI; omega)))))
    refine AW.cond_dec rfl (fun h2 => ?_) (fun h2 => ?_)
    · repeat (first | simp only [go_sem, Nat.reduceLT, Nat.reduceEqDiff, reduceIte, Int.reduceEq, Int.reduceLE, Int.reduceLT, Nat.reduceMul, Nat.reduceAdd, Nat.reduceSub, Int.reduceNeg, Int.reduceAdd, Int.reduceMul, Int.reduceSub, Int.reduceToNat, Nat.reduceLeDiff, Nat.reduceDiv, Int.reduceDiv, reduceCtorEq, Option.some.injEq, exists_eq_left'] | refine AW.seq ?_ | refine AW.block ?_ | refine AW.scope ?_ | refine AW.cond_tt rfl ?_ | refine AW.cond_ff rfl ?_ | refine AW.label ?_ | refine AW.skip ?_ | refine AW.ret ?_ | refine AW.exit ?_ | refine AW.region ?_ | refine AW.draw (by kernel_rfl) (by decide +kernel) ?_ | refine AW.drawN (by kernel_rfl) (by decide +kernel) ?_ | ((with_reducible refine And.intro ?_ ?_); (focus ((repeat' (with_reducible apply And.intro)) <;> first | (with_reducible exact OrdAt.of (by kernel_rfl)) | exact True.intro | (with_reducible assumption) | omega | rfl | exact Nat.le_of_ble_eq_true rfl | (unfold inI; omega)))))
      exact Wk.refl _
    · have hb : b.length ≤ 500000 := by omega
      have ha : a.length ≤ 500000 := by omega
      have hab : (a ++ b).length ≤ 500000 := by rw [List.length_append]; omega
      have la := hS_len a
      have lab := hS_len (a ++ b)
      have em : ((a.length : Int).tmod 64) = ((a.length % 64 : Nat) : Int) := by rw [Int.tmod_eq_emod_of_nonneg (by omega)]; omega
      repeat (first | simp only [go_sem, Nat.reduceLT, Nat.reduceEqDiff, reduceIte, Int.reduceEq, Int.reduceLE, Int.reduceLT, Nat.reduceMul, Nat.reduceAdd, Nat.reduceSub, Int.reduceNeg, Int.reduceAdd, Int.reduceMul, Int.reduceSub, Int.reduceToNat, Nat.reduceLeDiff, Nat.reduceDiv, Int.reduceDiv, reduceCtorEq, Option.some.injEq, exists_eq_left'] | refine AW.seq ?_ | refine AW.block ?_ | refine AW.scope ?_ | refine AW.cond_tt rfl ?_ | refine AW.cond_ff rfl ?_ | refine AW.label ?_ | refine AW.skip ?_ | refine AW.ret ?_ | refine AW.exit ?_ | refine AW.region ?_ | refine AW.draw (by kernel_rfl) (by decide +kernel) ?_ | refine AW.drawN (by kernel_rfl) (by decide +kernel) ?_ | ((with_reducible refine And.intro ?_ ?_); (focus ((repeat' (with_reducible apply And.intro)) <;> first | (with_reducible exact OrdAt.of (by kernel_rfl)) | exact True.intro | (with_reducible assumption) | omega | rfl | exact Nat.le_of_ble_eq_true rfl | (unfold inI; omega)))))
      refine CallE.mem f13 rfl (by simp [bor]) (by rfl) ?_
      repeat (first | simp only [go_sem, Nat.reduceLT, Nat.reduceEqDiff, reduceIte, Int.reduceEq, Int.reduceLE, Int.reduceLT, Nat.reduceMul, Nat.reduceAdd, Nat.reduceSub, Int.reduceNeg, Int.reduceAdd, Int.reduceMul, Int.reduceSub, Int.reduceToNat, Nat.reduceLeDiff, Nat.reduceDiv, Int.reduceDiv, reduceCtorEq, Option.some.injEq, exists_eq_left'] | refine AW.seq ?_ | refine AW.block ?_ | refine AW.scope ?_ | refine AW.cond_tt rfl ?_ | refine AW.cond_ff rfl ?_ | refine AW.label ?_ | refine AW.skip ?_ | refine AW.ret ?_ | refine AW.exit ?_ | refine AW.region ?_ | refine AW.draw (by kernel_rfl) (by decide +kernel) ?_ | refine AW.drawN (by kernel_rfl) (by decide +kernel) ?_ | ((with_reducible refine And.intro ?_ ?_); (focus ((repeat' (with_reducible apply And.intro)) <;> first | (with_reducible exact OrdAt.of (by kernel_rfl)) | exact True.intro | (with_reducible assumption) | omega | rfl | exact Nat.le_of_ble_eq_true rfl | (unfold inI; omega)))))
      refine CallE.mem (c8_0 a ha) (by simp only [List.map_cons, List.map_nil, frz_hv, frz_sl]) (by simp [bor]) (by rfl) ?_
      repeat (first | simp only [go_sem, Nat.reduceLT, Nat.reduceEqDiff, reduceIte, Int.reduceEq, Int.reduceLE, Int.reduceLT, Nat.reduceMul, Nat.reduceAdd, Nat.reduceSub, Int.reduceNeg, Int.reduceAdd, Int.reduceMul, Int.reduceSub, Int.reduceToNat, Nat.reduceLeDiff, Nat.reduceDiv, Int.reduceDiv, reduceCtorEq, Option.some.injEq, exists_eq_left', hs_take la, hs_d8 la, hs_d9 la, hs_len la, hs_t10 la, zh_spl la, zh_eq, zh_len, List.length_map, em] | refine AW.seq ?_ | refine AW.block ?_ | refine AW.scope ?_ | refine AW.cond_tt rfl ?_ | refine AW.cond_ff rfl ?_ | refine AW.label ?_ | refine AW.skip ?_ | refine AW.ret ?_ | refine AW.exit ?_ | refine AW.region ?_ | refine AW.draw (by kernel_rfl) (by decide +kernel) ?_ | refine AW.drawN (by kernel_rfl) (by decide +kernel) ?_ | ((with_reducible refine And.intro ?_ ?_); (focus ((repeat' (with_reducible apply And.intro)) <;> first | (with_reducible exact OrdAt.of (by kernel_rfl)) | exact True.intro | (with_reducible assumption) | omega | rfl | exact Nat.le_of_ble_eq_true rfl | (unfold inI; omega)))))
      refine CallE.mem (c8 a b hb) (by simp only [List.map_cons, List.map_nil, frz_hv, frz_sl]) (by simp [bor]) (by rfl) ?_
      repeat (first | simp only [go_sem, Nat.reduceLT, Nat.reduceEqDiff, reduceIte, Int.reduceEq, Int.reduceLE, Int.reduceLT, Nat.reduceMul, Nat.reduceAdd, Nat.reduceSub, Int.reduceNeg, Int.reduceAdd, Int.reduceMul, Int.reduceSub, Int.reduceToNat, Nat.reduceLeDiff, Nat.reduceDiv, Int.reduceDiv, reduceCtorEq, Option.some.injEq, exists_eq_left', hs_take lab, hs_d8 lab, hs_d9 lab, hs_len lab, hs_t10 lab, zh_spl lab, zh_eq, zh_len, List.length_map] | refine AW.seq ?_ | refine AW.block ?_ | refine AW.scope ?_ | refine AW.cond_tt rfl ?_ | refine AW.cond_ff rfl ?_ | refine AW.label ?_ | refine AW.skip ?_ | refine AW.ret ?_ | refine AW.exit ?_ | refine AW.region ?_ | refine AW.draw (by kernel_rfl) (by decide +kernel) ?_ | refine AW.drawN (by kernel_rfl) (by decide +kernel) ?_ | ((with_reducible refine And.intro ?_ ?_); (focus ((repeat' (with_reducible apply And.intro)) <;> first | (with_reducible exact OrdAt.of (by kernel_rfl)) | exact True.intro | (with_reducible assumption) | omega | rfl | exact Nat.le_of_ble_eq_true rfl | (unfold inI; omega)))))
      refine CallE.mem f13 rfl (by simp [bor]) (by rfl) ?_
      repeat (first | simp only [go_sem, Nat.reduceLT, Nat.reduceEqDiff, reduceIte, Int.reduceEq, Int.reduceLE, Int.reduceLT, Nat.reduceMul, Nat.reduceAdd, Nat.reduceSub, Int.reduceNeg, Int.reduceAdd, Int.reduceMul, Int.reduceSub, Int.reduceToNat, Nat.reduceLeDiff, Nat.reduceDiv, Int.reduceDiv, reduceCtorEq, Option.some.injEq, exists_eq_left', bys_append] | refine AW.seq ?_ | refine AW.block ?_ | refine AW.scope ?_ | refine AW.cond_tt rfl ?_ | refine AW.cond_ff rfl ?_ | refine AW.label ?_ | refine AW.skip ?_ | refine AW.ret ?_ | refine AW.exit ?_ | refine AW.region ?_ | refine AW.draw (by kernel_rfl) (by decide +kernel) ?_ | refine AW.drawN (by kernel_rfl) (by decide +kernel) ?_ | ((with_reducible refine And.intro ?_ ?_); (focus ((repeat' (with_reducible apply And.intro)) <;> first | (with_reducible exact OrdAt.of (by kernel_rfl)) | exact True.intro | (with_reducible assumption) | omega | rfl | exact Nat.le_of_ble_eq_true rfl | (unfold inI; omega)))))
      have cab := c8_0 (a ++ b) hab
      rw [List.length_append] at cab
      refine CallE.mem cab (by simp only [List.map_cons, List.map_nil, frz_hv, frz_sl]) (by simp [bor]) (by rfl) ?_
      have e5 : ((a.length : Int) - ((a.length % 64 : Nat) : Int)).toNat = a.length - a.length % 64 := by omega
      have e6 : ((a.length : Int) - ((a.length : Int) - ((a.length % 64 : Nat) : Int))).toNat = a.length % 64 := by omega
      have e7 : (a.drop (a.length - a.length % 64)).take (a.length % 64) = hR a := by
        rw [hR_eq, List.take_of_length_le]; rw [List.length_drop]; omega
      repeat (first | simp only [go_sem, Nat.reduceLT, Nat.reduceEqDiff, reduceIte, Int.reduceEq, Int.reduceLE, Int.reduceLT, Nat.reduceMul, Nat.reduceAdd, Nat.reduceSub, Int.reduceNeg, Int.reduceAdd, Int.reduceMul, Int.reduceSub, Int.reduceToNat, Nat.reduceLeDiff, Nat.reduceDiv, Int.reduceDiv, reduceCtorEq, Option.some.injEq, exists_eq_left', hs_take lab, hs_d8 lab, hs_d9 lab, hs_len lab, hs_t10 lab, zh_spl lab, zh_eq, zh_len, List.length_map, hs_take la, hs_d8 la, hs_d9 la, hs_len la, hs_t10 la, bytesA_bys, bytesOk_bys, eq_self, decide_true, e5, e6, e7] | refine AW.seq ?_ | refine AW.block ?_ | refine AW.scope ?_ | refine AW.cond_tt rfl ?_ | refine AW.cond_ff rfl ?_ | refine AW.label ?_ | refine AW.skip ?_ | refine AW.ret ?_ | refine AW.exit ?_ | refine AW.region ?_ | refine AW.draw (by kernel_rfl) (by decide +kernel) ?_ | refine AW.drawN (by kernel_rfl) (by decide +kernel) ?_ | ((with_reducible refine And.intro ?_ ?_); (focus ((repeat' (with_reducible apply And.intro)) <;> first | (with_reducible exact OrdAt.of (by kernel_rfl)) | exact True.intro | (with_reducible assumption) | omega | rfl | exact Nat.le_of_ble_eq_true rfl | (unfold inI; omega)))))
      refine CallXE.flat (f12 _ lab (hR (a ++ b)) (hM (a ++ b)) _ lab (hR (a ++ b)) (hM (a ++ b))) (by simp only [List.map_cons, List.map_nil, frz_hv, frz_sl]) rfl (by rfl) ?_
      repeat (first | simp only [go_sem, Nat.reduceLT, Nat.reduceEqDiff, reduceIte, Int.reduceEq, Int.reduceLE, Int.reduceLT, Nat.reduceMul, Nat.reduceAdd, Nat.reduceSub, Int.reduceNeg, Int.reduceAdd, Int.reduceMul, Int.reduceSub, Int.reduceToNat, Nat.reduceLeDiff, Nat.reduceDiv, Int.reduceDiv, reduceCtorEq, Option.some.injEq, exists_eq_left', eq_self, and_self, decide_true] | refine AW.seq ?_ | refine AW.block ?_ | refine AW.scope ?_ | refine AW.cond_tt rfl ?_ | refine AW.cond_ff rfl ?_ | refine AW.label ?_ | refine AW.skip ?_ | refine AW.ret ?_ | refine AW.exit ?_ | refine AW.region ?_ | refine AW.draw (by kernel_rfl) (by decide +kernel) ?_ | refine AW.drawN (by kernel_rfl) (by decide +kernel) ?_ | ((with_reducible refine And.intro ?_ ?_); (focus ((repeat' (with_reducible apply And.intro)) <;> first | (with_reducible exact OrdAt.of (by kernel_rfl)) | exact True.intro | (with_reducible assumption) | omega | rfl | exact Nat.le_of_ble_eq_true rfl | (unfold inI; omega)))))
      exact Wk.refl _
  · repeat (first | simp only [go_sem, Nat.reduceLT, Nat.reduceEqDiff, reduceIte, Int.reduceEq, Int.reduceLE, Int.reduceLT, Nat.reduceMul, Nat.reduceAdd, Nat.reduceSub, Int.reduceNeg, Int.reduceAdd, Int.reduceMul, Int.reduceSub, Int.reduceToNat, Nat.reduceLeDiff, Nat.reduceDiv, Int.reduceDiv, reduceCtorEq, Option.some.injEq, exists_eq_left'] | refine AW.seq ?_ | refine AW.block ?_ | refine AW.scope ?_ | refine AW.cond_tt rfl ?_ | refine AW.cond_ff rfl ?_ | refine AW.label ?_ | refine AW.skip ?_ | refine AW.ret ?_ | refine AW.exit ?_ | refine AW.region ?_ | refine AW.draw (by kernel_rfl) (by decide +kernel) ?_ | refine AW.drawN (by kernel_rfl) (by decide +kernel) ?_ | ((with_reducible refine And.intro ?_ ?_); (focus ((repeat' (with_reducible apply And.intro)) <;> first | (with_reducible exact OrdAt.of (by kernel_rfl)) | exact True.intro | (with_reducible assumption) | omega | rfl | exact Nat.le_of_ble_eq_true rfl | (unfold inI; omega)))))
    exact Wk.refl _
end Go.Proofs.YtapjkdmdckfjbaaDoor

namespace Go.Proofs.YtapjkdmdckfjbaaDoor
open Go Go.Eng Go.Proofs
set_option maxRecDepth 100000
set_option maxHeartbeats 4000000
set_option linter.unusedSimpArgs false
set_option linter.unusedVariables false
theorem f6 (a b : List UInt8) : AFun Tryd.prog 6 [.sl 1 (bys a) a.length none, .sl 1 (bys b) b.length none] (boo true) := by
  refine AFun.enterW Tryd.func6 rfl Tryd.call6 (by simp [Tryd.ntmps6]) fun γ1 => ?_
  simp only [frameOf, Tryd.ntmps6]
  repeat (first | simp only [go_sem, Nat.reduceLT, Nat.reduceEqDiff, reduceIte, Int.reduceEq, Int.reduceLE, Int.reduceLT, Nat.reduceMul, Nat.reduceAdd, Nat.reduceSub, Int.reduceNeg, Int.reduceAdd, Int.reduceMul, Int.reduceSub, Int.reduceToNat, Nat.reduceLeDiff, Nat.reduceDiv, Int.reduceDiv, reduceCtorEq, Option.some.injEq, exists_eq_left'] | refine AW.seq ?_ | refine AW.block ?_ | refine AW.scope ?_ | refine AW.cond_tt rfl ?_ | refine AW.cond_ff rfl ?_ | refine AW.label ?_ | refine AW.skip ?_ | refine AW.ret ?_ | refine AW.exit ?_ | refine AW.region ?_ | refine AW.draw (by kernel_rfl) (by decide +kernel) ?_ | refine AW.drawN (by kernel_rfl) (by decide +kernel) ?_ | ((with_reducible refine And.intro ?_ ?_); (focus ((repeat' (with_reducible apply And.intro)) <;> first | (with_reducible exact OrdAt.of (by kernel_rfl)) | exact True.intro | (with_reducible assumption) | omega | rfl | exact Nat.le_of_ble_eq_true rfl | (unfold inI; omega)))))
  refine CallE.flat f7 rfl rfl (by rfl) ?_
  repeat (first | simp only [go_sem, Nat.reduceLT, Nat.reduceEqDiff, reduceIte, Int.reduceEq, Int.reduceLE, Int.reduceLT, Nat.reduceMul, Nat.reduceAdd, Nat.reduceSub, Int.reduceNeg, Int.reduceAdd, Int.reduceMul, Int.reduceSub, Int.reduceToNat, Nat.reduceLeDiff, Nat.reduceDiv, Int.reduceDiv, reduceCtorEq, Option.some.injEq, exists_eq_left'] | refine AW.seq ?_ | refine AW.block ?_ | refine AW.scope ?_ | refine AW.cond_tt rfl ?_ | refine AW.cond_ff rfl ?_ | refine AW.label ?_ | refine AW.skip ?_ | refine AW.ret ?_ | refine AW.exit ?_ | refine AW.region ?_ | refine AW.draw (by kernel_rfl) (by decide +kernel) ?_ | refine AW.drawN (by kernel_rfl) (by decide +kernel) ?_ | ((with_reducible refine And.intro ?_ ?_); (focus ((repeat' (with_reducible apply And.intro)) <;> first | (with_reducible exact OrdAt.of (by kernel_rfl)) | exact True.intro | (with_reducible assumption) | omega | rfl | exact Nat.le_of_ble_eq_true rfl | (unfold inI; omega)))))
  refine exG_decf (fun h1 => ?_) (fun h1 => ?_)
  · repeat (first | simp only [go_sem, Nat.reduceLT, Nat.reduceEqDiff, reduceIte, Int.reduceEq, Int.reduceLE, Int.reduceLT, Nat.reduceMul, Nat.reduceAdd, Nat.reduceSub, Int.reduceNeg, Int.reduceAdd, Int.reduceMul, Int.reduceSub, Int.reduceToNat, Nat.reduceLeDiff, Nat.reduceDiv, Int.reduceDiv, reduceCtorEq, Option.some.injEq, exists_eq_left'] | refine AW.seq ?_ | refine AW.block ?_ | refine AW.scope ?_ | refine AW.cond_tt rfl ?_ | refine AW.cond_ff rfl ?_ | refine AW.label ?_ | refine AW.skip ?_ | refine AW.ret ?_ | refine AW.exit ?_ | refine AW.region ?_ | refine AW.draw (by kernel_rfl) (by decide +kernel) ?_ | refine AW.drawN (by kernel_rfl) (by decide +kernel) ?_ | ((with_reducible refine And.intro ?_ ?_); (focus ((repeat' (with_reducible apply And.intro)) <;> first | (with_reducible exact OrdAt.of (by kernel_rfl)) | exact True.intro | (with_reducible assumption) | omega | rfl | exact Nat.le_of_ble_eq_true rfl | (unfold inI; omega)))))
    refine AW.cond_dec rfl (fun h2 => ?_) (fun h2 => ?_)
    · repeat (first | simp only [go_sem, Nat.reduceLT, Nat.reduceEqDiff, reduceIte, Int.reduceEq, Int.reduceLE, Int.reduceLT, Nat.reduceMul, Nat.reduceAdd, Nat.reduceSub, Int.reduceNeg, Int.reduceAdd, Int.reduceMul, Int.reduceSub, Int.reduceToNat, Nat.reduceLeDiff, Nat.reduceDiv, Int.reduceDiv, reduceCtorEq, Option.some.injEq, exists_eq_left'] | refine AW.seq ?_ | refine AW.block ?_ | refine AW.scope ?_ | refine AW.cond_tt rfl ?_ | refine AW.cond_ff rfl ?_ | refine AW.label ?_ | refine AW.skip ?_ | refine AW.ret ?_ | refine AW.exit ?_ | refine AW.region ?_ | refine AW.draw (by kernel_rfl) (by decide +kernel) ?_ | refine AW.drawN (by kernel_rfl) (by decide +kernel) ?_ | ((with_reducible refine And.intro ?_ ?_); (focus ((repeat' (with_reducible apply And.intro)) <;> first | (with_reducible exact OrdAt.of (by kernel_rfl)) | exact True.intro | (with_reducible assumption) | omega | rfl | exact Nat.le_of_ble_eq_true rfl | (unfold inI; omega)))))
      exact Wk.refl _
    · have hb : b.length ≤ 500000 := by omega
      have ha : a.length ≤ 500000 := by omega
      have hab : (a ++ b).length ≤ 500000 := by rw [List.length_append]; omega
      have la := hS_len a
      have lab := hS_len (a ++ b)
      have sa := sumOf_len a
      have sab := sumOf_len (a ++ b)
      have t1 : ((sumOf a).map u8).take 32 = (sumOf a).map u8 := List.take_of_length_le (by rw [List.length_map, sa]; exact Nat.le_refl _)
      have t2 : ((sumOf (a ++ b)).map u8).take 32 = (sumOf (a ++ b)).map u8 := List.take_of_length_le (by rw [List.length_map, sab]; exact Nat.le_refl _)
      repeat (first | simp only [go_sem, Nat.reduceLT, Nat.reduceEqDiff, reduceIte, Int.reduceEq, Int.reduceLE, Int.reduceLT, Nat.reduceMul, Nat.reduceAdd, Nat.reduceSub, Int.reduceNeg, Int.reduceAdd, Int.reduceMul, Int.reduceSub, Int.reduceToNat, Nat.reduceLeDiff, Nat.reduceDiv, Int.reduceDiv, reduceCtorEq, Option.some.injEq, exists_eq_left'] | refine AW.seq ?_ | refine AW.block ?_ | refine AW.scope ?_ | refine AW.cond_tt rfl ?_ | refine AW.cond_ff rfl ?_ | refine AW.label ?_ | refine AW.skip ?_ | refine AW.ret ?_ | refine AW.exit ?_ | refine AW.region ?_ | refine AW.draw (by kernel_rfl) (by decide +kernel) ?_ | refine AW.drawN (by kernel_rfl) (by decide +kernel) ?_ | ((with_reducible refine And.intro ?_ ?_); (focus ((repeat' (with_reducible apply And.intro)) <;> first | (with_reducible exact OrdAt.of (by kernel_rfl)) | exact True.intro | (with_reducible assumption) | omega | rfl | exact Nat.le_of_ble_eq_true rfl | (unfold inI; omega)))))
      refine CallE.mem f13 rfl (by simp [bor]) (by rfl) ?_
      repeat (first | simp only [go_sem, Nat.reduceLT, Nat.reduceEqDiff, reduceIte, Int.reduceEq, Int.reduceLE, Int.reduceLT, Nat.reduceMul, Nat.reduceAdd, Nat.reduceSub, Int.reduceNeg, Int.reduceAdd, Int.reduceMul, Int.reduceSub, Int.reduceToNat, Nat.reduceLeDiff, Nat.reduceDiv, Int.reduceDiv, reduceCtorEq, Option.some.injEq, exists_eq_left'] | refine AW.seq ?_ | refine AW.block ?_ | refine AW.scope ?_ | refine AW.cond_tt rfl ?_ | refine AW.cond_ff rfl ?_ | refine AW.label ?_ | refine AW.skip ?_ | refine AW.ret ?_ | refine AW.exit ?_ | refine AW.region ?_ | refine AW.draw (by kernel_rfl) (by decide +kernel) ?_ | refine AW.drawN (by kernel_rfl) (by decide +kernel) ?_ | ((with_reducible refine And.intro ?_ ?_); (focus ((repeat' (with_reducible apply And.intro)) <;> first | (with_reducible exact OrdAt.of (by kernel_rfl)) | exact True.intro | (with_reducible assumption) | omega | rfl | exact Nat.le_of_ble_eq_true rfl | (unfold inI; omega)))))
      refine CallE.mem (c8_0 a ha) (by simp only [List.map_cons, List.map_nil, frz_hv, frz_sl]) (by simp [bor]) (by rfl) ?_
      repeat (first | simp only [go_sem, Nat.reduceLT, Nat.reduceEqDiff, reduceIte, Int.reduceEq, Int.reduceLE, Int.reduceLT, Nat.reduceMul, Nat.reduceAdd, Nat.reduceSub, Int.reduceNeg, Int.reduceAdd, Int.reduceMul, Int.reduceSub, Int.reduceToNat, Nat.reduceLeDiff, Nat.reduceDiv, Int.reduceDiv, reduceCtorEq, Option.some.injEq, exists_eq_left', hs_take la, hs_d8 la, hs_d9 la, hs_len la, hs_t10 la, zh_spl la, zh_eq, zh_len, List.length_map] | refine AW.seq ?_ | refine AW.block ?_ | refine AW.scope ?_ | refine AW.cond_tt rfl ?_ | refine AW.cond_ff rfl ?_ | refine AW.label ?_ | refine AW.skip ?_ | refine AW.ret ?_ | refine AW.exit ?_ | refine AW.region ?_ | refine AW.draw (by kernel_rfl) (by decide +kernel) ?_ | refine AW.drawN (by kernel_rfl) (by decide +kernel) ?_ | ((with_reducible refine And.intro ?_ ?_); (focus ((repeat' (with_reducible apply And.intro)) <;> first | (with_reducible exact OrdAt.of (by kernel_rfl)) | exact True.intro | (with_reducible assumption) | omega | rfl | exact Nat.le_of_ble_eq_true rfl | (unfold inI; omega)))))
      refine CallE.mem (c10 a) (by simp only [List.map_cons, List.map_nil, frz_hv, frz_sl]) (by simp [bor]) (by rfl) ?_
      repeat (first | simp only [go_sem, Nat.reduceLT, Nat.reduceEqDiff, reduceIte, Int.reduceEq, Int.reduceLE, Int.reduceLT, Nat.reduceMul, Nat.reduceAdd, Nat.reduceSub, Int.reduceNeg, Int.reduceAdd, Int.reduceMul, Int.reduceSub, Int.reduceToNat, Nat.reduceLeDiff, Nat.reduceDiv, Int.reduceDiv, reduceCtorEq, Option.some.injEq, exists_eq_left', hs_take la, hs_d8 la, hs_d9 la, hs_len la, hs_t10 la, zh_spl la, zh_eq, zh_len, List.length_map, sa, t1, splice_all, List.length_replicate] | refine AW.seq ?_ | refine AW.block ?_ | refine AW.scope ?_ | refine AW.cond_tt rfl ?_ | refine AW.cond_ff rfl ?_ | refine AW.label ?_ | refine AW.skip ?_ | refine AW.ret ?_ | refine AW.exit ?_ | refine AW.region ?_ | refine AW.draw (by kernel_rfl) (by decide +kernel) ?_ | refine AW.drawN (by kernel_rfl) (by decide +kernel) ?_ | ((with_reducible refine And.intro ?_ ?_); (focus ((repeat' (with_reducible apply And.intro)) <;> first | (with_reducible exact OrdAt.of (by kernel_rfl)) | exact True.intro | (with_reducible assumption) | omega | rfl | exact Nat.le_of_ble_eq_true rfl | (unfold inI; omega)))))
      have cn := c8 a [] (by simp)
      rw [List.append_nil] at cn
      have hw : WkL [AV.agg (hv (hS a) (hR a) (hM a)), nilS] [AV.agg (hv (hS a) (hR a) (hM a)), .sl 1 (bys []) ([] : List UInt8).length none] := ⟨Wk.refl _, Wk.nil rfl rfl, trivial⟩
      refine CallE.memW cn (by simp only [List.map_cons, List.map_nil, frz_hv, frz_sl, frz_vv]; exact hw) (by simp [bor]) (by rfl) ?_
      repeat (first | simp only [go_sem, Nat.reduceLT, Nat.reduceEqDiff, reduceIte, Int.reduceEq, Int.reduceLE, Int.reduceLT, Nat.reduceMul, Nat.reduceAdd, Nat.reduceSub, Int.reduceNeg, Int.reduceAdd, Int.reduceMul, Int.reduceSub, Int.reduceToNat, Nat.reduceLeDiff, Nat.reduceDiv, Int.reduceDiv, reduceCtorEq, Option.some.injEq, exists_eq_left', hs_take la, hs_d8 la, hs_d9 la, hs_len la, hs_t10 la, zh_spl la, zh_eq, zh_len, List.length_map, sa, t1, splice_all, List.length_replicate] | refine AW.seq ?_ | refine AW.block ?_ | refine AW.scope ?_ | refine AW.cond_tt rfl ?_ | refine AW.cond_ff rfl ?_ | refine AW.label ?_ | refine AW.skip ?_ | refine AW.ret ?_ | refine AW.exit ?_ | refine AW.region ?_ | refine AW.draw (by kernel_rfl) (by decide +kernel) ?_ | refine AW.drawN (by kernel_rfl) (by decide +kernel) ?_ | ((with_reducible refine And.intro ?_ ?_); (focus ((repeat' (with_reducible apply And.intro)) <;> first | (with_reducible exact OrdAt.of (by kernel_rfl)) | exact True.intro | (with_reducible assumption) | omega | rfl | exact Nat.le_of_ble_eq_true rfl | (unfold inI; omega)))))
      refine CallE.mem (c8 a b hb) (by simp only [List.map_cons, List.map_nil, frz_hv, frz_sl]) (by simp [bor]) (by rfl) ?_
      repeat (first | simp only [go_sem, Nat.reduceLT, Nat.reduceEqDiff, reduceIte, Int.reduceEq, Int.reduceLE, Int.reduceLT, Nat.reduceMul, Nat.reduceAdd, Nat.reduceSub, Int.reduceNeg, Int.reduceAdd, Int.reduceMul, Int.reduceSub, Int.reduceToNat, Nat.reduceLeDiff, Nat.reduceDiv, Int.reduceDiv, reduceCtorEq, Option.some.injEq, exists_eq_left', hs_take lab, hs_d8 lab, hs_d9 lab, hs_len lab, hs_t10 lab, zh_spl lab, zh_eq, zh_len, List.length_map] | refine AW.seq ?_ | refine AW.block ?_ | refine AW.scope ?_ | refine AW.cond_tt rfl ?_ | refine AW.cond_ff rfl ?_ | refine AW.label ?_ | refine AW.skip ?_ | refine AW.ret ?_ | refine AW.exit ?_ | refine AW.region ?_ | refine AW.draw (by kernel_rfl) (by decide +kernel) ?_ | refine AW.drawN (by kernel_rfl) (by decide +kernel) ?_ | ((with_reducible refine And.intro ?_ ?_); (focus ((repeat' (with_reducible apply And.intro)) <;> first | (with_reducible exact OrdAt.of (by kernel_rfl)) | exact True.intro | (with_reducible assumption) | omega | rfl | exact Nat.le_of_ble_eq_true rfl | (unfold inI; omega)))))
      refine CallE.mem (c10 (a ++ b)) (by simp only [List.map_cons, List.map_nil, frz_hv, frz_sl]) (by simp [bor]) (by rfl) ?_
      repeat (first | simp only [go_sem, Nat.reduceLT, Nat.reduceEqDiff, reduceIte, Int.reduceEq, Int.reduceLE, Int.reduceLT, Nat.reduceMul, Nat.reduceAdd, Nat.reduceSub, Int.reduceNeg, Int.reduceAdd, Int.reduceMul, Int.reduceSub, Int.reduceToNat, Nat.reduceLeDiff, Nat.reduceDiv, Int.reduceDiv, reduceCtorEq, Option.some.injEq, exists_eq_left', hs_take la, hs_d8 la, hs_d9 la, hs_len la, hs_t10 la, zh_spl la, zh_eq, zh_len, List.length_map, sab, t2, splice_all, List.length_replicate] | refine AW.seq ?_ | refine AW.block ?_ | refine AW.scope ?_ | refine AW.cond_tt rfl ?_ | refine AW.cond_ff rfl ?_ | refine AW.label ?_ | refine AW.skip ?_ | refine AW.ret ?_ | refine AW.exit ?_ | refine AW.region ?_ | refine AW.draw (by kernel_rfl) (by decide +kernel) ?_ | refine AW.drawN (by kernel_rfl) (by decide +kernel) ?_ | ((with_reducible refine And.intro ?_ ?_); (focus ((repeat' (with_reducible apply And.intro)) <;> first | (with_reducible exact OrdAt.of (by kernel_rfl)) | exact True.intro | (with_reducible assumption) | omega | rfl | exact Nat.le_of_ble_eq_true rfl | (unfold inI; omega)))))
      refine CallE.flat (f12 _ la (hR a) (hM a) _ la (hR a) (hM a)) (by simp only [List.map_cons, List.map_nil, frz_hv, frz_sl]) rfl (by rfl) ?_
      repeat (first | simp only [go_sem, Nat.reduceLT, Nat.reduceEqDiff, reduceIte, Int.reduceEq, Int.reduceLE, Int.reduceLT, Nat.reduceMul, Nat.reduceAdd, Nat.reduceSub, Int.reduceNeg, Int.reduceAdd, Int.reduceMul, Int.reduceSub, Int.reduceToNat, Nat.reduceLeDiff, Nat.reduceDiv, Int.reduceDiv, reduceCtorEq, Option.some.injEq, exists_eq_left', eq_self, and_self, decide_true, sa, sab, List.length_map, aggEq_u8, intsOk_u8, t1, t2] | refine AW.seq ?_ | refine AW.block ?_ | refine AW.scope ?_ | refine AW.cond_tt rfl ?_ | refine AW.cond_ff rfl ?_ | refine AW.label ?_ | refine AW.skip ?_ | refine AW.ret ?_ | refine AW.exit ?_ | refine AW.region ?_ | refine AW.draw (by kernel_rfl) (by decide +kernel) ?_ | refine AW.drawN (by kernel_rfl) (by decide +kernel) ?_ | ((with_reducible refine And.intro ?_ ?_); (focus ((repeat' (with_reducible apply And.intro)) <;> first | (with_reducible exact OrdAt.of (by kernel_rfl)) | exact True.intro | (with_reducible assumption) | omega | rfl | exact Nat.le_of_ble_eq_true rfl | (unfold inI; omega)))))
      refine CallXE.mem (f15 a ha) rfl (by simp [bor]) (by rfl) ?_
      repeat (first | simp only [go_sem, Nat.reduceLT, Nat.reduceEqDiff, reduceIte, Int.reduceEq, Int.reduceLE, Int.reduceLT, Nat.reduceMul, Nat.reduceAdd, Nat.reduceSub, Int.reduceNeg, Int.reduceAdd, Int.reduceMul, Int.reduceSub, Int.reduceToNat, Nat.reduceLeDiff, Nat.reduceDiv, Int.reduceDiv, reduceCtorEq, Option.some.injEq, exists_eq_left', eq_self, and_self, decide_true, sa, sab, List.length_map, aggEq_u8, intsOk_u8, bys_append, t1, t2] | refine AW.seq ?_ | refine AW.block ?_ | refine AW.scope ?_ | refine AW.cond_tt rfl ?_ | refine AW.cond_ff rfl ?_ | refine AW.label ?_ | refine AW.skip ?_ | refine AW.ret ?_ | refine AW.exit ?_ | refine AW.region ?_ | refine AW.draw (by kernel_rfl) (by decide +kernel) ?_ | refine AW.drawN (by kernel_rfl) (by decide +kernel) ?_ | ((with_reducible refine And.intro ?_ ?_); (focus ((repeat' (with_reducible apply And.intro)) <;> first | (with_reducible exact OrdAt.of (by kernel_rfl)) | exact True.intro | (with_reducible assumption) | omega | rfl | exact Nat.le_of_ble_eq_true rfl | (unfold inI; omega)))))
      have cab := f15 (a ++ b) hab
      rw [List.length_append] at cab
      refine CallXE.mem cab rfl (by simp [bor]) (by rfl) ?_
      repeat (first | simp only [go_sem, Nat.reduceLT, Nat.reduceEqDiff, reduceIte, Int.reduceEq, Int.reduceLE, Int.reduceLT, Nat.reduceMul, Nat.reduceAdd, Nat.reduceSub, Int.reduceNeg, Int.reduceAdd, Int.reduceMul, Int.reduceSub, Int.reduceToNat, Nat.reduceLeDiff, Nat.reduceDiv, Int.reduceDiv, reduceCtorEq, Option.some.injEq, exists_eq_left', eq_self, and_self, decide_true, sa, sab, List.length_map, aggEq_u8, intsOk_u8, t1, t2] | refine AW.seq ?_ | refine AW.block ?_ | refine AW.scope ?_ | refine AW.cond_tt rfl ?_ | refine AW.cond_ff rfl ?_ | refine AW.label ?_ | refine AW.skip ?_ | refine AW.ret ?_ | refine AW.exit ?_ | refine AW.region ?_ | refine AW.draw (by kernel_rfl) (by decide +kernel) ?_ | refine AW.drawN (by kernel_rfl) (by decide +kernel) ?_ | ((with_reducible refine And.intro ?_ ?_); (focus ((repeat' (with_reducible apply And.intro)) <;> first | (with_reducible exact OrdAt.of (by kernel_rfl)) | exact True.intro | (with_reducible assumption) | omega | rfl | exact Nat.le_of_ble_eq_true rfl | (unfold inI; omega)))))
      exact Wk.refl _
  · repeat (first | simp only [go_sem, Nat.reduceLT, Nat.reduceEqDiff, reduceIte, Int.reduceEq, Int.reduceLE, Int.reduceLT, Nat.reduceMul, Nat.reduceAdd, Nat.reduceSub, Int.reduceNeg, Int.reduceAdd, Int.reduceMul, Int.reduceSub, Int.reduceToNat, Nat.reduceLeDiff, Nat.reduceDiv, Int.reduceDiv, reduceCtorEq, Option.some.injEq, exists_eq_left'] | refine AW.seq ?_ | refine AW.block ?_ | refine AW.scope ?_ | refine AW.cond_tt rfl ?_ | refine AW.cond_ff rfl ?_ | refine AW.label ?_ | refine AW.skip ?_ | refine AW.ret ?_ | refine AW.exit ?_ | refine AW.region ?_ | refine AW.draw (by kernel_rfl) (by decide +kernel) ?_ | refine AW.drawN (by kernel_rfl) (by decide +kernel) ?_ | ((with_reducible refine And.intro ?_ ?_); (focus ((repeat' (with_reducible apply And.intro)) <;> first | (with_reducible exact OrdAt.of (by kernel_rfl)) | exact True.intro | (with_reducible assumption) | omega | rfl | exact Nat.le_of_ble_eq_true rfl | (unfold inI; omega)))))
    exact Wk.refl _
end Go.Proofs.YtapjkdmdckfjbaaDoor

namespace Go.Proofs.YtapjkdmdckfjbaaDoor
open Go Go.Eng Go.Proofs
set_option maxRecDepth 100000
set_option maxHeartbeats 4000000
set_option linter.unusedSimpArgs false
set_option linter.unusedVariables false
attribute [local simp] labL_app renL_app
theorem row_u16 {l : List UInt16} {n : Nat} (h : n < l.length) : (List.drop n (l.map u16)).getD 0 .bad = u16 (l.getD n 0) := by
  simp [List.getD_eq_getElem?_getD, h]
theorem renL_mapu16 (σ : Nat → Nat) (b : List UInt16) : renL σ (b.map u16) = b.map u16 := renL_fix (by simp [ren])
theorem labL_mapu16 (n : Nat) (b : List UInt16) : labL n (b.map u16) = True := eq_true (labL_all (by simp [lab]))
theorem wrap_u16i (x : UInt16) : IntKind.i64.wrap (x.toNat : Int) = (x.toNat : Int) := wrapI _ (by have := x.toNat_lt; unfold inI; omega)
attribute [local simp] renL_mapu16 labL_mapu16
def st4 (b : List UInt8) (c : List UInt16) (i a : Nat) : S := ⟨[(9, int i), (8, int a), (7, .loc 0 0), (6, .v (.string ⟨b.toArray⟩)), (5, boo true), (1, .sl 1 (c.map u16) c.length none), (0, .sl 1 (bys b) b.length none)], 119, [(0, .box (hv (hS (b.take a)) (hR (b.take a)) (hM (b.take a))))], 1, []⟩
theorem f4 (b : List UInt8) (c : List UInt16) : AFun Tryd.prog 4 [.sl 1 (bys b) b.length none, .sl 1 (c.map u16) c.length none] (boo true) := by
  refine AFun.enterW Tryd.func4 rfl Tryd.call4 (by simp [Tryd.ntmps4]) fun γ1 => ?_
  simp only [frameOf, Tryd.ntmps4]
  repeat (first | simp only [go_sem, Nat.reduceLT, Nat.reduceEqDiff, reduceIte, Int.reduceEq, Int.reduceLE, Int.reduceLT, Nat.reduceMul, Nat.reduceAdd, Nat.reduceSub, Int.reduceNeg, Int.reduceAdd, Int.reduceMul, Int.reduceSub, Int.reduceToNat, Nat.reduceLeDiff, Nat.reduceDiv, Int.reduceDiv, reduceCtorEq, Option.some.injEq, exists_eq_left'] | refine AW.seq ?_ | refine AW.block ?_ | refine AW.scope ?_ | refine AW.cond_tt rfl ?_ | refine AW.cond_ff rfl ?_ | refine AW.label ?_ | refine AW.skip ?_ | refine AW.ret ?_ | refine AW.exit ?_ | refine AW.region ?_ | refine AW.draw (by kernel_rfl) (by decide +kernel) ?_ | refine AW.drawN (by kernel_rfl) (by decide +kernel) ?_ | ((with_reducible refine And.intro ?_ ?_); (focus ((repeat' (with_reducible apply And.intro)) <;> first | (with_reducible exact OrdAt.of (by kernel_rfl)) | exact True.intro | (with_reducible assumption) | omega | rfl | exact Nat.le_of_ble_eq_true rfl | (unfold inI; omega)))))
  refine CallE.flat f7 rfl rfl (by rfl) ?_
  repeat (first | simp only [go_sem, Nat.reduceLT, Nat.reduceEqDiff, reduceIte, Int.reduceEq, Int.reduceLE, Int.reduceLT, Nat.reduceMul, Nat.reduceAdd, Nat.reduceSub, Int.reduceNeg, Int.reduceAdd, Int.reduceMul, Int.reduceSub, Int.reduceToNat, Nat.reduceLeDiff, Nat.reduceDiv, Int.reduceDiv, reduceCtorEq, Option.some.injEq, exists_eq_left'] | refine AW.seq ?_ | refine AW.block ?_ | refine AW.scope ?_ | refine AW.cond_tt rfl ?_ | refine AW.cond_ff rfl ?_ | refine AW.label ?_ | refine AW.skip ?_ | refine AW.ret ?_ | refine AW.exit ?_ | refine AW.region ?_ | refine AW.draw (by kernel_rfl) (by decide +kernel) ?_ | refine AW.drawN (by kernel_rfl) (by decide +kernel) ?_ | ((with_reducible refine And.intro ?_ ?_); (focus ((repeat' (with_reducible apply And.intro)) <;> first | (with_reducible exact OrdAt.of (by kernel_rfl)) | exact True.intro | (with_reducible assumption) | omega | rfl | exact Nat.le_of_ble_eq_true rfl | (unfold inI; omega)))))
  refine AW.cond_dec rfl (fun h1 => ?_) (fun h1 => ?_)
  · repeat (first | simp only [go_sem, Nat.reduceLT, Nat.reduceEqDiff, reduceIte, Int.reduceEq, Int.reduceLE, Int.reduceLT, Nat.reduceMul, Nat.reduceAdd, Nat.reduceSub, Int.reduceNeg, Int.reduceAdd, Int.reduceMul, Int.reduceSub, Int.reduceToNat, Nat.reduceLeDiff, Nat.reduceDiv, Int.reduceDiv, reduceCtorEq, Option.some.injEq, exists_eq_left'] | refine AW.seq ?_ | refine AW.block ?_ | refine AW.scope ?_ | refine AW.cond_tt rfl ?_ | refine AW.cond_ff rfl ?_ | refine AW.label ?_ | refine AW.skip ?_ | refine AW.ret ?_ | refine AW.exit ?_ | refine AW.region ?_ | refine AW.draw (by kernel_rfl) (by decide +kernel) ?_ | refine AW.drawN (by kernel_rfl) (by decide +kernel) ?_ | ((with_reducible refine And.intro ?_ ?_); (focus ((repeat' (with_reducible apply And.intro)) <;> first | (with_reducible exact OrdAt.of (by kernel_rfl)) | exact True.intro | (with_reducible assumption) | omega | rfl | exact Nat.le_of_ble_eq_true rfl | (unfold inI; omega)))))
    exact Wk.refl _
  · have hb : b.length ≤ 500000 := by omega
    repeat (first | simp only [go_sem, Nat.reduceLT, Nat.reduceEqDiff, reduceIte, Int.reduceEq, Int.reduceLE, Int.reduceLT, Nat.reduceMul, Nat.reduceAdd, Nat.reduceSub, Int.reduceNeg, Int.reduceAdd, Int.reduceMul, Int.reduceSub, Int.reduceToNat, Nat.reduceLeDiff, Nat.reduceDiv, Int.reduceDiv, reduceCtorEq, Option.some.injEq, exists_eq_left', bytesA_bys, bytesOk_bys] | refine AW.seq ?_ | refine AW.block ?_ | refine AW.scope ?_ | refine AW.cond_tt rfl ?_ | refine AW.cond_ff rfl ?_ | refine AW.label ?_ | refine AW.skip ?_ | refine AW.ret ?_ | refine AW.exit ?_ | refine AW.region ?_ | refine AW.draw (by kernel_rfl) (by decide +kernel) ?_ | refine AW.drawN (by kernel_rfl) (by decide +kernel) ?_ | ((with_reducible refine And.intro ?_ ?_); (focus ((repeat' (with_reducible apply And.intro)) <;> first | (with_reducible exact OrdAt.of (by kernel_rfl)) | exact True.intro | (with_reducible assumption) | omega | rfl | exact Nat.le_of_ble_eq_true rfl | (unfold inI; omega)))))
    refine CallE.mem f13 rfl (by simp [bor]) (by rfl) ?_
    have hsf : splice (List.replicate 8 (u32 0) ++ [nilS] ++ [u64 0]) 0 (hv shaFirst [] 0) = hv (hS (b.take 0)) (hR (b.take 0)) (hM (b.take 0)) := by
      rw [List.take_zero, hS_nil, hR_nil, hM_nil]; rfl
    repeat (first | simp only [go_sem, Nat.reduceLT, Nat.reduceEqDiff, reduceIte, Int.reduceEq, Int.reduceLE, Int.reduceLT, Nat.reduceMul, Nat.reduceAdd, Nat.reduceSub, Int.reduceNeg, Int.reduceAdd, Int.reduceMul, Int.reduceSub, Int.reduceToNat, Nat.reduceLeDiff, Nat.reduceDiv, Int.reduceDiv, reduceCtorEq, Option.some.injEq, exists_eq_left'] | refine AW.seq ?_ | refine AW.block ?_ | refine AW.scope ?_ | refine AW.cond_tt rfl ?_ | refine AW.cond_ff rfl ?_ | refine AW.label ?_ | refine AW.skip ?_ | refine AW.ret ?_ | refine AW.exit ?_ | refine AW.region ?_ | refine AW.draw (by kernel_rfl) (by decide +kernel) ?_ | refine AW.drawN (by kernel_rfl) (by decide +kernel) ?_ | ((with_reducible refine And.intro ?_ ?_); (focus ((repeat' (with_reducible apply And.intro)) <;> first | (with_reducible exact OrdAt.of (by kernel_rfl)) | exact True.intro | (with_reducible assumption) | omega | rfl | exact Nat.le_of_ble_eq_true rfl | (unfold inI; omega)))))
    rw [hsf]
    refine AW.loop (fun s => ∃ i a : Nat, a ≤ b.length ∧ i ≤ c.length ∧ s = st4 b c i a) (fun s => (c.length - slotN s 9).toNat) (s0 := st4 b c 0 0) ?_ ⟨0, 0, by omega, by omega, rfl⟩ ?_
    · simp only [st4]
      exact (Sub.same (by first | exact Nat.zero_le _ | exact Nat.le_refl _ | decide | omega) rfl rfl (by simp) (by simp [lab, labL, ren, renL, look_cons, renL_bys, labL_bys, renL_mapu8, labL_mapu8, renL_mapu32, labL_mapu32]) (by simp [labO, renO, lab, labL, ren, renL, look_cons, renL_bys, labL_bys, renL_mapu8, labL_mapu8, renL_mapu32, labL_mapu32]))
    rintro s ⟨i, a, ha, hi, rfl⟩
    simp only [st4]
    repeat (first | simp only [go_sem, Nat.reduceLT, Nat.reduceEqDiff, reduceIte, Int.reduceEq, Int.reduceLE, Int.reduceLT, Nat.reduceMul, Nat.reduceAdd, Nat.reduceSub, Int.reduceNeg, Int.reduceAdd, Int.reduceMul, Int.reduceSub, Int.reduceToNat, Nat.reduceLeDiff, Nat.reduceDiv, Int.reduceDiv, reduceCtorEq, Option.some.injEq, exists_eq_left'] | refine AW.seq ?_ | refine AW.block ?_ | refine AW.scope ?_ | refine AW.cond_tt rfl ?_ | refine AW.cond_ff rfl ?_ | refine AW.label ?_ | refine AW.skip ?_ | refine AW.ret ?_ | refine AW.exit ?_ | refine AW.region ?_ | refine AW.draw (by kernel_rfl) (by decide +kernel) ?_ | refine AW.drawN (by kernel_rfl) (by decide +kernel) ?_ | ((with_reducible refine And.intro ?_ ?_); (focus ((repeat' (with_reducible apply And.intro)) <;> first | (with_reducible exact OrdAt.of (by kernel_rfl)) | exact True.intro | (with_reducible assumption) | omega | rfl | exact Nat.le_of_ble_eq_true rfl | (unfold inI; omega)))))
    have lb := hS_len b
    have sb := sumOf_len b
    have la := hS_len (b.take a)
    have t1 : ((sumOf b).map u8).take 32 = (sumOf b).map u8 := List.take_of_length_le (by rw [List.length_map, sb]; exact Nat.le_refl _)
    have e64 : ((b.length : Int) % 18446744073709551616) = ((hM b).toNat : Int) := by
      rw [hM, UInt64.toNat_ofNat']; omega
    have cT := c8 (b.take a) ((b.drop a).take (b.length - a)) (by rw [List.length_take]; omega)
    rw [List.take_of_length_le (l := b.drop a) (by rw [List.length_drop]; exact Nat.le_refl _), List.take_append_drop, List.length_drop] at cT
    have ea : ((b.length : Int) - (a : Int)).toNat = b.length - a := by omega
    have eb : (b.drop a).take (b.length - a) = b.drop a := List.take_of_length_le (by rw [List.length_drop]; exact Nat.le_refl _)
    refine exG_dec (fun h2 => ?_) (fun h2 => ?_)
    · repeat (first | simp only [go_sem, Nat.reduceLT, Nat.reduceEqDiff, reduceIte, Int.reduceEq, Int.reduceLE, Int.reduceLT, Nat.reduceMul, Nat.reduceAdd, Nat.reduceSub, Int.reduceNeg, Int.reduceAdd, Int.reduceMul, Int.reduceSub, Int.reduceToNat, Nat.reduceLeDiff, Nat.reduceDiv, Int.reduceDiv, reduceCtorEq, Option.some.injEq, exists_eq_left'] | refine AW.seq ?_ | refine AW.block ?_ | refine AW.scope ?_ | refine AW.cond_tt rfl ?_ | refine AW.cond_ff rfl ?_ | refine AW.label ?_ | refine AW.skip ?_ | refine AW.ret ?_ | refine AW.exit ?_ | refine AW.region ?_ | refine AW.draw (by kernel_rfl) (by decide +kernel) ?_ | refine AW.drawN (by kernel_rfl) (by decide +kernel) ?_ | ((with_reducible refine And.intro ?_ ?_); (focus ((repeat' (with_reducible apply And.intro)) <;> first | (with_reducible exact OrdAt.of (by kernel_rfl)) | exact True.intro | (with_reducible assumption) | omega | rfl | exact Nat.le_of_ble_eq_true rfl | (unfold inI; omega)))))
      refine AW.cond_dec rfl (fun h3 => ?_) (fun h3 => ?_)
      · have hic : i < c.length := by omega
        have h16 : (b.length : Int) - (a : Int) + 1 = ((b.length - a + 1 : Nat) : Int) := by omega
        have e1 : ((c.getD i 0).toNat : Int).tmod ((b.length - a + 1 : Nat) : Int) = (((c.getD i 0).toNat % (b.length - a + 1) : Nat) : Int) := by
          rw [Int.tmod_eq_emod_of_nonneg (by omega), Int.natCast_emod]
        have hk : (c.getD i 0).toNat % (b.length - a + 1) ≤ b.length - a := by
          have := Nat.mod_lt (c.getD i 0).toNat (show 0 < b.length - a + 1 by omega); omega
        have d1 : 1 ≤ (List.drop i (c.map u16)).length := by rw [List.length_drop, List.length_map]; omega
        generalize (c.getD i 0).toNat % (b.length - a + 1) = k at hk e1
        have e2 : ((a : Int) + (k : Int) - (a : Int)).toNat = k := by omega
        have cB := c8 (b.take a) ((b.drop a).take k) (by rw [List.length_take, List.length_drop]; omega)
        have e3 : b.take a ++ (b.drop a).take k = b.take (a + k) := by rw [List.take_add]
        have e4 : ((b.drop a).take k).length = k := by rw [List.length_take, List.length_drop]; omega
        rw [e3, e4] at cB
        have lk := hS_len (b.take (a + k))
        repeat (first | simp only [go_sem, Nat.reduceLT, Nat.reduceEqDiff, reduceIte, Int.reduceEq, Int.reduceLE, Int.reduceLT, Nat.reduceMul, Nat.reduceAdd, Nat.reduceSub, Int.reduceNeg, Int.reduceAdd, Int.reduceMul, Int.reduceSub, Int.reduceToNat, Nat.reduceLeDiff, Nat.reduceDiv, Int.reduceDiv, reduceCtorEq, Option.some.injEq, exists_eq_left', row_u16, hic, wrap_u16i, h16, e1, d1, e2, List.length_map, hs_take la, hs_d8 la, hs_d9 la, hs_len la, hs_t10 la] | refine AW.seq ?_ | refine AW.block ?_ | refine AW.scope ?_ | refine AW.cond_tt rfl ?_ | refine AW.cond_ff rfl ?_ | refine AW.label ?_ | refine AW.skip ?_ | refine AW.ret ?_ | refine AW.exit ?_ | refine AW.region ?_ | refine AW.draw (by kernel_rfl) (by decide +kernel) ?_ | refine AW.drawN (by kernel_rfl) (by decide +kernel) ?_ | ((with_reducible refine And.intro ?_ ?_); (focus ((repeat' (with_reducible apply And.intro)) <;> first | (with_reducible exact OrdAt.of (by kernel_rfl)) | exact True.intro | (with_reducible assumption) | omega | rfl | exact Nat.le_of_ble_eq_true rfl | (unfold inI; omega)))))
        refine CallXE.mem cB (by simp only [List.map_cons, List.map_nil, frz_hv, frz_sl]) (by simp [bor]) (by rfl) ?_
        repeat (first | simp only [go_sem, Nat.reduceLT, Nat.reduceEqDiff, reduceIte, Int.reduceEq, Int.reduceLE, Int.reduceLT, Nat.reduceMul, Nat.reduceAdd, Nat.reduceSub, Int.reduceNeg, Int.reduceAdd, Int.reduceMul, Int.reduceSub, Int.reduceToNat, Nat.reduceLeDiff, Nat.reduceDiv, Int.reduceDiv, reduceCtorEq, Option.some.injEq, exists_eq_left', hs_take lk, hs_d8 lk, hs_d9 lk, hs_len lk, hs_t10 lk, zh_spl lk, zh_eq, zh_len, hs_take la, hs_d8 la, hs_d9 la, hs_len la, hs_t10 la, splice_all] | refine AW.seq ?_ | refine AW.block ?_ | refine AW.scope ?_ | refine AW.cond_tt rfl ?_ | refine AW.cond_ff rfl ?_ | refine AW.label ?_ | refine AW.skip ?_ | refine AW.ret ?_ | refine AW.exit ?_ | refine AW.region ?_ | refine AW.draw (by kernel_rfl) (by decide +kernel) ?_ | refine AW.drawN (by kernel_rfl) (by decide +kernel) ?_ | ((with_reducible refine And.intro ?_ ?_); (focus ((repeat' (with_reducible apply And.intro)) <;> first | (with_reducible exact OrdAt.of (by kernel_rfl)) | exact True.intro | (with_reducible assumption) | omega | rfl | exact Nat.le_of_ble_eq_true rfl | (unfold inI; omega)))))
        rw [Qof_lp]
        refine ⟨st4 b c (i + 1) (a + k), ?_, ⟨i + 1, a + k, by omega, by omega, rfl⟩, ?_⟩
        · simp only [st4]
          exact (Sub.same (by first | exact Nat.zero_le _ | exact Nat.le_refl _ | decide | omega) rfl rfl (by simp) (by simp [lab, labL, ren, renL, look_cons, renL_bys, labL_bys, renL_mapu8, labL_mapu8, renL_mapu32, labL_mapu32]) (by simp [labO, renO, lab, labL, ren, renL, look_cons, renL_bys, labL_bys, renL_mapu8, labL_mapu8, renL_mapu32, labL_mapu32]))
        · simp [slotN, st4, look_cons]; omega
      · repeat (first | simp only [go_sem, Nat.reduceLT, Nat.reduceEqDiff, reduceIte, Int.reduceEq, Int.reduceLE, Int.reduceLT, Nat.reduceMul, Nat.reduceAdd, Nat.reduceSub, Int.reduceNeg, Int.reduceAdd, Int.reduceMul, Int.reduceSub, Int.reduceToNat, Nat.reduceLeDiff, Nat.reduceDiv, Int.reduceDiv, reduceCtorEq, Option.some.injEq, exists_eq_left', hs_take la, hs_d8 la, hs_d9 la, hs_len la, hs_t10 la, ea, eb] | refine AW.seq ?_ | refine AW.block ?_ | refine AW.scope ?_ | refine AW.cond_tt rfl ?_ | refine AW.cond_ff rfl ?_ | refine AW.label ?_ | refine AW.skip ?_ | refine AW.ret ?_ | refine AW.exit ?_ | refine AW.region ?_ | refine AW.draw (by kernel_rfl) (by decide +kernel) ?_ | refine AW.drawN (by kernel_rfl) (by decide +kernel) ?_ | ((with_reducible refine And.intro ?_ ?_); (focus ((repeat' (with_reducible apply And.intro)) <;> first | (with_reducible exact OrdAt.of (by kernel_rfl)) | exact True.intro | (with_reducible assumption) | omega | rfl | exact Nat.le_of_ble_eq_true rfl | (unfold inI; omega)))))
        refine CallXE.mem cT (by simp only [List.map_cons, List.map_nil, frz_hv, frz_sl]) (by simp [bor]) (by rfl) ?_
        repeat (first | simp only [go_sem, Nat.reduceLT, Nat.reduceEqDiff, reduceIte, Int.reduceEq, Int.reduceLE, Int.reduceLT, Nat.reduceMul, Nat.reduceAdd, Nat.reduceSub, Int.reduceNeg, Int.reduceAdd, Int.reduceMul, Int.reduceSub, Int.reduceToNat, Nat.reduceLeDiff, Nat.reduceDiv, Int.reduceDiv, reduceCtorEq, Option.some.injEq, exists_eq_left', hs_take lb, hs_d8 lb, hs_d9 lb, hs_len lb, hs_t10 lb, zh_spl lb, zh_eq, zh_len, List.length_map] | refine AW.seq ?_ | refine AW.block ?_ | refine AW.scope ?_ | refine AW.cond_tt rfl ?_ | refine AW.cond_ff rfl ?_ | refine AW.label ?_ | refine AW.skip ?_ | refine AW.ret ?_ | refine AW.exit ?_ | refine AW.region ?_ | refine AW.draw (by kernel_rfl) (by decide +kernel) ?_ | refine AW.drawN (by kernel_rfl) (by decide +kernel) ?_ | ((with_reducible refine And.intro ?_ ?_); (focus ((repeat' (with_reducible apply And.intro)) <;> first | (with_reducible exact OrdAt.of (by kernel_rfl)) | exact True.intro | (with_reducible assumption) | omega | rfl | exact Nat.le_of_ble_eq_true rfl | (unfold inI; omega)))))
        refine CallE.mem (c10 b) (by simp only [List.map_cons, List.map_nil, frz_hv, frz_sl]) (by simp [bor]) (by rfl) ?_
        repeat (first | simp only [go_sem, Nat.reduceLT, Nat.reduceEqDiff, reduceIte, Int.reduceEq, Int.reduceLE, Int.reduceLT, Nat.reduceMul, Nat.reduceAdd, Nat.reduceSub, Int.reduceNeg, Int.reduceAdd, Int.reduceMul, Int.reduceSub, Int.reduceToNat, Nat.reduceLeDiff, Nat.reduceDiv, Int.reduceDiv, reduceCtorEq, Option.some.injEq, exists_eq_left', hs_take lb, hs_d8 lb, hs_d9 lb, hs_len lb, hs_t10 lb, zh_spl lb, zh_eq, zh_len, List.length_map, sb, t1, splice_all, List.length_replicate] | refine AW.seq ?_ | refine AW.block ?_ | refine AW.scope ?_ | refine AW.cond_tt rfl ?_ | refine AW.cond_ff rfl ?_ | refine AW.label ?_ | refine AW.skip ?_ | refine AW.ret ?_ | refine AW.exit ?_ | refine AW.region ?_ | refine AW.draw (by kernel_rfl) (by decide +kernel) ?_ | refine AW.drawN (by kernel_rfl) (by decide +kernel) ?_ | ((with_reducible refine And.intro ?_ ?_); (focus ((repeat' (with_reducible apply And.intro)) <;> first | (with_reducible exact OrdAt.of (by kernel_rfl)) | exact True.intro | (with_reducible assumption) | omega | rfl | exact Nat.le_of_ble_eq_true rfl | (unfold inI; omega)))))
        refine CallE.mem (c10 b) (by simp only [List.map_cons, List.map_nil, frz_hv, frz_sl]) (by simp [bor]) (by rfl) ?_
        repeat (first | simp only [go_sem, Nat.reduceLT, Nat.reduceEqDiff, reduceIte, Int.reduceEq, Int.reduceLE, Int.reduceLT, Nat.reduceMul, Nat.reduceAdd, Nat.reduceSub, Int.reduceNeg, Int.reduceAdd, Int.reduceMul, Int.reduceSub, Int.reduceToNat, Nat.reduceLeDiff, Nat.reduceDiv, Int.reduceDiv, reduceCtorEq, Option.some.injEq, exists_eq_left', hs_take lb, hs_d8 lb, hs_d9 lb, hs_len lb, hs_t10 lb, zh_spl lb, zh_eq, zh_len, List.length_map, sb, t1, splice_all, List.length_replicate, eq_self, and_self, decide_true, aggEq_u8, intsOk_u8] | refine AW.seq ?_ | refine AW.block ?_ | refine AW.scope ?_ | refine AW.cond_tt rfl ?_ | refine AW.cond_ff rfl ?_ | refine AW.label ?_ | refine AW.skip ?_ | refine AW.ret ?_ | refine AW.exit ?_ | refine AW.region ?_ | refine AW.draw (by kernel_rfl) (by decide +kernel) ?_ | refine AW.drawN (by kernel_rfl) (by decide +kernel) ?_ | ((with_reducible refine And.intro ?_ ?_); (focus ((repeat' (with_reducible apply And.intro)) <;> first | (with_reducible exact OrdAt.of (by kernel_rfl)) | exact True.intro | (with_reducible assumption) | omega | rfl | exact Nat.le_of_ble_eq_true rfl | (unfold inI; omega)))))
        refine CallXE.mem (f15 b hb) rfl (by simp [bor]) (by rfl) ?_
        repeat (first | simp only [go_sem, Nat.reduceLT, Nat.reduceEqDiff, reduceIte, Int.reduceEq, Int.reduceLE, Int.reduceLT, Nat.reduceMul, Nat.reduceAdd, Nat.reduceSub, Int.reduceNeg, Int.reduceAdd, Int.reduceMul, Int.reduceSub, Int.reduceToNat, Nat.reduceLeDiff, Nat.reduceDiv, Int.reduceDiv, reduceCtorEq, Option.some.injEq, exists_eq_left', hs_take lb, hs_d8 lb, hs_d9 lb, hs_len lb, hs_t10 lb, zh_eq, List.length_map, sb, t1, eq_self, and_self, decide_true, aggEq_u8, intsOk_u8, bytesA_bys, bytesOk_bys, e64] | refine AW.seq ?_ | refine AW.block ?_ | refine AW.scope ?_ | refine AW.cond_tt rfl ?_ | refine AW.cond_ff rfl ?_ | refine AW.label ?_ | refine AW.skip ?_ | refine AW.ret ?_ | refine AW.exit ?_ | refine AW.region ?_ | refine AW.draw (by kernel_rfl) (by decide +kernel) ?_ | refine AW.drawN (by kernel_rfl) (by decide +kernel) ?_ | ((with_reducible refine And.intro ?_ ?_); (focus ((repeat' (with_reducible apply And.intro)) <;> first | (with_reducible exact OrdAt.of (by kernel_rfl)) | exact True.intro | (with_reducible assumption) | omega | rfl | exact Nat.le_of_ble_eq_true rfl | (unfold inI; omega)))))
        exact Wk.refl _
    · repeat (first | simp only [go_sem, Nat.reduceLT, Nat.reduceEqDiff, reduceIte, Int.reduceEq, Int.reduceLE, Int.reduceLT, Nat.reduceMul, Nat.reduceAdd, Nat.reduceSub, Int.reduceNeg, Int.reduceAdd, Int.reduceMul, Int.reduceSub, Int.reduceToNat, Nat.reduceLeDiff, Nat.reduceDiv, Int.reduceDiv, reduceCtorEq, Option.some.injEq, exists_eq_left', hs_take la, hs_d8 la, hs_d9 la, hs_len la, hs_t10 la, ea, eb] | refine AW.seq ?_ | refine AW.block ?_ | refine AW.scope ?_ | refine AW.cond_tt rfl ?_ | refine AW.cond_ff rfl ?_ | refine AW.label ?_ | refine AW.skip ?_ | refine AW.ret ?_ | refine AW.exit ?_ | refine AW.region ?_ | refine AW.draw (by kernel_rfl) (by decide +kernel) ?_ | refine AW.drawN (by kernel_rfl) (by decide +kernel) ?_ | ((with_reducible refine And.intro ?_ ?_); (focus ((repeat' (with_reducible apply And.intro)) <;> first | (with_reducible exact OrdAt.of (by kernel_rfl)) | exact True.intro | (with_reducible assumption) | omega | rfl | exact Nat.le_of_ble_eq_true rfl | (unfold inI; omega)))))
      refine CallXE.mem cT (by simp only [List.map_cons, List.map_nil, frz_hv, frz_sl]) (by simp [bor]) (by rfl) ?_
      repeat (first | simp only [go_sem, Nat.reduceLT, Nat.reduceEqDiff, reduceIte, Int.reduceEq, Int.reduceLE, Int.reduceLT, Nat.reduceMul, Nat.reduceAdd, Nat.reduceSub, Int.reduceNeg, Int.reduceAdd, Int.reduceMul, Int.reduceSub, Int.reduceToNat, Nat.reduceLeDiff, Nat.reduceDiv, Int.reduceDiv, reduceCtorEq, Option.some.injEq, exists_eq_left', hs_take lb, hs_d8 lb, hs_d9 lb, hs_len lb, hs_t10 lb, zh_spl lb, zh_eq, zh_len, List.length_map] | refine AW.seq ?_ | refine AW.block ?_ | refine AW.scope ?_ | refine AW.cond_tt rfl ?_ | refine AW.cond_ff rfl ?_ | refine AW.label ?_ | refine AW.skip ?_ | refine AW.ret ?_ | refine AW.exit ?_ | refine AW.region ?_ | refine AW.draw (by kernel_rfl) (by decide +kernel) ?_ | refine AW.drawN (by kernel_rfl) (by decide +kernel) ?_ | ((with_reducible refine And.intro ?_ ?_); (focus ((repeat' (with_reducible apply And.intro)) <;> first | (with_reducible exact OrdAt.of (by kernel_rfl)) | exact True.intro | (with_reducible assumption) | omega | rfl | exact Nat.le_of_ble_eq_true rfl | (unfold inI; omega)))))
      refine CallE.mem (c10 b) (by simp only [List.map_cons, List.map_nil, frz_hv, frz_sl]) (by simp [bor]) (by rfl) ?_
      repeat (first | simp only [go_sem, Nat.reduceLT, Nat.reduceEqDiff, reduceIte, Int.reduceEq, Int.reduceLE, Int.reduceLT, Nat.reduceMul, Nat.reduceAdd, Nat.reduceSub, Int.reduceNeg, Int.reduceAdd, Int.reduceMul, Int.reduceSub, Int.reduceToNat, Nat.reduceLeDiff, Nat.reduceDiv, Int.reduceDiv, reduceCtorEq, Option.some.injEq, exists_eq_left', hs_take lb, hs_d8 lb, hs_d9 lb, hs_len lb, hs_t10 lb, zh_spl lb, zh_eq, zh_len, List.length_map, sb, t1, splice_all, List.length_replicate] | refine AW.seq ?_ | refine AW.block ?_ | refine AW.scope ?_ | refine AW.cond_tt rfl ?_ | refine AW.cond_ff rfl ?_ | refine AW.label ?_ | refine AW.skip ?_ | refine AW.ret ?_ | refine AW.exit ?_ | refine AW.region ?_ | refine AW.draw (by kernel_rfl) (by decide +kernel) ?_ | refine AW.drawN (by kernel_rfl) (by decide +kernel) ?_ | ((with_reducible refine And.intro ?_ ?_); (focus ((repeat' (with_reducible apply And.intro)) <;> first | (with_reducible exact OrdAt.of (by kernel_rfl)) | exact True.intro | (with_reducible assumption) | omega | rfl | exact Nat.le_of_ble_eq_true rfl | (unfold inI; omega)))))
      refine CallE.mem (c10 b) (by simp only [List.map_cons, List.map_nil, frz_hv, frz_sl]) (by simp [bor]) (by rfl) ?_
      repeat (first | simp only [go_sem, Nat.reduceLT, Nat.reduceEqDiff, reduceIte, Int.reduceEq, Int.reduceLE, Int.reduceLT, Nat.reduceMul, Nat.reduceAdd, Nat.reduceSub, Int.reduceNeg, Int.reduceAdd, Int.reduceMul, Int.reduceSub, Int.reduceToNat, Nat.reduceLeDiff, Nat.reduceDiv, Int.reduceDiv, reduceCtorEq, Option.some.injEq, exists_eq_left', hs_take lb, hs_d8 lb, hs_d9 lb, hs_len lb, hs_t10 lb, zh_spl lb, zh_eq, zh_len, List.length_map, sb, t1, splice_all, List.length_replicate, eq_self, and_self, decide_true, aggEq_u8, intsOk_u8] | refine AW.seq ?_ | refine AW.block ?_ | refine AW.scope ?_ | refine AW.cond_tt rfl ?_ | refine AW.cond_ff rfl ?_ | refine AW.label ?_ | refine AW.skip ?_ | refine AW.ret ?_ | refine AW.exit ?_ | refine AW.region ?_ | refine AW.draw (by kernel_rfl) (by decide +kernel) ?_ | refine AW.drawN (by kernel_rfl) (by decide +kernel) ?_ | ((with_reducible refine And.intro ?_ ?_); (focus ((repeat' (with_reducible apply And.intro)) <;> first | (with_reducible exact OrdAt.of (by kernel_rfl)) | exact True.intro | (with_reducible assumption) | omega | rfl | exact Nat.le_of_ble_eq_true rfl | (unfold inI; omega)))))
      refine CallXE.mem (f15 b hb) rfl (by simp [bor]) (by rfl) ?_
      repeat (first | simp only [go_sem, Nat.reduceLT, Nat.reduceEqDiff, reduceIte, Int.reduceEq, Int.reduceLE, Int.reduceLT, Nat.reduceMul, Nat.reduceAdd, Nat.reduceSub, Int.reduceNeg, Int.reduceAdd, Int.reduceMul, Int.reduceSub, Int.reduceToNat, Nat.reduceLeDiff, Nat.reduceDiv, Int.reduceDiv, reduceCtorEq, Option.some.injEq, exists_eq_left', hs_take lb, hs_d8 lb, hs_d9 lb, hs_len lb, hs_t10 lb, zh_eq, List.length_map, sb, t1, eq_self, and_self, decide_true, aggEq_u8, intsOk_u8, bytesA_bys, bytesOk_bys, e64] | refine AW.seq ?_ | refine AW.block ?_ | refine AW.scope ?_ | refine AW.cond_tt rfl ?_ | refine AW.cond_ff rfl ?_ | refine AW.label ?_ | refine AW.skip ?_ | refine AW.ret ?_ | refine AW.exit ?_ | refine AW.region ?_ | refine AW.draw (by kernel_rfl) (by decide +kernel) ?_ | refine AW.drawN (by kernel_rfl) (by decide +kernel) ?_ | ((with_reducible refine And.intro ?_ ?_); (focus ((repeat' (with_reducible apply And.intro)) <;> first | (with_reducible exact OrdAt.of (by kernel_rfl)) | exact True.intro | (with_reducible assumption) | omega | rfl | exact Nat.le_of_ble_eq_true rfl | (unfold inI; omega)))))
      exact Wk.refl _
end Go.Proofs.YtapjkdmdckfjbaaDoor

namespace Go.Proofs.YtapjkdmdckfjbaaDoor
open Go Go.Eng Go.ChangeShapes Go.WideShapes Go.ChangeAt Go.RowKit
set_option linter.unusedVariables false
set_option maxRecDepth 100000
theorem seat_own : ownKnob Tryd.prog.godebug = none := by kernel_rfl
theorem seat_laidOut : laidOutB Tryd.prog = true := by kernel_rfl
def seat_laid : List (String × DataW Unit) := Rows.shaTellsRow.laid
theorem seat_door (os : Os) (args : Array Value) : laidMetH Tryd.prog seat_laid ((World.doorLaid Tryd.prog 400 os).forCall (fun _ _ => 0) ⟨#[], args, []⟩).memory :=
  laidMetH_of_parts3 (fuel := 8) (laidMet_of_run' 8 (by kernel_rfl) (by kernel_rfl)) (by kernel_rfl) (by kernel_rfl)
theorem first_named : Tryd.prog.globalNamed (seat_laid.map (·.1))[0]! = some 0 := by kernel_rfl
theorem constants_named : Tryd.prog.globalNamed (seat_laid.map (·.1))[1]! = some 1 := by kernel_rfl
theorem first_type : (Tryd.prog.globals[0]?).map (·.type) = some 23 := by kernel_rfl
theorem constants_type : (Tryd.prog.globals[1]?).map (·.type) = some 52 := by kernel_rfl
def firstI : List Int := shaFirst.map fun x => (x.toNat : Int)
def constI : List Int := shaK.map fun x => (x.toNat : Int)
theorem first_datum : (Rows.laid_yashmak_sha_first : DataW Unit) = .agg (firstI.map fun x => .lit (.int .u32 x)) := by kernel_rfl
theorem const_datum : (Rows.laid_yashmak_sha_constants : DataW Unit) = .agg (constI.map fun x => .lit (.int .u32 x)) := by kernel_rfl
theorem seat_gok {W : World} (h : laidMetH Tryd.prog seat_laid W) : GOK (γW W) := by
  rw [MakeChecks.laidMetH_plain _ _ _ (by kernel_rfl)] at h
  obtain ⟨ps, ⟨g0, t0, cs0, f0, p0, q0, hg0, ht0, hv0, hd0, ⟨g1, t1, cs1, f1, p1, q1, hg1, ht1, hv1, hd1, _, _⟩, _⟩, _, _⟩ := h
  obtain rfl := Option.some.inj (first_named.symm.trans hg0)
  obtain rfl := Option.some.inj (constants_named.symm.trans hg1)
  obtain rfl := Option.some.inj (first_type.symm.trans ht0)
  obtain rfl := Option.some.inj (constants_type.symm.trans ht1)
  rw [first_datum] at hd0
  rw [const_datum] at hd1
  have c0 := laid_ints Tryd.underlying23 Tryd.underlying22 Tryd.csz22 Tryd.csz23 hd0
  have c1 := laid_ints Tryd.underlying52 Tryd.underlying22 Tryd.csz22 Tryd.csz52 hd1
  have g0 := gok_one (fun i => World.var?_cell hg0 hv0 i) c0 (by decide)
  have g1 := gok_one (fun i => World.var?_cell hg1 hv1 i) c1 (by decide)
  intro g cs hg
  match g, hg with
  | 0, hg => cases hg; exact g0
  | 1, hg => cases hg; exact g1
  | _ + 2, hg => cases hg
end Go.Proofs.YtapjkdmdckfjbaaDoor
