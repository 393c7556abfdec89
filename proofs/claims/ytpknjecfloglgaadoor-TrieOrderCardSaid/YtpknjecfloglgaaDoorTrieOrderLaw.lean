/- The law, walked; conditions on lengths alone. -/
import Derived.Test.YtpknjecfloglgaaDoorTrieOrderTrieC
set_option linter.unusedVariables false
set_option linter.unusedSimpArgs false
namespace Go.Proofs.YtpknjecfloglgaaDoor
open Go Go.Eng Go.Proofs
set_option maxRecDepth 100000
set_option maxHeartbeats 1000000
set_option linter.unusedSimpArgs false
set_option linter.unusedVariables false
theorem rootT_len (l : List Lf) : (rootV tS l).length = 32 := by unfold rootV; split; exact tS_len _ _; rfl
end Go.Proofs.YtpknjecfloglgaaDoor

namespace Go.Proofs.YtpknjecfloglgaaDoor
open Go Go.Eng Go.Proofs
set_option maxRecDepth 100000
set_option maxHeartbeats 1000000
set_option linter.unusedSimpArgs false
set_option linter.unusedVariables false
theorem tpG_ok : ∀ {more d d' : List Lf}, tpG d more = .ok d' → all64 d → all64 more → all64 d' ∧ d'.length = d.length + more.length ∧ (Srt d → Srt d') ∧ (∀ x, x ∈ d' ↔ x ∈ d ∨ x ∈ more)
  | [], d, d', h, hd, _ => by
    simp only [tpG, Except.ok.injEq] at h
    subst h
    exact ⟨hd, by simp, fun h => h, fun x => by simp⟩
  | x :: r, d, d', h, hd, hm => by
    simp only [tpG] at h
    split at h
    · cases h
    · split at h
      · cases h
      · rename_i hf _
        have hf' : findB d (key x) = false := by simpa using hf
        obtain ⟨a, b, c, e⟩ := tpG_ok h (insK_64 hd (hm x (by simp))) (fun y hy => hm y (List.mem_cons_of_mem _ hy))
        refine ⟨a, by rw [b, insK_len, List.length_cons]; omega, fun hs => c (insK_srt hs hf'), fun y => ?_⟩
        rw [e y, insK_eq, List.mem_append, List.mem_cons, List.mem_cons]
        have hs := List.takeWhile_append_dropWhile (p := fun z => decide (cmpK z (key x) < 0)) (l := d)
        have : y ∈ d ↔ y ∈ d.takeWhile (fun z => decide (cmpK z (key x) < 0)) ∨ y ∈ d.dropWhile (fun z => decide (cmpK z (key x) < 0)) := by
          rw [← List.mem_append, hs]
        rw [this]
        constructor
        · rintro ((h | h | h) | h)
          · exact .inl (.inl h)
          · exact .inr (.inl h)
          · exact .inl (.inr h)
          · exact .inr (.inr h)
        · rintro ((h | h) | (h | h))
          · exact .inl (.inl h)
          · exact .inl (.inr (.inr h))
          · exact .inl (.inr (.inl h))
          · exact .inr h
theorem tpD_64 {l more : List Lf} (hl : all64 l) (hm : all64 more) : all64 (tpD l more) := by
  unfold tpD
  split
  · cases h : tpG l more with
    | ok d => exact (tpG_ok h hl hm).1
    | error e => exact hl
  · exact hl
theorem tpD_len {l more : List Lf} (hl : all64 l) (hm : all64 more) : (tpD l more).length ≤ l.length + more.length := by
  unfold tpD
  split
  · cases h : tpG l more with
    | ok d => exact Nat.le_of_eq (tpG_ok h hl hm).2.1
    | error e => simp
  · simp
theorem f3 (l more : List Lf) (hl : all64 l) (hm : all64 more) (k : List UInt8) (hk : k.length = 32) : AFun Tryd.prog 3 [lsl l, lsl more, .agg (k.map u8)] (boo true) := by
  refine AFun.enterW Tryd.func3 rfl Tryd.call3 (by simp [Tryd.ntmps3]) fun γ1 => ?_
  simp only [frameOf, Tryd.ntmps3]
  repeat (first | simp only [go_sem, Nat.reduceLT, Nat.reduceEqDiff, reduceIte, Int.reduceEq, Int.reduceLE, Int.reduceLT, Nat.reduceMul, Nat.reduceAdd, Nat.reduceSub, Int.reduceNeg, Int.reduceAdd, Int.reduceMul, Int.reduceSub, Int.reduceToNat, Nat.reduceLeDiff, Nat.reduceDiv, Int.reduceDiv, reduceCtorEq, Option.some.injEq, exists_eq_left', List.length_map, List.length_set, List.length_replicate, List.length_drop, List.length_take, List.length_append, List.drop_zero, List.take_of_length_le, Nat.le_refl, Nat.sub_zero, splice_all, row_u8, splice_u8, wrap_u64c, hk] | refine AW.seq ?_ | refine AW.block ?_ | refine AW.scope ?_ | refine AW.cond_tt rfl ?_ | refine AW.cond_ff rfl ?_ | refine AW.label ?_ | refine AW.skip ?_ | refine AW.ret ?_ | refine AW.exit ?_ | refine AW.region ?_ | refine AW.draw (by kernel_rfl) (by decide +kernel) ?_ | refine AW.drawN (by kernel_rfl) (by decide +kernel) ?_ | ((with_reducible refine And.intro ?_ ?_); (focus ((repeat' (with_reducible apply And.intro)) <;> first | (with_reducible exact OrdAt.of (by kernel_rfl)) | (with_reducible exact OrdT.of (by kernel_rfl)) | exact True.intro | (with_reducible assumption) | omega | rfl | exact Nat.le_of_ble_eq_true rfl | exact Or.inl trivial | (unfold inI; omega)))))
  (first | refine CallE.flat (f8) (by first | rfl | (simp only [List.map_cons, List.map_nil, frz_sl, frz_agg8, frz_agb, frz_agg32, frz_vv, frz_hv]; done) | (simp only [List.map_cons, List.map_nil, frz_sl, frz_agg8, frz_agb, frz_agg32, frz_vv, frz_hv]; rfl)) (by rfl) (by rfl) ?_ | refine CallXE.flat (f8) (by first | rfl | (simp only [List.map_cons, List.map_nil, frz_sl, frz_agg8, frz_agb, frz_agg32, frz_vv, frz_hv]; done) | (simp only [List.map_cons, List.map_nil, frz_sl, frz_agg8, frz_agb, frz_agg32, frz_vv, frz_hv]; rfl)) (by rfl) (by rfl) ?_)
  repeat (first | simp only [go_sem, Nat.reduceLT, Nat.reduceEqDiff, reduceIte, Int.reduceEq, Int.reduceLE, Int.reduceLT, Nat.reduceMul, Nat.reduceAdd, Nat.reduceSub, Int.reduceNeg, Int.reduceAdd, Int.reduceMul, Int.reduceSub, Int.reduceToNat, Nat.reduceLeDiff, Nat.reduceDiv, Int.reduceDiv, reduceCtorEq, Option.some.injEq, exists_eq_left', List.length_map, List.length_set, List.length_replicate, List.length_drop, List.length_take, List.length_append, List.drop_zero, List.take_of_length_le, Nat.le_refl, Nat.sub_zero, splice_all, row_u8, splice_u8, wrap_u64c, hk] | refine AW.seq ?_ | refine AW.block ?_ | refine AW.scope ?_ | refine AW.cond_tt rfl ?_ | refine AW.cond_ff rfl ?_ | refine AW.label ?_ | refine AW.skip ?_ | refine AW.ret ?_ | refine AW.exit ?_ | refine AW.region ?_ | refine AW.draw (by kernel_rfl) (by decide +kernel) ?_ | refine AW.drawN (by kernel_rfl) (by decide +kernel) ?_ | ((with_reducible refine And.intro ?_ ?_); (focus ((repeat' (with_reducible apply And.intro)) <;> first | (with_reducible exact OrdAt.of (by kernel_rfl)) | (with_reducible exact OrdT.of (by kernel_rfl)) | exact True.intro | (with_reducible assumption) | omega | rfl | exact Nat.le_of_ble_eq_true rfl | exact Or.inl trivial | (unfold inI; omega)))))
  refine exG_decf (fun h1 => ?_) (fun h1 => ?_)
  · repeat (first | simp only [go_sem, Nat.reduceLT, Nat.reduceEqDiff, reduceIte, Int.reduceEq, Int.reduceLE, Int.reduceLT, Nat.reduceMul, Nat.reduceAdd, Nat.reduceSub, Int.reduceNeg, Int.reduceAdd, Int.reduceMul, Int.reduceSub, Int.reduceToNat, Nat.reduceLeDiff, Nat.reduceDiv, Int.reduceDiv, reduceCtorEq, Option.some.injEq, exists_eq_left'] | refine AW.seq ?_ | refine AW.block ?_ | refine AW.scope ?_ | refine AW.cond_tt rfl ?_ | refine AW.cond_ff rfl ?_ | refine AW.label ?_ | refine AW.skip ?_ | refine AW.ret ?_ | refine AW.exit ?_ | refine AW.region ?_ | refine AW.draw (by kernel_rfl) (by decide +kernel) ?_ | refine AW.drawN (by kernel_rfl) (by decide +kernel) ?_ | ((with_reducible refine And.intro ?_ ?_); (focus ((repeat' (with_reducible apply And.intro)) <;> first | (with_reducible exact OrdAt.of (by kernel_rfl)) | (with_reducible exact OrdT.of (by kernel_rfl)) | exact True.intro | (with_reducible assumption) | omega | rfl | exact Nat.le_of_ble_eq_true rfl | exact Or.inl trivial | (unfold inI; omega)))))
    refine AW.cond_dec rfl (fun h2 => ?_) (fun h2 => ?_)
    · repeat (first | simp only [go_sem, Nat.reduceLT, Nat.reduceEqDiff, reduceIte, Int.reduceEq, Int.reduceLE, Int.reduceLT, Nat.reduceMul, Nat.reduceAdd, Nat.reduceSub, Int.reduceNeg, Int.reduceAdd, Int.reduceMul, Int.reduceSub, Int.reduceToNat, Nat.reduceLeDiff, Nat.reduceDiv, Int.reduceDiv, reduceCtorEq, Option.some.injEq, exists_eq_left'] | refine AW.seq ?_ | refine AW.block ?_ | refine AW.scope ?_ | refine AW.cond_tt rfl ?_ | refine AW.cond_ff rfl ?_ | refine AW.label ?_ | refine AW.skip ?_ | refine AW.ret ?_ | refine AW.exit ?_ | refine AW.region ?_ | refine AW.draw (by kernel_rfl) (by decide +kernel) ?_ | refine AW.drawN (by kernel_rfl) (by decide +kernel) ?_ | ((with_reducible refine And.intro ?_ ?_); (focus ((repeat' (with_reducible apply And.intro)) <;> first | (with_reducible exact OrdAt.of (by kernel_rfl)) | (with_reducible exact OrdT.of (by kernel_rfl)) | exact True.intro | (with_reducible assumption) | omega | rfl | exact Nat.le_of_ble_eq_true rfl | exact Or.inl trivial | (unfold inI; omega)))))
      exact Wk.refl _
    have c1 := f9 l more hl hm (by omega) (by omega)
    have c2 := f10 l more hl hm (by omega) (by omega)
    have c3 := f11 l hl (by omega) k hk
    have c4 := f12 l hl (by omega) k hk
    have hx := tpD_64 hl hm
    have hxl := tpD_len hl hm
    have c5 := f13 (tpD l more) (tpD l more) hx hx (by omega)
    have c6 := f14 l hl (by omega)
    have c7 := f15 l hl (by omega)
    have hfv := findV_len hl k
    repeat (first | simp only [go_sem, Nat.reduceLT, Nat.reduceEqDiff, reduceIte, Int.reduceEq, Int.reduceLE, Int.reduceLT, Nat.reduceMul, Nat.reduceAdd, Nat.reduceSub, Int.reduceNeg, Int.reduceAdd, Int.reduceMul, Int.reduceSub, Int.reduceToNat, Nat.reduceLeDiff, Nat.reduceDiv, Int.reduceDiv, reduceCtorEq, Option.some.injEq, exists_eq_left', List.length_map, List.length_set, List.length_replicate, List.length_drop, List.length_take, List.length_append, List.drop_zero, List.take_of_length_le, Nat.le_refl, Nat.sub_zero, splice_all, row_u8, splice_u8, wrap_u64c, hk, hfv, aggEq_u8, intsOk_u8, eq_self, decide_true, drG_tt, exG_tt, beq_self_eq_true, true_and, and_true, Option.isSome_some, z32_map, spl32 (b := z32) hfv rfl] | refine AW.seq ?_ | refine AW.block ?_ | refine AW.scope ?_ | refine AW.cond_tt rfl ?_ | refine AW.cond_ff rfl ?_ | refine AW.label ?_ | refine AW.skip ?_ | refine AW.ret ?_ | refine AW.exit ?_ | refine AW.region ?_ | refine AW.draw (by kernel_rfl) (by decide +kernel) ?_ | refine AW.drawN (by kernel_rfl) (by decide +kernel) ?_ | ((with_reducible refine And.intro ?_ ?_); (focus ((repeat' (with_reducible apply And.intro)) <;> first | (with_reducible exact OrdAt.of (by kernel_rfl)) | (with_reducible exact OrdT.of (by kernel_rfl)) | exact True.intro | (with_reducible assumption) | omega | rfl | exact Nat.le_of_ble_eq_true rfl | exact Or.inl trivial | (unfold inI; omega)))))
    (first | refine CallE.mem (c1) (by first | rfl | (simp only [List.map_cons, List.map_nil, frz_sl, frz_agg8, frz_agb, frz_agg32, frz_vv, frz_hv]; done) | (simp only [List.map_cons, List.map_nil, frz_sl, frz_agg8, frz_agb, frz_agg32, frz_vv, frz_hv]; rfl)) (by simp [bor, look_cons, isBox]) (by rfl) ?_ | refine CallXE.mem (c1) (by first | rfl | (simp only [List.map_cons, List.map_nil, frz_sl, frz_agg8, frz_agb, frz_agg32, frz_vv, frz_hv]; done) | (simp only [List.map_cons, List.map_nil, frz_sl, frz_agg8, frz_agb, frz_agg32, frz_vv, frz_hv]; rfl)) (by simp [bor, look_cons, isBox]) (by rfl) ?_)
    repeat (first | simp only [go_sem, Nat.reduceLT, Nat.reduceEqDiff, reduceIte, Int.reduceEq, Int.reduceLE, Int.reduceLT, Nat.reduceMul, Nat.reduceAdd, Nat.reduceSub, Int.reduceNeg, Int.reduceAdd, Int.reduceMul, Int.reduceSub, Int.reduceToNat, Nat.reduceLeDiff, Nat.reduceDiv, Int.reduceDiv, reduceCtorEq, Option.some.injEq, exists_eq_left', List.length_map, List.length_set, List.length_replicate, List.length_drop, List.length_take, List.length_append, List.drop_zero, List.take_of_length_le, Nat.le_refl, Nat.sub_zero, splice_all, row_u8, splice_u8, wrap_u64c, hk, hfv, aggEq_u8, intsOk_u8, eq_self, decide_true, drG_tt, exG_tt, beq_self_eq_true, true_and, and_true, Option.isSome_some, z32_map, spl32 (b := z32) hfv rfl] | refine AW.seq ?_ | refine AW.block ?_ | refine AW.scope ?_ | refine AW.cond_tt rfl ?_ | refine AW.cond_ff rfl ?_ | refine AW.label ?_ | refine AW.skip ?_ | refine AW.ret ?_ | refine AW.exit ?_ | refine AW.region ?_ | refine AW.draw (by kernel_rfl) (by decide +kernel) ?_ | refine AW.drawN (by kernel_rfl) (by decide +kernel) ?_ | ((with_reducible refine And.intro ?_ ?_); (focus ((repeat' (with_reducible apply And.intro)) <;> first | (with_reducible exact OrdAt.of (by kernel_rfl)) | (with_reducible exact OrdT.of (by kernel_rfl)) | exact True.intro | (with_reducible assumption) | omega | rfl | exact Nat.le_of_ble_eq_true rfl | exact Or.inl trivial | (unfold inI; omega)))))
    (first | refine CallE.mem (c2) (by first | rfl | (simp only [List.map_cons, List.map_nil, frz_sl, frz_agg8, frz_agb, frz_agg32, frz_vv, frz_hv]; done) | (simp only [List.map_cons, List.map_nil, frz_sl, frz_agg8, frz_agb, frz_agg32, frz_vv, frz_hv]; rfl)) (by simp [bor, look_cons, isBox]) (by rfl) ?_ | refine CallXE.mem (c2) (by first | rfl | (simp only [List.map_cons, List.map_nil, frz_sl, frz_agg8, frz_agb, frz_agg32, frz_vv, frz_hv]; done) | (simp only [List.map_cons, List.map_nil, frz_sl, frz_agg8, frz_agb, frz_agg32, frz_vv, frz_hv]; rfl)) (by simp [bor, look_cons, isBox]) (by rfl) ?_)
    repeat (first | simp only [go_sem, Nat.reduceLT, Nat.reduceEqDiff, reduceIte, Int.reduceEq, Int.reduceLE, Int.reduceLT, Nat.reduceMul, Nat.reduceAdd, Nat.reduceSub, Int.reduceNeg, Int.reduceAdd, Int.reduceMul, Int.reduceSub, Int.reduceToNat, Nat.reduceLeDiff, Nat.reduceDiv, Int.reduceDiv, reduceCtorEq, Option.some.injEq, exists_eq_left', List.length_map, List.length_set, List.length_replicate, List.length_drop, List.length_take, List.length_append, List.drop_zero, List.take_of_length_le, Nat.le_refl, Nat.sub_zero, splice_all, row_u8, splice_u8, wrap_u64c, hk, hfv, aggEq_u8, intsOk_u8, eq_self, decide_true, drG_tt, exG_tt, beq_self_eq_true, true_and, and_true, Option.isSome_some, z32_map, spl32 (b := z32) hfv rfl] | refine AW.seq ?_ | refine AW.block ?_ | refine AW.scope ?_ | refine AW.cond_tt rfl ?_ | refine AW.cond_ff rfl ?_ | refine AW.label ?_ | refine AW.skip ?_ | refine AW.ret ?_ | refine AW.exit ?_ | refine AW.region ?_ | refine AW.draw (by kernel_rfl) (by decide +kernel) ?_ | refine AW.drawN (by kernel_rfl) (by decide +kernel) ?_ | ((with_reducible refine And.intro ?_ ?_); (focus ((repeat' (with_reducible apply And.intro)) <;> first | (with_reducible exact OrdAt.of (by kernel_rfl)) | (with_reducible exact OrdT.of (by kernel_rfl)) | exact True.intro | (with_reducible assumption) | omega | rfl | exact Nat.le_of_ble_eq_true rfl | exact Or.inl trivial | (unfold inI; omega)))))
    (first | refine CallE.mem (c3) (by first | rfl | (simp only [List.map_cons, List.map_nil, frz_sl, frz_agg8, frz_agb, frz_agg32, frz_vv, frz_hv]; done) | (simp only [List.map_cons, List.map_nil, frz_sl, frz_agg8, frz_agb, frz_agg32, frz_vv, frz_hv]; rfl)) (by simp [bor, look_cons, isBox]) (by rfl) ?_ | refine CallXE.mem (c3) (by first | rfl | (simp only [List.map_cons, List.map_nil, frz_sl, frz_agg8, frz_agb, frz_agg32, frz_vv, frz_hv]; done) | (simp only [List.map_cons, List.map_nil, frz_sl, frz_agg8, frz_agb, frz_agg32, frz_vv, frz_hv]; rfl)) (by simp [bor, look_cons, isBox]) (by rfl) ?_)
    repeat (first | simp only [go_sem, Nat.reduceLT, Nat.reduceEqDiff, reduceIte, Int.reduceEq, Int.reduceLE, Int.reduceLT, Nat.reduceMul, Nat.reduceAdd, Nat.reduceSub, Int.reduceNeg, Int.reduceAdd, Int.reduceMul, Int.reduceSub, Int.reduceToNat, Nat.reduceLeDiff, Nat.reduceDiv, Int.reduceDiv, reduceCtorEq, Option.some.injEq, exists_eq_left', List.length_map, List.length_set, List.length_replicate, List.length_drop, List.length_take, List.length_append, List.drop_zero, List.take_of_length_le, Nat.le_refl, Nat.sub_zero, splice_all, row_u8, splice_u8, wrap_u64c, hk, hfv, aggEq_u8, intsOk_u8, eq_self, decide_true, drG_tt, exG_tt, beq_self_eq_true, true_and, and_true, Option.isSome_some, z32_map, spl32 (b := z32) hfv rfl] | refine AW.seq ?_ | refine AW.block ?_ | refine AW.scope ?_ | refine AW.cond_tt rfl ?_ | refine AW.cond_ff rfl ?_ | refine AW.label ?_ | refine AW.skip ?_ | refine AW.ret ?_ | refine AW.exit ?_ | refine AW.region ?_ | refine AW.draw (by kernel_rfl) (by decide +kernel) ?_ | refine AW.drawN (by kernel_rfl) (by decide +kernel) ?_ | ((with_reducible refine And.intro ?_ ?_); (focus ((repeat' (with_reducible apply And.intro)) <;> first | (with_reducible exact OrdAt.of (by kernel_rfl)) | (with_reducible exact OrdT.of (by kernel_rfl)) | exact True.intro | (with_reducible assumption) | omega | rfl | exact Nat.le_of_ble_eq_true rfl | exact Or.inl trivial | (unfold inI; omega)))))
    (first | refine CallE.mem (c4) (by first | rfl | (simp only [List.map_cons, List.map_nil, frz_sl, frz_agg8, frz_agb, frz_agg32, frz_vv, frz_hv]; done) | (simp only [List.map_cons, List.map_nil, frz_sl, frz_agg8, frz_agb, frz_agg32, frz_vv, frz_hv]; rfl)) (by simp [bor, look_cons, isBox]) (by rfl) ?_ | refine CallXE.mem (c4) (by first | rfl | (simp only [List.map_cons, List.map_nil, frz_sl, frz_agg8, frz_agb, frz_agg32, frz_vv, frz_hv]; done) | (simp only [List.map_cons, List.map_nil, frz_sl, frz_agg8, frz_agb, frz_agg32, frz_vv, frz_hv]; rfl)) (by simp [bor, look_cons, isBox]) (by rfl) ?_)
    repeat (first | simp only [go_sem, Nat.reduceLT, Nat.reduceEqDiff, reduceIte, Int.reduceEq, Int.reduceLE, Int.reduceLT, Nat.reduceMul, Nat.reduceAdd, Nat.reduceSub, Int.reduceNeg, Int.reduceAdd, Int.reduceMul, Int.reduceSub, Int.reduceToNat, Nat.reduceLeDiff, Nat.reduceDiv, Int.reduceDiv, reduceCtorEq, Option.some.injEq, exists_eq_left', List.length_map, List.length_set, List.length_replicate, List.length_drop, List.length_take, List.length_append, List.drop_zero, List.take_of_length_le, Nat.le_refl, Nat.sub_zero, splice_all, row_u8, splice_u8, wrap_u64c, hk, hfv, aggEq_u8, intsOk_u8, eq_self, decide_true, drG_tt, exG_tt, beq_self_eq_true, true_and, and_true, Option.isSome_some, z32_map, spl32 (b := z32) hfv rfl] | refine AW.seq ?_ | refine AW.block ?_ | refine AW.scope ?_ | refine AW.cond_tt rfl ?_ | refine AW.cond_ff rfl ?_ | refine AW.label ?_ | refine AW.skip ?_ | refine AW.ret ?_ | refine AW.exit ?_ | refine AW.region ?_ | refine AW.draw (by kernel_rfl) (by decide +kernel) ?_ | refine AW.drawN (by kernel_rfl) (by decide +kernel) ?_ | ((with_reducible refine And.intro ?_ ?_); (focus ((repeat' (with_reducible apply And.intro)) <;> first | (with_reducible exact OrdAt.of (by kernel_rfl)) | (with_reducible exact OrdT.of (by kernel_rfl)) | exact True.intro | (with_reducible assumption) | omega | rfl | exact Nat.le_of_ble_eq_true rfl | exact Or.inl trivial | (unfold inI; omega)))))
    (first | refine CallE.flat (c5) (by first | rfl | (simp only [List.map_cons, List.map_nil, frz_sl, frz_agg8, frz_agb, frz_agg32, frz_vv, frz_hv]; done) | (simp only [List.map_cons, List.map_nil, frz_sl, frz_agg8, frz_agb, frz_agg32, frz_vv, frz_hv]; rfl)) (by rfl) (by rfl) ?_ | refine CallXE.flat (c5) (by first | rfl | (simp only [List.map_cons, List.map_nil, frz_sl, frz_agg8, frz_agb, frz_agg32, frz_vv, frz_hv]; done) | (simp only [List.map_cons, List.map_nil, frz_sl, frz_agg8, frz_agb, frz_agg32, frz_vv, frz_hv]; rfl)) (by rfl) (by rfl) ?_)
    repeat (first | simp only [go_sem, Nat.reduceLT, Nat.reduceEqDiff, reduceIte, Int.reduceEq, Int.reduceLE, Int.reduceLT, Nat.reduceMul, Nat.reduceAdd, Nat.reduceSub, Int.reduceNeg, Int.reduceAdd, Int.reduceMul, Int.reduceSub, Int.reduceToNat, Nat.reduceLeDiff, Nat.reduceDiv, Int.reduceDiv, reduceCtorEq, Option.some.injEq, exists_eq_left', List.length_map, List.length_set, List.length_replicate, List.length_drop, List.length_take, List.length_append, List.drop_zero, List.take_of_length_le, Nat.le_refl, Nat.sub_zero, splice_all, row_u8, splice_u8, wrap_u64c, hk, hfv, aggEq_u8, intsOk_u8, eq_self, decide_true, drG_tt, exG_tt, beq_self_eq_true, true_and, and_true, Option.isSome_some, z32_map, spl32 (b := z32) hfv rfl] | refine AW.seq ?_ | refine AW.block ?_ | refine AW.scope ?_ | refine AW.cond_tt rfl ?_ | refine AW.cond_ff rfl ?_ | refine AW.label ?_ | refine AW.skip ?_ | refine AW.ret ?_ | refine AW.exit ?_ | refine AW.region ?_ | refine AW.draw (by kernel_rfl) (by decide +kernel) ?_ | refine AW.drawN (by kernel_rfl) (by decide +kernel) ?_ | ((with_reducible refine And.intro ?_ ?_); (focus ((repeat' (with_reducible apply And.intro)) <;> first | (with_reducible exact OrdAt.of (by kernel_rfl)) | (with_reducible exact OrdT.of (by kernel_rfl)) | exact True.intro | (with_reducible assumption) | omega | rfl | exact Nat.le_of_ble_eq_true rfl | exact Or.inl trivial | (unfold inI; omega)))))
    (first | refine CallE.flat (c6) (by first | rfl | (simp only [List.map_cons, List.map_nil, frz_sl, frz_agg8, frz_agb, frz_agg32, frz_vv, frz_hv]; done) | (simp only [List.map_cons, List.map_nil, frz_sl, frz_agg8, frz_agb, frz_agg32, frz_vv, frz_hv]; rfl)) (by rfl) (by rfl) ?_ | refine CallXE.flat (c6) (by first | rfl | (simp only [List.map_cons, List.map_nil, frz_sl, frz_agg8, frz_agb, frz_agg32, frz_vv, frz_hv]; done) | (simp only [List.map_cons, List.map_nil, frz_sl, frz_agg8, frz_agb, frz_agg32, frz_vv, frz_hv]; rfl)) (by rfl) (by rfl) ?_)
    repeat (first | simp only [go_sem, Nat.reduceLT, Nat.reduceEqDiff, reduceIte, Int.reduceEq, Int.reduceLE, Int.reduceLT, Nat.reduceMul, Nat.reduceAdd, Nat.reduceSub, Int.reduceNeg, Int.reduceAdd, Int.reduceMul, Int.reduceSub, Int.reduceToNat, Nat.reduceLeDiff, Nat.reduceDiv, Int.reduceDiv, reduceCtorEq, Option.some.injEq, exists_eq_left', List.length_map, List.length_set, List.length_replicate, List.length_drop, List.length_take, List.length_append, List.drop_zero, List.take_of_length_le, Nat.le_refl, Nat.sub_zero, splice_all, row_u8, splice_u8, wrap_u64c, hk, hfv, aggEq_u8, intsOk_u8, eq_self, decide_true, drG_tt, exG_tt, beq_self_eq_true, true_and, and_true, Option.isSome_some, z32_map, spl32 (b := z32) hfv rfl] | refine AW.seq ?_ | refine AW.block ?_ | refine AW.scope ?_ | refine AW.cond_tt rfl ?_ | refine AW.cond_ff rfl ?_ | refine AW.label ?_ | refine AW.skip ?_ | refine AW.ret ?_ | refine AW.exit ?_ | refine AW.region ?_ | refine AW.draw (by kernel_rfl) (by decide +kernel) ?_ | refine AW.drawN (by kernel_rfl) (by decide +kernel) ?_ | ((with_reducible refine And.intro ?_ ?_); (focus ((repeat' (with_reducible apply And.intro)) <;> first | (with_reducible exact OrdAt.of (by kernel_rfl)) | (with_reducible exact OrdT.of (by kernel_rfl)) | exact True.intro | (with_reducible assumption) | omega | rfl | exact Nat.le_of_ble_eq_true rfl | exact Or.inl trivial | (unfold inI; omega)))))
    (first | refine CallE.flat (c7) (by first | rfl | (simp only [List.map_cons, List.map_nil, frz_sl, frz_agg8, frz_agb, frz_agg32, frz_vv, frz_hv]; done) | (simp only [List.map_cons, List.map_nil, frz_sl, frz_agg8, frz_agb, frz_agg32, frz_vv, frz_hv]; rfl)) (by rfl) (by rfl) ?_ | refine CallXE.flat (c7) (by first | rfl | (simp only [List.map_cons, List.map_nil, frz_sl, frz_agg8, frz_agb, frz_agg32, frz_vv, frz_hv]; done) | (simp only [List.map_cons, List.map_nil, frz_sl, frz_agg8, frz_agb, frz_agg32, frz_vv, frz_hv]; rfl)) (by rfl) (by rfl) ?_)
    repeat (first | simp only [go_sem, Nat.reduceLT, Nat.reduceEqDiff, reduceIte, Int.reduceEq, Int.reduceLE, Int.reduceLT, Nat.reduceMul, Nat.reduceAdd, Nat.reduceSub, Int.reduceNeg, Int.reduceAdd, Int.reduceMul, Int.reduceSub, Int.reduceToNat, Nat.reduceLeDiff, Nat.reduceDiv, Int.reduceDiv, reduceCtorEq, Option.some.injEq, exists_eq_left', List.length_map, List.length_set, List.length_replicate, List.length_drop, List.length_take, List.length_append, List.drop_zero, List.take_of_length_le, Nat.le_refl, Nat.sub_zero, splice_all, row_u8, splice_u8, wrap_u64c, hk, hfv, aggEq_u8, intsOk_u8, eq_self, decide_true, drG_tt, exG_tt, beq_self_eq_true, true_and, and_true, Option.isSome_some, z32_map, spl32 (b := z32) hfv rfl] | refine AW.seq ?_ | refine AW.block ?_ | refine AW.scope ?_ | refine AW.cond_tt rfl ?_ | refine AW.cond_ff rfl ?_ | refine AW.label ?_ | refine AW.skip ?_ | refine AW.ret ?_ | refine AW.exit ?_ | refine AW.region ?_ | refine AW.draw (by kernel_rfl) (by decide +kernel) ?_ | refine AW.drawN (by kernel_rfl) (by decide +kernel) ?_ | ((with_reducible refine And.intro ?_ ?_); (focus ((repeat' (with_reducible apply And.intro)) <;> first | (with_reducible exact OrdAt.of (by kernel_rfl)) | (with_reducible exact OrdT.of (by kernel_rfl)) | exact True.intro | (with_reducible assumption) | omega | rfl | exact Nat.le_of_ble_eq_true rfl | exact Or.inl trivial | (unfold inI; omega)))))
    exact Wk.refl _
  · repeat (first | simp only [go_sem, Nat.reduceLT, Nat.reduceEqDiff, reduceIte, Int.reduceEq, Int.reduceLE, Int.reduceLT, Nat.reduceMul, Nat.reduceAdd, Nat.reduceSub, Int.reduceNeg, Int.reduceAdd, Int.reduceMul, Int.reduceSub, Int.reduceToNat, Nat.reduceLeDiff, Nat.reduceDiv, Int.reduceDiv, reduceCtorEq, Option.some.injEq, exists_eq_left'] | refine AW.seq ?_ | refine AW.block ?_ | refine AW.scope ?_ | refine AW.cond_tt rfl ?_ | refine AW.cond_ff rfl ?_ | refine AW.label ?_ | refine AW.skip ?_ | refine AW.ret ?_ | refine AW.exit ?_ | refine AW.region ?_ | refine AW.draw (by kernel_rfl) (by decide +kernel) ?_ | refine AW.drawN (by kernel_rfl) (by decide +kernel) ?_ | ((with_reducible refine And.intro ?_ ?_); (focus ((repeat' (with_reducible apply And.intro)) <;> first | (with_reducible exact OrdAt.of (by kernel_rfl)) | (with_reducible exact OrdT.of (by kernel_rfl)) | exact True.intro | (with_reducible assumption) | omega | rfl | exact Nat.le_of_ble_eq_true rfl | exact Or.inl trivial | (unfold inI; omega)))))
    exact Wk.refl _
end Go.Proofs.YtpknjecfloglgaaDoor

namespace Go.Proofs.YtpknjecfloglgaaDoor
open Go Go.Eng Go.Proofs
set_option maxRecDepth 100000
set_option maxHeartbeats 1000000
set_option linter.unusedSimpArgs false
set_option linter.unusedVariables false
theorem cmp_irrefl (a : List UInt8) : ¬ Lib.compareBytes a a < 0 := by rw [(cmp_zero a a).2 rfl]; omega
theorem cmp_asymm {a b : List UInt8} (h : Lib.compareBytes a b < 0) : ¬ Lib.compareBytes b a < 0 := by rw [cmp_anti]; omega
theorem srt_unique : ∀ {a b : List Lf}, Srt a → Srt b → (∀ x, x ∈ a ↔ x ∈ b) → a = b
  | [], [], _, _, _ => rfl
  | [], y :: b, _, _, h => absurd ((h y).2 (by simp)) (by simp)
  | x :: a, [], _, _, h => absurd ((h x).1 (by simp)) (by simp)
  | x :: a, y :: b, ha, hb, h => by
    rw [Srt, List.pairwise_cons] at ha hb
    have hxy : x = y := by
      rcases List.mem_cons.1 ((h x).1 (by simp)) with e | hx
      · exact e
      · rcases List.mem_cons.1 ((h y).2 (by simp)) with e | hy
        · exact e.symm
        · exact absurd (hb.1 x hx) (cmp_asymm (ha.1 y hy))
    subst hxy
    have hx1 : x ∉ a := fun hx => cmp_irrefl _ (ha.1 x hx)
    have hx2 : x ∉ b := fun hx => cmp_irrefl _ (hb.1 x hx)
    rw [srt_unique ha.2 hb.2 fun z => ?_]
    constructor
    · intro hz
      rcases List.mem_cons.1 ((h z).1 (by simp [hz])) with e | hz'
      · subst e; exact absurd hz hx1
      · exact hz'
    · intro hz
      rcases List.mem_cons.1 ((h z).2 (by simp [hz])) with e | hz'
      · subst e; exact absurd hz hx2
      · exact hz'
/-- in an ordered list a key is one leaf's -/
theorem srt_key {a : List Lf} (ha : Srt a) {x y : Lf} (hx : x ∈ a) (hy : y ∈ a) (h : key x = key y) : x = y := by
  induction a with
  | nil => simp at hx
  | cons z a ih =>
    rw [Srt, List.pairwise_cons] at ha
    rcases List.mem_cons.1 hx with e1 | hx' <;> rcases List.mem_cons.1 hy with e2 | hy'
    · rw [e1, e2]
    · subst e1; exact absurd (ha.1 y hy') (by unfold cmpK; rw [h]; exact cmp_irrefl _)
    · subst e2; exact absurd (ha.1 x hx') (by unfold cmpK; rw [h]; exact cmp_irrefl _)
    · exact ih ha.2 hx' hy'
theorem find_mem {a : List Lf} (ha : Srt a) {x : Lf} (hx : x ∈ a) : findO a (key x) = some x := by
  have hs : (findO a (key x)).isSome = true := by rw [findO, List.find?_isSome]; exact ⟨x, hx, by simp⟩
  obtain ⟨y, hy⟩ := Option.isSome_iff_exists.1 hs
  have h1 := List.mem_of_find?_eq_some hy
  have h2 : key y = key x := by simpa using List.find?_some hy
  rw [hy, srt_key ha h1 hx h2]
theorem findB_iff {d : List Lf} {k : List UInt8} : findB d k = true ↔ ∃ x ∈ d, key x = k := by
  rw [findB, findO, List.find?_isSome]; simp
theorem findB_ins {d : List Lf} {x : Lf} {k : List UInt8} : findB (insK d x) k = true ↔ key x = k ∨ findB d k = true := by
  rw [findB_iff, findB_iff, insK_eq]
  have hs := List.takeWhile_append_dropWhile (p := fun z => decide (cmpK z (key x) < 0)) (l := d)
  have hm : ∀ y, y ∈ d ↔ y ∈ d.takeWhile (fun z => decide (cmpK z (key x) < 0)) ∨ y ∈ d.dropWhile (fun z => decide (cmpK z (key x) < 0)) := fun y => by rw [← List.mem_append, hs]
  constructor
  · rintro ⟨y, hy, hk⟩
    rcases List.mem_append.1 hy with hy | hy
    · exact .inr ⟨y, (hm y).2 (.inl hy), hk⟩
    · rcases List.mem_cons.1 hy with rfl | hy
      · exact .inl hk
      · exact .inr ⟨y, (hm y).2 (.inr hy), hk⟩
  · rintro (h | ⟨y, hy, hk⟩)
    · exact ⟨x, by simp, h⟩
    · rcases (hm y).1 hy with h | h
      · exact ⟨y, by simp [h], hk⟩
      · exact ⟨y, by simp [h], hk⟩
/-- what is put, goes in just if keys are new, and unlike -/
theorem tpG_iff : ∀ {more d : List Lf}, d.length + more.length ≤ 400 → ((∃ d', tpG d more = .ok d') ↔ (more.map key).Nodup ∧ ∀ x ∈ more, findB d (key x) = false)
  | [], d, _ => by simp [tpG]
  | x :: r, d, h => by
    rw [List.length_cons] at h
    simp only [tpG, List.map_cons, List.nodup_cons, List.mem_cons, forall_eq_or_imp]
    cases hf : findB d (key x)
    · rw [if_neg (by simp), if_neg (by omega), tpG_iff (d := insK d x) (more := r) (by rw [insK_len]; omega)]
      constructor
      · rintro ⟨h1, h2⟩
        refine ⟨⟨fun hm => ?_, h1⟩, rfl, fun y hy => ?_⟩
        · obtain ⟨y, hy, hk⟩ := List.mem_map.1 hm
          have := h2 y hy
          rw [← Bool.not_eq_true, findB_ins] at this
          exact this (.inl hk.symm)
        · have := h2 y hy
          rw [← Bool.not_eq_true, findB_ins] at this
          rw [← Bool.not_eq_true]
          exact fun e => this (.inr e)
      · rintro ⟨⟨h1, h2⟩, _, h3⟩
        refine ⟨h2, fun y hy => ?_⟩
        rw [← Bool.not_eq_true, findB_ins]
        rintro (e | e)
        · exact h1 (List.mem_map.2 ⟨y, hy, e.symm⟩)
        · rw [h3 y hy] at e; cases e
    · simp
theorem tpG_err : ∀ {more d : List Lf} {e : Int}, d.length + more.length ≤ 400 → tpG d more = .error e → e = 131
  | [], d, e, _, h => by simp [tpG] at h
  | x :: r, d, e, hl, h => by
    rw [List.length_cons] at hl
    simp only [tpG] at h
    split at h
    · simpa using h.symm
    · rw [if_neg (by omega)] at h
      exact tpG_err (by rw [insK_len]; omega) h
def tix (n t i : Nat) : Nat := (n - 1 - i + t) % n
def turned (l : List Lf) (t i : Nat) : List Lf := (List.range i).map fun j => l.getD (tix l.length t j) []
theorem turned_succ (l : List Lf) (t i : Nat) : turned l t (i + 1) = turned l t i ++ [l.getD (tix l.length t i) []] := by simp [turned, List.range_succ]
theorem turned_len (l : List Lf) (t i : Nat) : (turned l t i).length = i := by simp [turned]
theorem tix_lt {n t i : Nat} (h : 0 < n) : tix n t i < n := Nat.mod_lt _ h
theorem turned_64 {l : List Lf} (hl : all64 l) (t i : Nat) (h : i ≤ l.length) : all64 (turned l t i) := by
  intro x hx
  obtain ⟨j, hj, rfl⟩ := List.mem_map.1 hx
  rw [List.mem_range] at hj
  exact getD_64 hl (tix_lt (by omega))
theorem turned_perm (l : List Lf) (t : Nat) : (turned l t l.length).Perm l := by
  by_cases h0 : l.length = 0
  · have : l = [] := List.eq_nil_of_length_eq_zero h0
    subst this; exact .refl _
  obtain ⟨n, hn⟩ : ∃ n, n = l.length := ⟨_, rfl⟩
  have hpos : 0 < n := by omega
  -- from some place on, the reverse
  obtain ⟨s, hs⟩ : ∃ s, s = (n - t % n) % n := ⟨_, rfl⟩
  have hsn : s < n := by rw [hs]; exact Nat.mod_lt _ hpos
  have key' : turned l t l.length = l.reverse.drop s ++ l.reverse.take s := by
    have hlen : (l.reverse.drop s ++ l.reverse.take s).length = n := by simp; omega
    apply List.ext_getElem
    · rw [turned_len, hlen, hn]
    · intro i h1 h2
      rw [turned_len, ← hn] at h1
      have hm : t % n < n := Nat.mod_lt _ hpos
      have e1 : (turned l t l.length)[i]'(by rw [turned_len]; omega) = l.getD (tix n t i) [] := by simp [turned, hn]
      rw [e1]
      have hix : tix n t i = if n - 1 - i + t % n < n then n - 1 - i + t % n else n - 1 - i + t % n - n := by
        unfold tix
        have h3 : (n - 1 - i + t) % n = (n - 1 - i + t % n) % n := by rw [Nat.add_mod, Nat.add_mod (n - 1 - i) (t % n), Nat.mod_mod]
        rw [h3]
        split
        · rename_i h; exact Nat.mod_eq_of_lt h
        · rename_i h; rw [Nat.mod_eq_sub_mod (by omega), Nat.mod_eq_of_lt (by omega)]
      have hsv : s = if t % n = 0 then 0 else n - t % n := by
        rw [hs]
        split
        · rename_i h; rw [h, Nat.sub_zero, Nat.mod_self]
        · rename_i h; exact Nat.mod_eq_of_lt (by omega)
      have hlt : tix n t i < l.length := by rw [← hn]; exact tix_lt hpos
      have hg : l.getD (tix n t i) [] = l[tix n t i] := by simp [List.getD_eq_getElem?_getD, hlt]
      rw [hg, List.getElem_append]
      split
      · rename_i h4
        rw [List.length_drop, List.length_reverse, ← hn] at h4
        rw [List.getElem_drop, List.getElem_reverse]
        congr 1
        rw [← hn, hix]
        split at hsv <;> split <;> omega
      · rename_i h4
        rw [List.length_drop, List.length_reverse, ← hn] at h4
        rw [List.getElem_take, List.getElem_reverse]
        congr 1
        rw [List.length_drop, List.length_reverse, ← hn, hix]
        split at hsv <;> split <;> omega
  rw [key']
  refine (List.perm_append_comm).trans ?_
  rw [List.take_append_drop]
  exact List.reverse_perm l
theorem chk_put {l d : List Lf} (hl : all64 l) (hn : l.length ≤ 30) (h : tpG [] l = .ok d) : chk d = true ∧ Srt d ∧ all64 d ∧ ∀ x, x ∈ d ↔ x ∈ l := by
  obtain ⟨a, b, c, e⟩ := tpG_ok h n64 hl
  have hs := c List.Pairwise.nil
  refine ⟨(chk_eq d).2 ⟨by rw [b]; simp; omega, hs⟩, hs, a, fun x => by rw [e x]; simp⟩
/-- the order does not matter -/
theorem put_order {l : List Lf} (hl : all64 l) (hn : l.length ≤ 30) (t : Nat) : tpG [] (turned l t l.length) = tpG [] l := by
  have hp := turned_perm l t
  have ht := turned_64 hl t l.length (Nat.le_refl _)
  have htl := turned_len l t l.length
  have h1 := tpG_iff (d := []) (more := l) (by simp; omega)
  have h2 := tpG_iff (d := []) (more := turned l t l.length) (by rw [htl]; simp; omega)
  have hnd : ((turned l t l.length).map key).Nodup ↔ (l.map key).Nodup := (hp.map key).nodup_iff
  have hf : ∀ k, findB [] k = false := fun k => rfl
  cases ha : tpG [] l with
  | ok a =>
    cases hb : tpG [] (turned l t l.length) with
    | ok b =>
      obtain ⟨_, sa, _, ma⟩ := chk_put hl hn ha
      obtain ⟨_, sb, _, mb⟩ := chk_put ht (by rw [htl]; exact hn) hb
      rw [srt_unique sb sa fun x => by rw [mb x, ma x, hp.mem_iff]]
    | error e =>
      obtain ⟨d', h⟩ := h2.2 ⟨hnd.2 (h1.1 ⟨a, ha⟩).1, fun x _ => hf _⟩
      rw [hb] at h; cases h
  | error e =>
    have he := tpG_err (d := []) (more := l) (by simp; omega) ha
    cases hb : tpG [] (turned l t l.length) with
    | ok b =>
      obtain ⟨d', h⟩ := h1.2 ⟨hnd.1 (h2.1 ⟨b, hb⟩).1, fun x _ => hf _⟩
      rw [ha] at h; cases h
    | error e' =>
      have he' := tpG_err (d := []) (more := turned l t l.length) (by rw [htl]; simp; omega) hb
      rw [he, he']
end Go.Proofs.YtpknjecfloglgaaDoor

namespace Go.Proofs.YtpknjecfloglgaaDoor
open Go Go.Eng Go.Proofs
set_option maxRecDepth 100000
set_option maxHeartbeats 2000000
set_option linter.unusedSimpArgs false
set_option linter.unusedVariables false
def ts5 (l : List Lf) (k : List UInt8) (tu : UInt8) (i : Nat) : S := ⟨[(9, int i), (8, .sl 64 (bys (turned l tu.toNat i).flatten) i (some 1)), (7, boo true), (4, .loc 0 0), (0, lsl l), (2, u8 tu)], 162, [(1, .tok), (0, .box (k.map u8))], 2, []⟩
def anyK (l : List Lf) (k : List UInt8) (i : Nat) : Bool := (l.take i).any fun x => decide (key x = k)
def ts5b (l a b : List Lf) (k : List UInt8) (tu : UInt8) (i : Nat) : S := ⟨[(15, int i), (14, boo (anyK l k i)), (13, int 0), (12, lsl b), (11, int 0), (10, lsl a), (7, boo true), (4, .loc 0 0), (0, lsl l), (2, u8 tu)], 162, [(0, .box (k.map u8))], 1, []⟩
theorem tpE_nil {l : List Lf} : tpE [] l = match tpG [] l with | .ok _ => 0 | .error e => e := by rw [tpE, if_pos chk_nil]; cases tpG [] l <;> rfl
theorem tpD_nil {l : List Lf} : tpD [] l = match tpG [] l with | .ok d => d | .error _ => [] := by rw [tpD, if_pos chk_nil]; cases tpG [] l <;> rfl
theorem f5 (l : List Lf) (hl : all64 l) (k : List UInt8) (hk : k.length = 32) (tu : UInt8) : AFun Tryd.prog 5 [lsl l, .agg (k.map u8), u8 tu] (boo true) := by
  refine AFun.enterW Tryd.func5 rfl Tryd.call5 (by simp [Tryd.ntmps5]) fun γ1 => ?_
  simp only [frameOf, Tryd.ntmps5]
  repeat (first | simp only [go_sem, Nat.reduceLT, Nat.reduceEqDiff, reduceIte, Int.reduceEq, Int.reduceLE, Int.reduceLT, Nat.reduceMul, Nat.reduceAdd, Nat.reduceSub, Int.reduceNeg, Int.reduceAdd, Int.reduceMul, Int.reduceSub, Int.reduceToNat, Nat.reduceLeDiff, Nat.reduceDiv, Int.reduceDiv, reduceCtorEq, Option.some.injEq, exists_eq_left', List.length_map, List.length_set, List.length_replicate, List.length_drop, List.length_take, List.length_append, List.drop_zero, List.take_of_length_le, Nat.le_refl, Nat.sub_zero, splice_all, row_u8, splice_u8, wrap_u64c, hk] | refine AW.seq ?_ | refine AW.block ?_ | refine AW.scope ?_ | refine AW.cond_tt rfl ?_ | refine AW.cond_ff rfl ?_ | refine AW.label ?_ | refine AW.skip ?_ | refine AW.ret ?_ | refine AW.exit ?_ | refine AW.region ?_ | refine AW.draw (by kernel_rfl) (by decide +kernel) ?_ | refine AW.drawN (by kernel_rfl) (by decide +kernel) ?_ | ((with_reducible refine And.intro ?_ ?_); (focus ((repeat' (with_reducible apply And.intro)) <;> first | (with_reducible exact OrdAt.of (by kernel_rfl)) | (with_reducible exact OrdT.of (by kernel_rfl)) | exact True.intro | (with_reducible assumption) | omega | rfl | exact Nat.le_of_ble_eq_true rfl | exact Or.inl trivial | (unfold inI; omega)))))
  (first | refine CallE.flat (f8) (by first | rfl | (simp only [List.map_cons, List.map_nil, frz_sl, frz_agg8, frz_agb, frz_agg32, frz_vv, frz_hv]; done) | (simp only [List.map_cons, List.map_nil, frz_sl, frz_agg8, frz_agb, frz_agg32, frz_vv, frz_hv]; rfl)) (by rfl) (by rfl) ?_ | refine CallXE.flat (f8) (by first | rfl | (simp only [List.map_cons, List.map_nil, frz_sl, frz_agg8, frz_agb, frz_agg32, frz_vv, frz_hv]; done) | (simp only [List.map_cons, List.map_nil, frz_sl, frz_agg8, frz_agb, frz_agg32, frz_vv, frz_hv]; rfl)) (by rfl) (by rfl) ?_)
  repeat (first | simp only [go_sem, Nat.reduceLT, Nat.reduceEqDiff, reduceIte, Int.reduceEq, Int.reduceLE, Int.reduceLT, Nat.reduceMul, Nat.reduceAdd, Nat.reduceSub, Int.reduceNeg, Int.reduceAdd, Int.reduceMul, Int.reduceSub, Int.reduceToNat, Nat.reduceLeDiff, Nat.reduceDiv, Int.reduceDiv, reduceCtorEq, Option.some.injEq, exists_eq_left', List.length_map, List.length_set, List.length_replicate, List.length_drop, List.length_take, List.length_append, List.drop_zero, List.take_of_length_le, Nat.le_refl, Nat.sub_zero, splice_all, row_u8, splice_u8, wrap_u64c, hk] | refine AW.seq ?_ | refine AW.block ?_ | refine AW.scope ?_ | refine AW.cond_tt rfl ?_ | refine AW.cond_ff rfl ?_ | refine AW.label ?_ | refine AW.skip ?_ | refine AW.ret ?_ | refine AW.exit ?_ | refine AW.region ?_ | refine AW.draw (by kernel_rfl) (by decide +kernel) ?_ | refine AW.drawN (by kernel_rfl) (by decide +kernel) ?_ | ((with_reducible refine And.intro ?_ ?_); (focus ((repeat' (with_reducible apply And.intro)) <;> first | (with_reducible exact OrdAt.of (by kernel_rfl)) | (with_reducible exact OrdT.of (by kernel_rfl)) | exact True.intro | (with_reducible assumption) | omega | rfl | exact Nat.le_of_ble_eq_true rfl | exact Or.inl trivial | (unfold inI; omega)))))
  refine AW.cond_dec rfl (fun h1 => ?_) (fun h1 => ?_)
  · repeat (first | simp only [go_sem, Nat.reduceLT, Nat.reduceEqDiff, reduceIte, Int.reduceEq, Int.reduceLE, Int.reduceLT, Nat.reduceMul, Nat.reduceAdd, Nat.reduceSub, Int.reduceNeg, Int.reduceAdd, Int.reduceMul, Int.reduceSub, Int.reduceToNat, Nat.reduceLeDiff, Nat.reduceDiv, Int.reduceDiv, reduceCtorEq, Option.some.injEq, exists_eq_left'] | refine AW.seq ?_ | refine AW.block ?_ | refine AW.scope ?_ | refine AW.cond_tt rfl ?_ | refine AW.cond_ff rfl ?_ | refine AW.label ?_ | refine AW.skip ?_ | refine AW.ret ?_ | refine AW.exit ?_ | refine AW.region ?_ | refine AW.draw (by kernel_rfl) (by decide +kernel) ?_ | refine AW.drawN (by kernel_rfl) (by decide +kernel) ?_ | ((with_reducible refine And.intro ?_ ?_); (focus ((repeat' (with_reducible apply And.intro)) <;> first | (with_reducible exact OrdAt.of (by kernel_rfl)) | (with_reducible exact OrdT.of (by kernel_rfl)) | exact True.intro | (with_reducible assumption) | omega | rfl | exact Nat.le_of_ble_eq_true rfl | exact Or.inl trivial | (unfold inI; omega)))))
    exact Wk.refl _
  have hn : l.length ≤ 30 := by omega
  have htu := tu.toNat_lt
  repeat (first | simp only [go_sem, Nat.reduceLT, Nat.reduceEqDiff, reduceIte, Int.reduceEq, Int.reduceLE, Int.reduceLT, Nat.reduceMul, Nat.reduceAdd, Nat.reduceSub, Int.reduceNeg, Int.reduceAdd, Int.reduceMul, Int.reduceSub, Int.reduceToNat, Nat.reduceLeDiff, Nat.reduceDiv, Int.reduceDiv, reduceCtorEq, Option.some.injEq, exists_eq_left', List.length_map, List.length_set, List.length_replicate, List.length_drop, List.length_take, List.length_append, List.drop_zero, List.take_of_length_le, Nat.le_refl, Nat.sub_zero, splice_all, row_u8, splice_u8, wrap_u64c, hk] | refine AW.seq ?_ | refine AW.block ?_ | refine AW.scope ?_ | refine AW.cond_tt rfl ?_ | refine AW.cond_ff rfl ?_ | refine AW.label ?_ | refine AW.skip ?_ | refine AW.ret ?_ | refine AW.exit ?_ | refine AW.region ?_ | refine AW.draw (by kernel_rfl) (by decide +kernel) ?_ | refine AW.drawN (by kernel_rfl) (by decide +kernel) ?_ | ((with_reducible refine And.intro ?_ ?_); (focus ((repeat' (with_reducible apply And.intro)) <;> first | (with_reducible exact OrdAt.of (by kernel_rfl)) | (with_reducible exact OrdT.of (by kernel_rfl)) | exact True.intro | (with_reducible assumption) | omega | rfl | exact Nat.le_of_ble_eq_true rfl | exact Or.inl trivial | (unfold inI; omega)))))
  refine AW.sub (Sub.nilTok 8 64 (Nat.zero_le _) (by simp [look_cons])) ?_
  refine AW.loop (fun s => ∃ i : Nat, i ≤ l.length ∧ s = ts5 l k tu i) (fun s => (l.length - slotN s 9).toNat) (s0 := ts5 l k tu 0) ?_ ⟨0, by omega, rfl⟩ ?_
  · have e : bys (turned l tu.toNat 0).flatten = [] := rfl
    simp only [ts5, e]
    exact (Sub.same (by first | exact Nat.zero_le _ | exact Nat.le_refl _ | decide | omega) rfl rfl (by simp) (by simp [lab, labL, ren, renL, look_cons, renL_bys, labL_bys, renL_mapu8, labL_mapu8, renL_mapu32, labL_mapu32]) (by simp [labO, renO, lab, labL, ren, renL, look_cons, renL_bys, labL_bys, renL_mapu8, labL_mapu8, renL_mapu32, labL_mapu32]))
  rintro s ⟨i, hi, rfl⟩
  simp only [ts5]
  repeat (first | simp only [go_sem, Nat.reduceLT, Nat.reduceEqDiff, reduceIte, Int.reduceEq, Int.reduceLE, Int.reduceLT, Nat.reduceMul, Nat.reduceAdd, Nat.reduceSub, Int.reduceNeg, Int.reduceAdd, Int.reduceMul, Int.reduceSub, Int.reduceToNat, Nat.reduceLeDiff, Nat.reduceDiv, Int.reduceDiv, reduceCtorEq, Option.some.injEq, exists_eq_left'] | refine AW.seq ?_ | refine AW.block ?_ | refine AW.scope ?_ | refine AW.cond_tt rfl ?_ | refine AW.cond_ff rfl ?_ | refine AW.label ?_ | refine AW.skip ?_ | refine AW.ret ?_ | refine AW.exit ?_ | refine AW.region ?_ | refine AW.draw (by kernel_rfl) (by decide +kernel) ?_ | refine AW.drawN (by kernel_rfl) (by decide +kernel) ?_ | ((with_reducible refine And.intro ?_ ?_); (focus ((repeat' (with_reducible apply And.intro)) <;> first | (with_reducible exact OrdAt.of (by kernel_rfl)) | (with_reducible exact OrdT.of (by kernel_rfl)) | exact True.intro | (with_reducible assumption) | omega | rfl | exact Nat.le_of_ble_eq_true rfl | exact Or.inl trivial | (unfold inI; omega)))))
  refine AW.cond_dec rfl (fun h2 => ?_) (fun h2 => ?_)
  · have hlt : i < l.length := by omega
    have hix := tix_lt (n := l.length) (t := tu.toNat) (i := i) (by omega)
    obtain ⟨q, hq⟩ : ∃ q, q = tix l.length tu.toNat i := ⟨_, rfl⟩
    rw [← hq] at hix
    have wt : IntKind.i64.wrap (tu.toNat : Int) = (tu.toNat : Int) := wrap_inI (by unfold inI; omega)
    have er : ((l.length : Int) - 1 - (i : Int) + (tu.toNat : Int)).tmod (l.length : Int) = (q : Int) := by
      have : ((l.length : Int) - 1 - (i : Int) + (tu.toNat : Int)) = ((l.length - 1 - i + tu.toNat : Nat) : Int) := by omega
      rw [this, Int.tmod_eq_emod_of_nonneg (by omega), ← Int.natCast_emod, hq]; rfl
    have el := el_f hl hix
    have hx := getD_64 hl hix
    have hfl := flat_len hl
    have hb3 : 64 ≤ l.length * 64 - q * 64 := by omega
    have hts := turned_succ l tu.toNat i
    rw [← hq] at hts
    obtain ⟨x, hxx⟩ : ∃ x, x = l.getD q [] := ⟨_, rfl⟩
    rw [← hxx] at el hx hts
    repeat (first | simp only [go_sem, Nat.reduceLT, Nat.reduceEqDiff, reduceIte, Int.reduceEq, Int.reduceLE, Int.reduceLT, Nat.reduceMul, Nat.reduceAdd, Nat.reduceSub, Int.reduceNeg, Int.reduceAdd, Int.reduceMul, Int.reduceSub, Int.reduceToNat, Nat.reduceLeDiff, Nat.reduceDiv, Int.reduceDiv, reduceCtorEq, Option.some.injEq, exists_eq_left', List.length_map, List.length_set, List.length_replicate, List.length_drop, List.length_take, List.length_append, List.drop_zero, List.take_of_length_le, Nat.le_refl, Nat.sub_zero, splice_all, row_u8, splice_u8, wrap_u64c, wt, er, el, hfl, hb3, hx] | refine AW.seq ?_ | refine AW.block ?_ | refine AW.scope ?_ | refine AW.cond_tt rfl ?_ | refine AW.cond_ff rfl ?_ | refine AW.label ?_ | refine AW.skip ?_ | refine AW.ret ?_ | refine AW.exit ?_ | refine AW.region ?_ | refine AW.draw (by kernel_rfl) (by decide +kernel) ?_ | refine AW.drawN (by kernel_rfl) (by decide +kernel) ?_ | ((with_reducible refine And.intro ?_ ?_); (focus ((repeat' (with_reducible apply And.intro)) <;> first | (with_reducible exact OrdAt.of (by kernel_rfl)) | (with_reducible exact OrdT.of (by kernel_rfl)) | exact True.intro | (with_reducible assumption) | omega | rfl | exact Nat.le_of_ble_eq_true rfl | exact Or.inl trivial | (unfold inI; omega)))))
    have e5 : bys (turned l tu.toNat (i + 1)).flatten = bys (turned l tu.toNat i).flatten ++ x.map u8 := by
      rw [hts, List.flatten_append, ← bys_app]; simp [bys]
    rw [Qof_lp]
    refine ⟨ts5 l k tu (i + 1), ?_, ⟨i + 1, by omega, rfl⟩, ?_⟩
    · simp only [ts5, e5]
      refine Sub.of (fun l => if l = 1 then 3 else l) (fun l h => absurd h (Nat.not_lt_zero l)) (by intro l l' h h' e; dsimp only at *; split at e <;> split at e <;> omega) (Nat.zero_le _) rfl rfl (by simp) ?_ ?_
      · simp [lab, labL, ren, renL, look_cons, renL_bys, labL_bys, renL_mapu8, labL_mapu8, ← e5]
      · simp [labO, renO, look_cons, labL_mapu8, renL_mapu8]
    · simp [slotN, ts5, look_cons]; omega
  · have hi' : i = l.length := by omega
    subst hi'
    have ht := turned_64 hl tu.toNat l.length (Nat.le_refl _)
    have htl := turned_len l tu.toNat l.length
    have hpo := put_order hl hn tu.toNat
    have c1 := f9 [] l n64 hl (by decide) (by omega)
    have c2 := f9 [] (turned l tu.toNat l.length) n64 ht (by decide) (by omega)
    rw [tpE_nil, tpD_nil, hpo, ← tpE_nil, ← tpD_nil] at c2
    have n0 : lsl [] = .sl 64 [] 0 none := rfl
    simp only [n0, lsl, htl] at c1 c2
    rw [tpE_nil, tpD_nil] at c1 c2
    cases hg : tpG [] l with
    | error e =>
      have he := tpG_err (d := []) (more := l) (by simp; omega) hg
      subst he
      rw [hg] at c1 c2
      repeat (first | simp only [go_sem, Nat.reduceLT, Nat.reduceEqDiff, reduceIte, Int.reduceEq, Int.reduceLE, Int.reduceLT, Nat.reduceMul, Nat.reduceAdd, Nat.reduceSub, Int.reduceNeg, Int.reduceAdd, Int.reduceMul, Int.reduceSub, Int.reduceToNat, Nat.reduceLeDiff, Nat.reduceDiv, Int.reduceDiv, reduceCtorEq, Option.some.injEq, exists_eq_left'] | refine AW.seq ?_ | refine AW.block ?_ | refine AW.scope ?_ | refine AW.cond_tt rfl ?_ | refine AW.cond_ff rfl ?_ | refine AW.label ?_ | refine AW.skip ?_ | refine AW.ret ?_ | refine AW.exit ?_ | refine AW.region ?_ | refine AW.draw (by kernel_rfl) (by decide +kernel) ?_ | refine AW.drawN (by kernel_rfl) (by decide +kernel) ?_ | ((with_reducible refine And.intro ?_ ?_); (focus ((repeat' (with_reducible apply And.intro)) <;> first | (with_reducible exact OrdAt.of (by kernel_rfl)) | (with_reducible exact OrdT.of (by kernel_rfl)) | exact True.intro | (with_reducible assumption) | omega | rfl | exact Nat.le_of_ble_eq_true rfl | exact Or.inl trivial | (unfold inI; omega)))))
      refine CallE.memW c1 ⟨Wk.nil rfl rfl, Wk.refl _, trivial⟩ (by simp [bor]) (by rfl) ?_
      repeat (first | simp only [go_sem, Nat.reduceLT, Nat.reduceEqDiff, reduceIte, Int.reduceEq, Int.reduceLE, Int.reduceLT, Nat.reduceMul, Nat.reduceAdd, Nat.reduceSub, Int.reduceNeg, Int.reduceAdd, Int.reduceMul, Int.reduceSub, Int.reduceToNat, Nat.reduceLeDiff, Nat.reduceDiv, Int.reduceDiv, reduceCtorEq, Option.some.injEq, exists_eq_left'] | refine AW.seq ?_ | refine AW.block ?_ | refine AW.scope ?_ | refine AW.cond_tt rfl ?_ | refine AW.cond_ff rfl ?_ | refine AW.label ?_ | refine AW.skip ?_ | refine AW.ret ?_ | refine AW.exit ?_ | refine AW.region ?_ | refine AW.draw (by kernel_rfl) (by decide +kernel) ?_ | refine AW.drawN (by kernel_rfl) (by decide +kernel) ?_ | ((with_reducible refine And.intro ?_ ?_); (focus ((repeat' (with_reducible apply And.intro)) <;> first | (with_reducible exact OrdAt.of (by kernel_rfl)) | (with_reducible exact OrdT.of (by kernel_rfl)) | exact True.intro | (with_reducible assumption) | omega | rfl | exact Nat.le_of_ble_eq_true rfl | exact Or.inl trivial | (unfold inI; omega)))))
      refine CallE.memW c2 ⟨Wk.nil rfl rfl, Wk.refl _, trivial⟩ (by simp [bor]) (by rfl) ?_
      repeat (first | simp only [go_sem, Nat.reduceLT, Nat.reduceEqDiff, reduceIte, Int.reduceEq, Int.reduceLE, Int.reduceLT, Nat.reduceMul, Nat.reduceAdd, Nat.reduceSub, Int.reduceNeg, Int.reduceAdd, Int.reduceMul, Int.reduceSub, Int.reduceToNat, Nat.reduceLeDiff, Nat.reduceDiv, Int.reduceDiv, reduceCtorEq, Option.some.injEq, exists_eq_left', eq_self, decide_true, decide_false, drG_tt, exG_tt, beq_self_eq_true, true_and, and_true] | refine AW.seq ?_ | refine AW.block ?_ | refine AW.scope ?_ | refine AW.cond_tt rfl ?_ | refine AW.cond_ff rfl ?_ | refine AW.label ?_ | refine AW.skip ?_ | refine AW.ret ?_ | refine AW.exit ?_ | refine AW.region ?_ | refine AW.draw (by kernel_rfl) (by decide +kernel) ?_ | refine AW.drawN (by kernel_rfl) (by decide +kernel) ?_ | ((with_reducible refine And.intro ?_ ?_); (focus ((repeat' (with_reducible apply And.intro)) <;> first | (with_reducible exact OrdAt.of (by kernel_rfl)) | (with_reducible exact OrdT.of (by kernel_rfl)) | exact True.intro | (with_reducible assumption) | omega | rfl | exact Nat.le_of_ble_eq_true rfl | exact Or.inl trivial | (unfold inI; omega)))))
      exact Wk.refl _
    | ok a =>
      obtain ⟨hca, hsa, ha64, hma⟩ := chk_put hl hn hg
      have hal : a.length ≤ 1000 := by have := ((chk_eq a).1 hca).1; omega
      rw [hg] at c1 c2
      repeat (first | simp only [go_sem, Nat.reduceLT, Nat.reduceEqDiff, reduceIte, Int.reduceEq, Int.reduceLE, Int.reduceLT, Nat.reduceMul, Nat.reduceAdd, Nat.reduceSub, Int.reduceNeg, Int.reduceAdd, Int.reduceMul, Int.reduceSub, Int.reduceToNat, Nat.reduceLeDiff, Nat.reduceDiv, Int.reduceDiv, reduceCtorEq, Option.some.injEq, exists_eq_left'] | refine AW.seq ?_ | refine AW.block ?_ | refine AW.scope ?_ | refine AW.cond_tt rfl ?_ | refine AW.cond_ff rfl ?_ | refine AW.label ?_ | refine AW.skip ?_ | refine AW.ret ?_ | refine AW.exit ?_ | refine AW.region ?_ | refine AW.draw (by kernel_rfl) (by decide +kernel) ?_ | refine AW.drawN (by kernel_rfl) (by decide +kernel) ?_ | ((with_reducible refine And.intro ?_ ?_); (focus ((repeat' (with_reducible apply And.intro)) <;> first | (with_reducible exact OrdAt.of (by kernel_rfl)) | (with_reducible exact OrdT.of (by kernel_rfl)) | exact True.intro | (with_reducible assumption) | omega | rfl | exact Nat.le_of_ble_eq_true rfl | exact Or.inl trivial | (unfold inI; omega)))))
      refine CallE.memW c1 ⟨Wk.nil rfl rfl, Wk.refl _, trivial⟩ (by simp [bor]) (by rfl) ?_
      repeat (first | simp only [go_sem, Nat.reduceLT, Nat.reduceEqDiff, reduceIte, Int.reduceEq, Int.reduceLE, Int.reduceLT, Nat.reduceMul, Nat.reduceAdd, Nat.reduceSub, Int.reduceNeg, Int.reduceAdd, Int.reduceMul, Int.reduceSub, Int.reduceToNat, Nat.reduceLeDiff, Nat.reduceDiv, Int.reduceDiv, reduceCtorEq, Option.some.injEq, exists_eq_left'] | refine AW.seq ?_ | refine AW.block ?_ | refine AW.scope ?_ | refine AW.cond_tt rfl ?_ | refine AW.cond_ff rfl ?_ | refine AW.label ?_ | refine AW.skip ?_ | refine AW.ret ?_ | refine AW.exit ?_ | refine AW.region ?_ | refine AW.draw (by kernel_rfl) (by decide +kernel) ?_ | refine AW.drawN (by kernel_rfl) (by decide +kernel) ?_ | ((with_reducible refine And.intro ?_ ?_); (focus ((repeat' (with_reducible apply And.intro)) <;> first | (with_reducible exact OrdAt.of (by kernel_rfl)) | (with_reducible exact OrdT.of (by kernel_rfl)) | exact True.intro | (with_reducible assumption) | omega | rfl | exact Nat.le_of_ble_eq_true rfl | exact Or.inl trivial | (unfold inI; omega)))))
      refine CallE.memW c2 ⟨Wk.nil rfl rfl, Wk.refl _, trivial⟩ (by simp [bor]) (by rfl) ?_
      repeat (first | simp only [go_sem, Nat.reduceLT, Nat.reduceEqDiff, reduceIte, Int.reduceEq, Int.reduceLE, Int.reduceLT, Nat.reduceMul, Nat.reduceAdd, Nat.reduceSub, Int.reduceNeg, Int.reduceAdd, Int.reduceMul, Int.reduceSub, Int.reduceToNat, Nat.reduceLeDiff, Nat.reduceDiv, Int.reduceDiv, reduceCtorEq, Option.some.injEq, exists_eq_left', eq_self, decide_true, decide_false, drG_tt, exG_tt, beq_self_eq_true, true_and, and_true] | refine AW.seq ?_ | refine AW.block ?_ | refine AW.scope ?_ | refine AW.cond_tt rfl ?_ | refine AW.cond_ff rfl ?_ | refine AW.label ?_ | refine AW.skip ?_ | refine AW.ret ?_ | refine AW.exit ?_ | refine AW.region ?_ | refine AW.draw (by kernel_rfl) (by decide +kernel) ?_ | refine AW.drawN (by kernel_rfl) (by decide +kernel) ?_ | ((with_reducible refine And.intro ?_ ?_); (focus ((repeat' (with_reducible apply And.intro)) <;> first | (with_reducible exact OrdAt.of (by kernel_rfl)) | (with_reducible exact OrdT.of (by kernel_rfl)) | exact True.intro | (with_reducible assumption) | omega | rfl | exact Nat.le_of_ble_eq_true rfl | exact Or.inl trivial | (unfold inI; omega)))))
      refine AW.loop (fun s => ∃ i : Nat, i ≤ l.length ∧ s = ts5b l a a k tu i) (fun s => (l.length - slotN s 15).toNat) (s0 := ts5b l a a k tu 0) ?_ ⟨0, by omega, rfl⟩ ?_
      · have e : anyK l k 0 = false := rfl
        simp only [ts5b, e]
        exact (Sub.same (by first | exact Nat.zero_le _ | exact Nat.le_refl _ | decide | omega) rfl rfl (by simp) (by simp [lab, labL, ren, renL, look_cons, renL_bys, labL_bys, renL_mapu8, labL_mapu8, renL_mapu32, labL_mapu32]) (by simp [labO, renO, lab, labL, ren, renL, look_cons, renL_bys, labL_bys, renL_mapu8, labL_mapu8, renL_mapu32, labL_mapu32]))
      rintro s ⟨i, hi, rfl⟩
      simp only [ts5b]
      repeat (first | simp only [go_sem, Nat.reduceLT, Nat.reduceEqDiff, reduceIte, Int.reduceEq, Int.reduceLE, Int.reduceLT, Nat.reduceMul, Nat.reduceAdd, Nat.reduceSub, Int.reduceNeg, Int.reduceAdd, Int.reduceMul, Int.reduceSub, Int.reduceToNat, Nat.reduceLeDiff, Nat.reduceDiv, Int.reduceDiv, reduceCtorEq, Option.some.injEq, exists_eq_left'] | refine AW.seq ?_ | refine AW.block ?_ | refine AW.scope ?_ | refine AW.cond_tt rfl ?_ | refine AW.cond_ff rfl ?_ | refine AW.label ?_ | refine AW.skip ?_ | refine AW.ret ?_ | refine AW.exit ?_ | refine AW.region ?_ | refine AW.draw (by kernel_rfl) (by decide +kernel) ?_ | refine AW.drawN (by kernel_rfl) (by decide +kernel) ?_ | ((with_reducible refine And.intro ?_ ?_); (focus ((repeat' (with_reducible apply And.intro)) <;> first | (with_reducible exact OrdAt.of (by kernel_rfl)) | (with_reducible exact OrdT.of (by kernel_rfl)) | exact True.intro | (with_reducible assumption) | omega | rfl | exact Nat.le_of_ble_eq_true rfl | exact Or.inl trivial | (unfold inI; omega)))))
      refine AW.cond_dec rfl (fun h2 => ?_) (fun h2 => ?_)
      · have hlt : i < l.length := by omega
        have el := el_f hl hlt
        have ek := el_k hl hlt
        have ev := el_v hl hlt
        have hkl := key_len hl hlt
        have hvl := vl_len hl hlt
        have hfl := flat_len hl
        have hb2 : 32 ≤ l.length * 64 - i * 64 := by omega
        have hb4 : 32 ≤ l.length * 64 - (i * 64 + 32) := by omega
        have hmem := getD_mem hlt
        have hany : anyK l k (i + 1) = (anyK l k i || decide (key (l.getD i []) = k)) := by
          unfold anyK
          rw [List.take_succ_eq_append_getElem hlt, List.any_append]
          simp [List.getD_eq_getElem?_getD, hlt]
        obtain ⟨x, hxx⟩ : ∃ x, x = l.getD i [] := ⟨_, rfl⟩
        rw [← hxx] at el ek ev hkl hvl hmem hany
        have hf := find_mem hsa ((hma x).2 hmem)
        have hfV : findV a (key x) = vl x := by rw [findV, hf]
        have hfB : findB a (key x) = true := by rw [findB, hf]; rfl
        have c3 := f11 a ha64 hal (key x) hkl
        rw [hfV, hfB] at c3
        repeat (first | simp only [go_sem, Nat.reduceLT, Nat.reduceEqDiff, reduceIte, Int.reduceEq, Int.reduceLE, Int.reduceLT, Nat.reduceMul, Nat.reduceAdd, Nat.reduceSub, Int.reduceNeg, Int.reduceAdd, Int.reduceMul, Int.reduceSub, Int.reduceToNat, Nat.reduceLeDiff, Nat.reduceDiv, Int.reduceDiv, reduceCtorEq, Option.some.injEq, exists_eq_left', List.length_map, List.length_set, List.length_replicate, List.length_drop, List.length_take, List.length_append, List.drop_zero, List.take_of_length_le, Nat.le_refl, Nat.sub_zero, splice_all, row_u8, splice_u8, wrap_u64c, ek, ev, hfl, hb2, hb4, hkl, hvl] | refine AW.seq ?_ | refine AW.block ?_ | refine AW.scope ?_ | refine AW.cond_tt rfl ?_ | refine AW.cond_ff rfl ?_ | refine AW.label ?_ | refine AW.skip ?_ | refine AW.ret ?_ | refine AW.exit ?_ | refine AW.region ?_ | refine AW.draw (by kernel_rfl) (by decide +kernel) ?_ | refine AW.drawN (by kernel_rfl) (by decide +kernel) ?_ | ((with_reducible refine And.intro ?_ ?_); (focus ((repeat' (with_reducible apply And.intro)) <;> first | (with_reducible exact OrdAt.of (by kernel_rfl)) | (with_reducible exact OrdT.of (by kernel_rfl)) | exact True.intro | (with_reducible assumption) | omega | rfl | exact Nat.le_of_ble_eq_true rfl | exact Or.inl trivial | (unfold inI; omega)))))
        (first | refine CallE.mem (c3) (by first | rfl | (simp only [List.map_cons, List.map_nil, frz_sl, frz_agg8, frz_agb, frz_agg32, frz_vv, frz_hv]; done) | (simp only [List.map_cons, List.map_nil, frz_sl, frz_agg8, frz_agb, frz_agg32, frz_vv, frz_hv]; rfl)) (by simp [bor, look_cons, isBox]) (by rfl) ?_ | refine CallXE.mem (c3) (by first | rfl | (simp only [List.map_cons, List.map_nil, frz_sl, frz_agg8, frz_agb, frz_agg32, frz_vv, frz_hv]; done) | (simp only [List.map_cons, List.map_nil, frz_sl, frz_agg8, frz_agb, frz_agg32, frz_vv, frz_hv]; rfl)) (by simp [bor, look_cons, isBox]) (by rfl) ?_)
        repeat (first | simp only [go_sem, Nat.reduceLT, Nat.reduceEqDiff, reduceIte, Int.reduceEq, Int.reduceLE, Int.reduceLT, Nat.reduceMul, Nat.reduceAdd, Nat.reduceSub, Int.reduceNeg, Int.reduceAdd, Int.reduceMul, Int.reduceSub, Int.reduceToNat, Nat.reduceLeDiff, Nat.reduceDiv, Int.reduceDiv, reduceCtorEq, Option.some.injEq, exists_eq_left', List.length_map, List.length_set, List.length_replicate, List.length_drop, List.length_take, List.length_append, List.drop_zero, List.take_of_length_le, Nat.le_refl, Nat.sub_zero, splice_all, row_u8, splice_u8, wrap_u64c, ek, ev, List.drop_drop, hfl, hb2, hb4, hkl, hvl, hk, z32_map, spl32 (b := z32) hvl rfl, aggEq_u8, intsOk_u8, eq_self, decide_true, decide_false, drG_tt, drG_ff, drG_ft, exG_tt, beq_self_eq_true, true_and, and_true, Option.isSome_some, Bool.not_true] | refine AW.seq ?_ | refine AW.block ?_ | refine AW.scope ?_ | refine AW.cond_tt rfl ?_ | refine AW.cond_ff rfl ?_ | refine AW.label ?_ | refine AW.skip ?_ | refine AW.ret ?_ | refine AW.exit ?_ | refine AW.region ?_ | refine AW.draw (by kernel_rfl) (by decide +kernel) ?_ | refine AW.drawN (by kernel_rfl) (by decide +kernel) ?_ | ((with_reducible refine And.intro ?_ ?_); (focus ((repeat' (with_reducible apply And.intro)) <;> first | (with_reducible exact OrdAt.of (by kernel_rfl)) | (with_reducible exact OrdT.of (by kernel_rfl)) | exact True.intro | (with_reducible assumption) | omega | rfl | exact Nat.le_of_ble_eq_true rfl | exact Or.inl trivial | (unfold inI; omega)))))
        cases hA : anyK l k i
        · rw [hA] at hany
          repeat (first | simp only [go_sem, Nat.reduceLT, Nat.reduceEqDiff, reduceIte, Int.reduceEq, Int.reduceLE, Int.reduceLT, Nat.reduceMul, Nat.reduceAdd, Nat.reduceSub, Int.reduceNeg, Int.reduceAdd, Int.reduceMul, Int.reduceSub, Int.reduceToNat, Nat.reduceLeDiff, Nat.reduceDiv, Int.reduceDiv, reduceCtorEq, Option.some.injEq, exists_eq_left', List.length_map, List.length_set, List.length_replicate, List.length_drop, List.length_take, List.length_append, List.drop_zero, List.take_of_length_le, Nat.le_refl, Nat.sub_zero, splice_all, row_u8, splice_u8, wrap_u64c, ek, ev, List.drop_drop, hfl, hb2, hb4, hkl, hvl, hk, aggEq_u8, intsOk_u8, eq_self, drG_tt, drG_ff, drG_ft, exG_tt, true_and, and_true] | refine AW.seq ?_ | refine AW.block ?_ | refine AW.scope ?_ | refine AW.cond_tt rfl ?_ | refine AW.cond_ff rfl ?_ | refine AW.label ?_ | refine AW.skip ?_ | refine AW.ret ?_ | refine AW.exit ?_ | refine AW.region ?_ | refine AW.draw (by kernel_rfl) (by decide +kernel) ?_ | refine AW.drawN (by kernel_rfl) (by decide +kernel) ?_ | ((with_reducible refine And.intro ?_ ?_); (focus ((repeat' (with_reducible apply And.intro)) <;> first | (with_reducible exact OrdAt.of (by kernel_rfl)) | (with_reducible exact OrdT.of (by kernel_rfl)) | exact True.intro | (with_reducible assumption) | omega | rfl | exact Nat.le_of_ble_eq_true rfl | exact Or.inl trivial | (unfold inI; omega)))))
          rw [Qof_lp]
          refine ⟨ts5b l a a k tu (i + 1), ?_, ⟨i + 1, by omega, rfl⟩, ?_⟩
          · simp only [ts5b, hany, Bool.false_or]
            exact (Sub.same (by first | exact Nat.zero_le _ | exact Nat.le_refl _ | decide | omega) rfl rfl (by simp) (by simp [lab, labL, ren, renL, look_cons, renL_bys, labL_bys, renL_mapu8, labL_mapu8, renL_mapu32, labL_mapu32]) (by simp [labO, renO, lab, labL, ren, renL, look_cons, renL_bys, labL_bys, renL_mapu8, labL_mapu8, renL_mapu32, labL_mapu32]))
          · simp [slotN, ts5b, look_cons]; omega
        · rw [hA] at hany
          repeat (first | simp only [go_sem, Nat.reduceLT, Nat.reduceEqDiff, reduceIte, Int.reduceEq, Int.reduceLE, Int.reduceLT, Nat.reduceMul, Nat.reduceAdd, Nat.reduceSub, Int.reduceNeg, Int.reduceAdd, Int.reduceMul, Int.reduceSub, Int.reduceToNat, Nat.reduceLeDiff, Nat.reduceDiv, Int.reduceDiv, reduceCtorEq, Option.some.injEq, exists_eq_left', List.length_map, List.length_set, List.length_replicate, List.length_drop, List.length_take, List.length_append, List.drop_zero, List.take_of_length_le, Nat.le_refl, Nat.sub_zero, splice_all, row_u8, splice_u8, wrap_u64c, ek, ev, List.drop_drop, hfl, hb2, hb4, hkl, hvl, hk, aggEq_u8, intsOk_u8, eq_self, drG_tt, drG_tf, drG_ft, exG_tt, true_and, and_true] | refine AW.seq ?_ | refine AW.block ?_ | refine AW.scope ?_ | refine AW.cond_tt rfl ?_ | refine AW.cond_ff rfl ?_ | refine AW.label ?_ | refine AW.skip ?_ | refine AW.ret ?_ | refine AW.exit ?_ | refine AW.region ?_ | refine AW.draw (by kernel_rfl) (by decide +kernel) ?_ | refine AW.drawN (by kernel_rfl) (by decide +kernel) ?_ | ((with_reducible refine And.intro ?_ ?_); (focus ((repeat' (with_reducible apply And.intro)) <;> first | (with_reducible exact OrdAt.of (by kernel_rfl)) | (with_reducible exact OrdT.of (by kernel_rfl)) | exact True.intro | (with_reducible assumption) | omega | rfl | exact Nat.le_of_ble_eq_true rfl | exact Or.inl trivial | (unfold inI; omega)))))
          rw [Qof_lp]
          refine ⟨ts5b l a a k tu (i + 1), ?_, ⟨i + 1, by omega, rfl⟩, ?_⟩
          · simp only [ts5b, hany, Bool.true_or]
            exact (Sub.same (by first | exact Nat.zero_le _ | exact Nat.le_refl _ | decide | omega) rfl rfl (by simp) (by simp [lab, labL, ren, renL, look_cons, renL_bys, labL_bys, renL_mapu8, labL_mapu8, renL_mapu32, labL_mapu32]) (by simp [labO, renO, lab, labL, ren, renL, look_cons, renL_bys, labL_bys, renL_mapu8, labL_mapu8, renL_mapu32, labL_mapu32]))
          · simp [slotN, ts5b, look_cons]; omega
      · have hi' : i = l.length := by omega
        subst hi'
        have hfv := findV_len ha64 k
        have hre : rootE a = 0 := by rw [rootE, if_pos hca]
        have hrl := rootT_len a
        have g1 := f11 a ha64 hal k hk
        have g2 := f13 a a ha64 ha64 hal
        have g3 := f16 a ha64 hal
        have g4 := f14 a ha64 hal
        have hth : findB a k = anyK l k l.length := by
          rw [Bool.eq_iff_iff, findB_iff, anyK, List.take_length, List.any_eq_true]
          constructor
          · rintro ⟨x, hx, h⟩; exact ⟨x, (hma x).1 hx, by simpa using h⟩
          · rintro ⟨x, hx, h⟩; exact ⟨x, (hma x).2 hx, by simpa using h⟩
        rw [hre] at g3
        rw [hca] at g4
        rw [hth] at g1
        repeat (first | simp only [go_sem, Nat.reduceLT, Nat.reduceEqDiff, reduceIte, Int.reduceEq, Int.reduceLE, Int.reduceLT, Nat.reduceMul, Nat.reduceAdd, Nat.reduceSub, Int.reduceNeg, Int.reduceAdd, Int.reduceMul, Int.reduceSub, Int.reduceToNat, Nat.reduceLeDiff, Nat.reduceDiv, Int.reduceDiv, reduceCtorEq, Option.some.injEq, exists_eq_left', List.length_map, List.length_set, List.length_replicate, List.length_drop, List.length_take, List.length_append, List.drop_zero, List.take_of_length_le, Nat.le_refl, Nat.sub_zero, splice_all, row_u8, splice_u8, wrap_u64c, hk, hfv, hrl, z32_map, spl32 (b := z32) hfv rfl, spl32 (b := z32) hrl rfl, aggEq_u8, intsOk_u8, eq_self, decide_true, drG_tt, exG_tt, beq_self_eq_true, true_and, and_true, Option.isSome_some] | refine AW.seq ?_ | refine AW.block ?_ | refine AW.scope ?_ | refine AW.cond_tt rfl ?_ | refine AW.cond_ff rfl ?_ | refine AW.label ?_ | refine AW.skip ?_ | refine AW.ret ?_ | refine AW.exit ?_ | refine AW.region ?_ | refine AW.draw (by kernel_rfl) (by decide +kernel) ?_ | refine AW.drawN (by kernel_rfl) (by decide +kernel) ?_ | ((with_reducible refine And.intro ?_ ?_); (focus ((repeat' (with_reducible apply And.intro)) <;> first | (with_reducible exact OrdAt.of (by kernel_rfl)) | (with_reducible exact OrdT.of (by kernel_rfl)) | exact True.intro | (with_reducible assumption) | omega | rfl | exact Nat.le_of_ble_eq_true rfl | exact Or.inl trivial | (unfold inI; omega)))))
        (first | refine CallE.mem (g1) (by first | rfl | (simp only [List.map_cons, List.map_nil, frz_sl, frz_agg8, frz_agb, frz_agg32, frz_vv, frz_hv]; done) | (simp only [List.map_cons, List.map_nil, frz_sl, frz_agg8, frz_agb, frz_agg32, frz_vv, frz_hv]; rfl)) (by simp [bor, look_cons, isBox]) (by rfl) ?_ | refine CallXE.mem (g1) (by first | rfl | (simp only [List.map_cons, List.map_nil, frz_sl, frz_agg8, frz_agb, frz_agg32, frz_vv, frz_hv]; done) | (simp only [List.map_cons, List.map_nil, frz_sl, frz_agg8, frz_agb, frz_agg32, frz_vv, frz_hv]; rfl)) (by simp [bor, look_cons, isBox]) (by rfl) ?_)
        repeat (first | simp only [go_sem, Nat.reduceLT, Nat.reduceEqDiff, reduceIte, Int.reduceEq, Int.reduceLE, Int.reduceLT, Nat.reduceMul, Nat.reduceAdd, Nat.reduceSub, Int.reduceNeg, Int.reduceAdd, Int.reduceMul, Int.reduceSub, Int.reduceToNat, Nat.reduceLeDiff, Nat.reduceDiv, Int.reduceDiv, reduceCtorEq, Option.some.injEq, exists_eq_left', List.length_map, List.length_set, List.length_replicate, List.length_drop, List.length_take, List.length_append, List.drop_zero, List.take_of_length_le, Nat.le_refl, Nat.sub_zero, splice_all, row_u8, splice_u8, wrap_u64c, hk, hfv, hrl, z32_map, spl32 (b := z32) hfv rfl, spl32 (b := z32) hrl rfl, aggEq_u8, intsOk_u8, eq_self, decide_true, drG_tt, exG_tt, beq_self_eq_true, true_and, and_true, Option.isSome_some] | refine AW.seq ?_ | refine AW.block ?_ | refine AW.scope ?_ | refine AW.cond_tt rfl ?_ | refine AW.cond_ff rfl ?_ | refine AW.label ?_ | refine AW.skip ?_ | refine AW.ret ?_ | refine AW.exit ?_ | refine AW.region ?_ | refine AW.draw (by kernel_rfl) (by decide +kernel) ?_ | refine AW.drawN (by kernel_rfl) (by decide +kernel) ?_ | ((with_reducible refine And.intro ?_ ?_); (focus ((repeat' (with_reducible apply And.intro)) <;> first | (with_reducible exact OrdAt.of (by kernel_rfl)) | (with_reducible exact OrdT.of (by kernel_rfl)) | exact True.intro | (with_reducible assumption) | omega | rfl | exact Nat.le_of_ble_eq_true rfl | exact Or.inl trivial | (unfold inI; omega)))))
        (first | refine CallE.flat (g2) (by first | rfl | (simp only [List.map_cons, List.map_nil, frz_sl, frz_agg8, frz_agb, frz_agg32, frz_vv, frz_hv]; done) | (simp only [List.map_cons, List.map_nil, frz_sl, frz_agg8, frz_agb, frz_agg32, frz_vv, frz_hv]; rfl)) (by rfl) (by rfl) ?_ | refine CallXE.flat (g2) (by first | rfl | (simp only [List.map_cons, List.map_nil, frz_sl, frz_agg8, frz_agb, frz_agg32, frz_vv, frz_hv]; done) | (simp only [List.map_cons, List.map_nil, frz_sl, frz_agg8, frz_agb, frz_agg32, frz_vv, frz_hv]; rfl)) (by rfl) (by rfl) ?_)
        repeat (first | simp only [go_sem, Nat.reduceLT, Nat.reduceEqDiff, reduceIte, Int.reduceEq, Int.reduceLE, Int.reduceLT, Nat.reduceMul, Nat.reduceAdd, Nat.reduceSub, Int.reduceNeg, Int.reduceAdd, Int.reduceMul, Int.reduceSub, Int.reduceToNat, Nat.reduceLeDiff, Nat.reduceDiv, Int.reduceDiv, reduceCtorEq, Option.some.injEq, exists_eq_left', List.length_map, List.length_set, List.length_replicate, List.length_drop, List.length_take, List.length_append, List.drop_zero, List.take_of_length_le, Nat.le_refl, Nat.sub_zero, splice_all, row_u8, splice_u8, wrap_u64c, hk, hfv, hrl, z32_map, spl32 (b := z32) hfv rfl, spl32 (b := z32) hrl rfl, aggEq_u8, intsOk_u8, eq_self, decide_true, drG_tt, exG_tt, beq_self_eq_true, true_and, and_true, Option.isSome_some] | refine AW.seq ?_ | refine AW.block ?_ | refine AW.scope ?_ | refine AW.cond_tt rfl ?_ | refine AW.cond_ff rfl ?_ | refine AW.label ?_ | refine AW.skip ?_ | refine AW.ret ?_ | refine AW.exit ?_ | refine AW.region ?_ | refine AW.draw (by kernel_rfl) (by decide +kernel) ?_ | refine AW.drawN (by kernel_rfl) (by decide +kernel) ?_ | ((with_reducible refine And.intro ?_ ?_); (focus ((repeat' (with_reducible apply And.intro)) <;> first | (with_reducible exact OrdAt.of (by kernel_rfl)) | (with_reducible exact OrdT.of (by kernel_rfl)) | exact True.intro | (with_reducible assumption) | omega | rfl | exact Nat.le_of_ble_eq_true rfl | exact Or.inl trivial | (unfold inI; omega)))))
        (first | refine CallE.mem (g3) (by first | rfl | (simp only [List.map_cons, List.map_nil, frz_sl, frz_agg8, frz_agb, frz_agg32, frz_vv, frz_hv]; done) | (simp only [List.map_cons, List.map_nil, frz_sl, frz_agg8, frz_agb, frz_agg32, frz_vv, frz_hv]; rfl)) (by simp [bor, look_cons, isBox]) (by rfl) ?_ | refine CallXE.mem (g3) (by first | rfl | (simp only [List.map_cons, List.map_nil, frz_sl, frz_agg8, frz_agb, frz_agg32, frz_vv, frz_hv]; done) | (simp only [List.map_cons, List.map_nil, frz_sl, frz_agg8, frz_agb, frz_agg32, frz_vv, frz_hv]; rfl)) (by simp [bor, look_cons, isBox]) (by rfl) ?_)
        repeat (first | simp only [go_sem, Nat.reduceLT, Nat.reduceEqDiff, reduceIte, Int.reduceEq, Int.reduceLE, Int.reduceLT, Nat.reduceMul, Nat.reduceAdd, Nat.reduceSub, Int.reduceNeg, Int.reduceAdd, Int.reduceMul, Int.reduceSub, Int.reduceToNat, Nat.reduceLeDiff, Nat.reduceDiv, Int.reduceDiv, reduceCtorEq, Option.some.injEq, exists_eq_left', List.length_map, List.length_set, List.length_replicate, List.length_drop, List.length_take, List.length_append, List.drop_zero, List.take_of_length_le, Nat.le_refl, Nat.sub_zero, splice_all, row_u8, splice_u8, wrap_u64c, hk, hfv, hrl, z32_map, spl32 (b := z32) hfv rfl, spl32 (b := z32) hrl rfl, aggEq_u8, intsOk_u8, eq_self, decide_true, drG_tt, exG_tt, beq_self_eq_true, true_and, and_true, Option.isSome_some] | refine AW.seq ?_ | refine AW.block ?_ | refine AW.scope ?_ | refine AW.cond_tt rfl ?_ | refine AW.cond_ff rfl ?_ | refine AW.label ?_ | refine AW.skip ?_ | refine AW.ret ?_ | refine AW.exit ?_ | refine AW.region ?_ | refine AW.draw (by kernel_rfl) (by decide +kernel) ?_ | refine AW.drawN (by kernel_rfl) (by decide +kernel) ?_ | ((with_reducible refine And.intro ?_ ?_); (focus ((repeat' (with_reducible apply And.intro)) <;> first | (with_reducible exact OrdAt.of (by kernel_rfl)) | (with_reducible exact OrdT.of (by kernel_rfl)) | exact True.intro | (with_reducible assumption) | omega | rfl | exact Nat.le_of_ble_eq_true rfl | exact Or.inl trivial | (unfold inI; omega)))))
        (first | refine CallE.mem (g3) (by first | rfl | (simp only [List.map_cons, List.map_nil, frz_sl, frz_agg8, frz_agb, frz_agg32, frz_vv, frz_hv]; done) | (simp only [List.map_cons, List.map_nil, frz_sl, frz_agg8, frz_agb, frz_agg32, frz_vv, frz_hv]; rfl)) (by simp [bor, look_cons, isBox]) (by rfl) ?_ | refine CallXE.mem (g3) (by first | rfl | (simp only [List.map_cons, List.map_nil, frz_sl, frz_agg8, frz_agb, frz_agg32, frz_vv, frz_hv]; done) | (simp only [List.map_cons, List.map_nil, frz_sl, frz_agg8, frz_agb, frz_agg32, frz_vv, frz_hv]; rfl)) (by simp [bor, look_cons, isBox]) (by rfl) ?_)
        repeat (first | simp only [go_sem, Nat.reduceLT, Nat.reduceEqDiff, reduceIte, Int.reduceEq, Int.reduceLE, Int.reduceLT, Nat.reduceMul, Nat.reduceAdd, Nat.reduceSub, Int.reduceNeg, Int.reduceAdd, Int.reduceMul, Int.reduceSub, Int.reduceToNat, Nat.reduceLeDiff, Nat.reduceDiv, Int.reduceDiv, reduceCtorEq, Option.some.injEq, exists_eq_left', List.length_map, List.length_set, List.length_replicate, List.length_drop, List.length_take, List.length_append, List.drop_zero, List.take_of_length_le, Nat.le_refl, Nat.sub_zero, splice_all, row_u8, splice_u8, wrap_u64c, hk, hfv, hrl, z32_map, spl32 (b := z32) hfv rfl, spl32 (b := z32) hrl rfl, aggEq_u8, intsOk_u8, eq_self, decide_true, drG_tt, exG_tt, beq_self_eq_true, true_and, and_true, Option.isSome_some] | refine AW.seq ?_ | refine AW.block ?_ | refine AW.scope ?_ | refine AW.cond_tt rfl ?_ | refine AW.cond_ff rfl ?_ | refine AW.label ?_ | refine AW.skip ?_ | refine AW.ret ?_ | refine AW.exit ?_ | refine AW.region ?_ | refine AW.draw (by kernel_rfl) (by decide +kernel) ?_ | refine AW.drawN (by kernel_rfl) (by decide +kernel) ?_ | ((with_reducible refine And.intro ?_ ?_); (focus ((repeat' (with_reducible apply And.intro)) <;> first | (with_reducible exact OrdAt.of (by kernel_rfl)) | (with_reducible exact OrdT.of (by kernel_rfl)) | exact True.intro | (with_reducible assumption) | omega | rfl | exact Nat.le_of_ble_eq_true rfl | exact Or.inl trivial | (unfold inI; omega)))))
        (first | refine CallE.flat (g4) (by first | rfl | (simp only [List.map_cons, List.map_nil, frz_sl, frz_agg8, frz_agb, frz_agg32, frz_vv, frz_hv]; done) | (simp only [List.map_cons, List.map_nil, frz_sl, frz_agg8, frz_agb, frz_agg32, frz_vv, frz_hv]; rfl)) (by rfl) (by rfl) ?_ | refine CallXE.flat (g4) (by first | rfl | (simp only [List.map_cons, List.map_nil, frz_sl, frz_agg8, frz_agb, frz_agg32, frz_vv, frz_hv]; done) | (simp only [List.map_cons, List.map_nil, frz_sl, frz_agg8, frz_agb, frz_agg32, frz_vv, frz_hv]; rfl)) (by rfl) (by rfl) ?_)
        repeat (first | simp only [go_sem, Nat.reduceLT, Nat.reduceEqDiff, reduceIte, Int.reduceEq, Int.reduceLE, Int.reduceLT, Nat.reduceMul, Nat.reduceAdd, Nat.reduceSub, Int.reduceNeg, Int.reduceAdd, Int.reduceMul, Int.reduceSub, Int.reduceToNat, Nat.reduceLeDiff, Nat.reduceDiv, Int.reduceDiv, reduceCtorEq, Option.some.injEq, exists_eq_left', List.length_map, List.length_set, List.length_replicate, List.length_drop, List.length_take, List.length_append, List.drop_zero, List.take_of_length_le, Nat.le_refl, Nat.sub_zero, splice_all, row_u8, splice_u8, wrap_u64c, hk, hfv, hrl, z32_map, spl32 (b := z32) hfv rfl, spl32 (b := z32) hrl rfl, aggEq_u8, intsOk_u8, eq_self, decide_true, drG_tt, exG_tt, beq_self_eq_true, true_and, and_true, Option.isSome_some] | refine AW.seq ?_ | refine AW.block ?_ | refine AW.scope ?_ | refine AW.cond_tt rfl ?_ | refine AW.cond_ff rfl ?_ | refine AW.label ?_ | refine AW.skip ?_ | refine AW.ret ?_ | refine AW.exit ?_ | refine AW.region ?_ | refine AW.draw (by kernel_rfl) (by decide +kernel) ?_ | refine AW.drawN (by kernel_rfl) (by decide +kernel) ?_ | ((with_reducible refine And.intro ?_ ?_); (focus ((repeat' (with_reducible apply And.intro)) <;> first | (with_reducible exact OrdAt.of (by kernel_rfl)) | (with_reducible exact OrdT.of (by kernel_rfl)) | exact True.intro | (with_reducible assumption) | omega | rfl | exact Nat.le_of_ble_eq_true rfl | exact Or.inl trivial | (unfold inI; omega)))))

        exact Wk.refl _
end Go.Proofs.YtpknjecfloglgaaDoor

