/- The law, walked; conditions on lengths alone. -/
import Derived.Test.YtpknjecfloglgaaDoorTrieSumsTrieC
set_option linter.unusedVariables false
set_option linter.unusedSimpArgs false
namespace Go.Proofs.YtpknjecfloglgaaDoor
open Go Go.Eng Go.Proofs
set_option maxRecDepth 100000
set_option maxHeartbeats 1000000
set_option linter.unusedSimpArgs false
set_option linter.unusedVariables false
theorem tw_filter {p : Lf → Bool} : ∀ {l : List Lf}, l.Pairwise (fun x y => p x = false → p y = false) → l.takeWhile p = l.filter p ∧ l.dropWhile p = l.filter (fun y => !p y)
  | [], _ => by simp
  | x :: l, h => by
    rw [List.pairwise_cons] at h
    obtain ⟨h1, h2⟩ := h
    obtain ⟨a, b⟩ := tw_filter h2
    cases hx : p x with
    | true => simp [List.takeWhile_cons, List.dropWhile_cons, List.filter_cons, hx, a, b]
    | false =>
      have h3 : ∀ y ∈ l, p y = false := fun y hy => h1 y hy hx
      have h4 : l.filter p = [] := List.filter_eq_nil_iff.2 fun y hy => by simp [h3 y hy]
      have h5 : l.filter (fun y => !p y) = l := List.filter_eq_self.2 fun y hy => by simp [h3 y hy]
      simp [List.takeWhile_cons, List.dropWhile_cons, List.filter_cons, hx, h4, h5]
theorem bz_bit {h : Nat} {x : Lf} (hh : h ≤ 255) : bz h x = true ↔ bitN (key x) (255 - h) = 0 := by
  rw [bz, decide_eq_true_iff, bitS_nat _ _ (by omega)]
  omega
/-- all begin alike, with so many bits -/
def alike (n : Nat) (l : List Lf) : Prop := ∀ x ∈ l, ∀ y ∈ l, ∀ i, i < n → bitN (key x) i = bitN (key y) i
theorem key32 {l : List Lf} (h : all64 l) {x : Lf} (hx : x ∈ l) : (key x).length = 32 := by rw [key, List.length_take, h x hx]; rfl
theorem bz_mono {h : Nat} (hh : h ≤ 255) {l : List Lf} (hl : all64 l) (hs : Srt l) (ha : alike (255 - h) l) : l.Pairwise fun x y => bz h x = false → bz h y = false := by
  have key' : ∀ x ∈ l, ∀ y ∈ l, cmpK x (key y) < 0 → bz h x = false → bz h y = false := by
    intro x hx y hy hlt hbx
    cases hby : bz h y with
    | false => rfl
    | true =>
      exfalso
      have h1 : bitN (key x) (255 - h) ≠ 0 := fun e => by rw [(bz_bit hh).2 e] at hbx; cases hbx
      have h2 := (bz_bit hh).1 hby
      have := (first_bit (key32 hl hx) (key32 hl hy) (j := 255 - h) (by omega) (fun i hi => ha x hx y hy i hi) (by rw [h2]; exact h1)).2
      exact h1 (this.1 hlt)
  have : ∀ {l' : List Lf}, (∀ x ∈ l', x ∈ l) → Srt l' → l'.Pairwise fun x y => bz h x = false → bz h y = false := by
    intro l'
    induction l' with
    | nil => intro _ _; exact List.Pairwise.nil
    | cons x l' ih =>
      intro hsub hs'
      rw [Srt, List.pairwise_cons] at hs'
      exact List.pairwise_cons.2 ⟨fun y hy hb => key' x (hsub x (by simp)) y (hsub y (by simp [hy])) (hs'.1 y hy) hb, ih (fun y hy => hsub y (by simp [hy])) hs'.2⟩
  exact this (fun x hx => hx) hs
theorem bitN_lt (k : List UInt8) (i : Nat) : bitN k i < 2 := Nat.mod_lt _ (by decide)
theorem alike_filter {h : Nat} (hh : h ≤ 255) {l : List Lf} (ha : alike (255 - h) l) : alike (256 - h) (l.filter (bz h)) ∧ alike (256 - h) (l.filter fun y => !bz h y) := by
  refine ⟨fun x hx y hy i hi => ?_, fun x hx y hy i hi => ?_⟩
  · rw [List.mem_filter] at hx hy
    by_cases e : i = 255 - h
    · subst e; rw [(bz_bit hh).1 hx.2, (bz_bit hh).1 hy.2]
    · exact ha x hx.1 y hy.1 i (by omega)
  · rw [List.mem_filter] at hx hy
    by_cases e : i = 255 - h
    · subst e
      have h1 : bitN (key x) (255 - h) ≠ 0 := fun e => by have := hx.2; rw [(bz_bit hh).2 e] at this; simp at this
      have h2 : bitN (key y) (255 - h) ≠ 0 := fun e => by have := hy.2; rw [(bz_bit hh).2 e] at this; simp at this
      have := bitN_lt (key x) (255 - h)
      have := bitN_lt (key y) (255 - h)
      omega
    · exact ha x hx.1 y hy.1 i (by omega)
theorem srt_filter {l : List Lf} (h : Srt l) (p : Lf → Bool) : Srt (l.filter p) := List.Pairwise.filter p h
theorem tS_rS : ∀ (h : Nat), h ≤ 256 → ∀ (l : List Lf), all64 l → Srt l → alike (256 - h) l → tS h l = rS h l
  | 0, _, l, _, _, _ => by
    cases l with
    | nil => rfl
    | cons x l => rfl
  | h + 1, hh, l, hl, hs, ha => by
    by_cases h0 : l = []
    · rw [h0, tS_nil, rS_nil]
    · rw [show 256 - (h + 1) = 255 - h by omega] at ha
      obtain ⟨a, b⟩ := tw_filter (bz_mono (by omega) hl hs ha)
      obtain ⟨c, d⟩ := alike_filter (by omega) ha
      rw [tS_succ h0, rS_succ h0, a, b, tS_rS h (by omega) _ (all64_filter hl _) (srt_filter hs _) c, tS_rS h (by omega) _ (all64_filter hl _) (srt_filter hs _) d]
theorem root_same {l : List Lf} (hl : all64 l) : rootV tS l = rootV rS l := by
  unfold rootV
  split
  · rename_i h
    exact tS_rS 256 (Nat.le_refl _) l hl ((chk_eq l).1 h).2 (fun x _ y _ i hi => by omega)
  · rfl
theorem inPart_bits {k : List UInt8} {m : Nat} (hm : m ≤ 256) {x : Lf} : inPart k m x = true ↔ ∀ i, i < m → bitN (key x) i = bitN k i := by
  rw [inPart, alk, decide_eq_true_iff]
  constructor
  · intro h i hi
    have := h i hi
    rw [bitS_nat _ _ (by omega), bitS_nat _ _ (by omega)] at this
    omega
  · intro h i hi
    rw [bitS_nat _ _ (by omega), bitS_nat _ _ (by omega), h i hi]
theorem alike_part {l : List Lf} {k : List UInt8} {m : Nat} (hm : m ≤ 256) : alike m (l.filter (inPart k m)) := by
  intro x hx y hy i hi
  rw [List.mem_filter] at hx hy
  rw [(inPart_bits hm).1 hx.2 i hi, (inPart_bits hm).1 hy.2 i hi]
theorem part_same {l : List Lf} (hl : all64 l) (k : List UInt8) (m : Int) : partV tS l k m = partV rS l k m := by
  unfold partV
  split
  · rename_i h
    split
    · rfl
    · rename_i h2
      refine tS_rS _ (by omega) _ (all64_filter hl _) (srt_filter ((chk_eq l).1 h).2 _) ?_
      have : 256 - (256 - m.toNat) = m.toNat := by omega
      rw [this]
      exact alike_part (by omega)
  · rfl
theorem rootV_len (l : List Lf) : (rootV rS l).length = 32 := by unfold rootV; split; exact rS_len _ _; rfl
theorem partV_len (l : List Lf) (k : List UInt8) (m : Int) : (partV rS l k m).length = 32 := by
  unfold partV; split
  · split
    · rfl
    · exact rS_len _ _
  · rfl
theorem f4 (l : List Lf) (hl : all64 l) (k : List UInt8) (hk : k.length = 32) (m : Int) (a b : List UInt8) (ha : a.length = 32) (hb : b.length = 32) : AFun Tryd.prog 4 [lsl l, .agg (k.map u8), int m, .agg (a.map u8), .agg (b.map u8)] (boo true) := by
  refine AFun.enterW Tryd.func4 rfl Tryd.call4 (by simp [Tryd.ntmps4]) fun γ1 => ?_
  simp only [frameOf, Tryd.ntmps4]
  repeat (first | simp only [go_sem, Nat.reduceLT, Nat.reduceEqDiff, reduceIte, Int.reduceEq, Int.reduceLE, Int.reduceLT, Nat.reduceMul, Nat.reduceAdd, Nat.reduceSub, Int.reduceNeg, Int.reduceAdd, Int.reduceMul, Int.reduceSub, Int.reduceToNat, Nat.reduceLeDiff, Nat.reduceDiv, Int.reduceDiv, reduceCtorEq, Option.some.injEq, exists_eq_left', List.length_map, List.length_set, List.length_replicate, List.length_drop, List.length_take, List.length_append, List.drop_zero, List.take_of_length_le, Nat.le_refl, Nat.sub_zero, splice_all, row_u8, splice_u8, wrap_u64c, hk, ha, hb] | refine AW.seq ?_ | refine AW.block ?_ | refine AW.scope ?_ | refine AW.cond_tt rfl ?_ | refine AW.cond_ff rfl ?_ | refine AW.label ?_ | refine AW.skip ?_ | refine AW.ret ?_ | refine AW.exit ?_ | refine AW.region ?_ | refine AW.draw (by kernel_rfl) (by decide +kernel) ?_ | refine AW.drawN (by kernel_rfl) (by decide +kernel) ?_ | ((with_reducible refine And.intro ?_ ?_); (focus ((repeat' (with_reducible apply And.intro)) <;> first | (with_reducible exact OrdAt.of (by kernel_rfl)) | (with_reducible exact OrdT.of (by kernel_rfl)) | exact True.intro | (with_reducible assumption) | omega | rfl | exact Nat.le_of_ble_eq_true rfl | exact Or.inl trivial | (unfold inI; omega)))))
  (first | refine CallE.flat (f8) (by first | rfl | (simp only [List.map_cons, List.map_nil, frz_sl, frz_agg8, frz_agb, frz_agg32, frz_vv, frz_hv]; done) | (simp only [List.map_cons, List.map_nil, frz_sl, frz_agg8, frz_agb, frz_agg32, frz_vv, frz_hv]; rfl)) (by rfl) (by rfl) ?_ | refine CallXE.flat (f8) (by first | rfl | (simp only [List.map_cons, List.map_nil, frz_sl, frz_agg8, frz_agb, frz_agg32, frz_vv, frz_hv]; done) | (simp only [List.map_cons, List.map_nil, frz_sl, frz_agg8, frz_agb, frz_agg32, frz_vv, frz_hv]; rfl)) (by rfl) (by rfl) ?_)
  repeat (first | simp only [go_sem, Nat.reduceLT, Nat.reduceEqDiff, reduceIte, Int.reduceEq, Int.reduceLE, Int.reduceLT, Nat.reduceMul, Nat.reduceAdd, Nat.reduceSub, Int.reduceNeg, Int.reduceAdd, Int.reduceMul, Int.reduceSub, Int.reduceToNat, Nat.reduceLeDiff, Nat.reduceDiv, Int.reduceDiv, reduceCtorEq, Option.some.injEq, exists_eq_left', List.length_map, List.length_set, List.length_replicate, List.length_drop, List.length_take, List.length_append, List.drop_zero, List.take_of_length_le, Nat.le_refl, Nat.sub_zero, splice_all, row_u8, splice_u8, wrap_u64c, hk, ha, hb] | refine AW.seq ?_ | refine AW.block ?_ | refine AW.scope ?_ | refine AW.cond_tt rfl ?_ | refine AW.cond_ff rfl ?_ | refine AW.label ?_ | refine AW.skip ?_ | refine AW.ret ?_ | refine AW.exit ?_ | refine AW.region ?_ | refine AW.draw (by kernel_rfl) (by decide +kernel) ?_ | refine AW.drawN (by kernel_rfl) (by decide +kernel) ?_ | ((with_reducible refine And.intro ?_ ?_); (focus ((repeat' (with_reducible apply And.intro)) <;> first | (with_reducible exact OrdAt.of (by kernel_rfl)) | (with_reducible exact OrdT.of (by kernel_rfl)) | exact True.intro | (with_reducible assumption) | omega | rfl | exact Nat.le_of_ble_eq_true rfl | exact Or.inl trivial | (unfold inI; omega)))))
  refine AW.cond_dec rfl (fun h1 => ?_) (fun h1 => ?_)
  · repeat (first | simp only [go_sem, Nat.reduceLT, Nat.reduceEqDiff, reduceIte, Int.reduceEq, Int.reduceLE, Int.reduceLT, Nat.reduceMul, Nat.reduceAdd, Nat.reduceSub, Int.reduceNeg, Int.reduceAdd, Int.reduceMul, Int.reduceSub, Int.reduceToNat, Nat.reduceLeDiff, Nat.reduceDiv, Int.reduceDiv, reduceCtorEq, Option.some.injEq, exists_eq_left'] | refine AW.seq ?_ | refine AW.block ?_ | refine AW.scope ?_ | refine AW.cond_tt rfl ?_ | refine AW.cond_ff rfl ?_ | refine AW.label ?_ | refine AW.skip ?_ | refine AW.ret ?_ | refine AW.exit ?_ | refine AW.region ?_ | refine AW.draw (by kernel_rfl) (by decide +kernel) ?_ | refine AW.drawN (by kernel_rfl) (by decide +kernel) ?_ | ((with_reducible refine And.intro ?_ ?_); (focus ((repeat' (with_reducible apply And.intro)) <;> first | (with_reducible exact OrdAt.of (by kernel_rfl)) | (with_reducible exact OrdT.of (by kernel_rfl)) | exact True.intro | (with_reducible assumption) | omega | rfl | exact Nat.le_of_ble_eq_true rfl | exact Or.inl trivial | (unfold inI; omega)))))
    exact Wk.refl _
  have hn : l.length ≤ 1000 := by omega
  have c1 := f16 l hl hn
  have c2 := f17 l hl hn
  have c3 := f18 l hl hn k hk m
  have c4 := f19 l hl hn k hk m
  rw [root_same hl] at c1
  rw [part_same hl] at c3
  have hab : (a ++ b).length = 64 := by simp [ha, hb]
  have s1 : splice (splice (List.replicate 64 (u8 0)) 0 (a.map u8)) 32 (b.map u8) = (a ++ b).map u8 := by
    have e1 : splice (List.replicate 64 (u8 0)) 0 (a.map u8) = bys (a ++ List.replicate 32 0) := by
      have := bys_spl (List.replicate 64 0) a 0
      rw [show bys a = a.map u8 from rfl, show bys (List.replicate 64 0) = List.replicate 64 (u8 0) by simp [bys]] at this
      rw [this]; congr 1; simp [splice, ha]
    rw [e1]
    have := bys_spl (a ++ List.replicate 32 0) b 32
    rw [show bys b = b.map u8 from rfl] at this
    rw [this, show (a ++ b).map u8 = bys (a ++ b) from rfl]; congr 1; simp [splice, ha, hb]
  have s2 : splice (List.replicate 64 (u8 0)) 0 ((a ++ b).map u8) = (a ++ b).map u8 := splice_all (by rw [List.length_map, hab, List.length_replicate])
  have s3 : List.take 64 ((a ++ b).map u8) = (a ++ b).map u8 := List.take_of_length_le (by rw [List.length_map, hab]; exact Nat.le_refl _)
  have hk1 := rootV_len l
  have hv1 := partV_len l k m
  have hcc : True := trivial
  have e1 := f20 m
  have e2 := f21 m
  have n1 := f22 a b ha hb
  have n2 := f23 a b ha hb
  have o1 := f24 (a ++ b) hab
  have o2 := f25 (a ++ b) hab
  repeat (first | simp only [go_sem, Nat.reduceLT, Nat.reduceEqDiff, reduceIte, Int.reduceEq, Int.reduceLE, Int.reduceLT, Nat.reduceMul, Nat.reduceAdd, Nat.reduceSub, Int.reduceNeg, Int.reduceAdd, Int.reduceMul, Int.reduceSub, Int.reduceToNat, Nat.reduceLeDiff, Nat.reduceDiv, Int.reduceDiv, reduceCtorEq, Option.some.injEq, exists_eq_left', List.length_map, List.length_set, List.length_replicate, List.length_drop, List.length_take, List.length_append, List.drop_zero, List.take_of_length_le, Nat.le_refl, Nat.sub_zero, splice_all, row_u8, splice_u8, wrap_u64c, hk, ha, hb, hab, s1, s2, s3, hk1, hv1, hcc, spl32 (b := z32) hk1 rfl, spl32 (b := z32) hv1 rfl, z32_map, rootV_len, partV_len, tagS_len, emptyS_len, aggEq_u8, intsOk_u8, eq_self, decide_true, drG_tt, exG_tt, beq_self_eq_true, true_and, and_true, Option.isSome_some] | refine AW.seq ?_ | refine AW.block ?_ | refine AW.scope ?_ | refine AW.cond_tt rfl ?_ | refine AW.cond_ff rfl ?_ | refine AW.label ?_ | refine AW.skip ?_ | refine AW.ret ?_ | refine AW.exit ?_ | refine AW.region ?_ | refine AW.draw (by kernel_rfl) (by decide +kernel) ?_ | refine AW.drawN (by kernel_rfl) (by decide +kernel) ?_ | ((with_reducible refine And.intro ?_ ?_); (focus ((repeat' (with_reducible apply And.intro)) <;> first | (with_reducible exact OrdAt.of (by kernel_rfl)) | (with_reducible exact OrdT.of (by kernel_rfl)) | exact True.intro | (with_reducible assumption) | omega | rfl | exact Nat.le_of_ble_eq_true rfl | exact Or.inl trivial | (unfold inI; omega)))))
  (first | refine CallE.mem (c1) (by first | rfl | (simp only [List.map_cons, List.map_nil, frz_sl, frz_agg8, frz_agb, frz_agg32, frz_vv, frz_hv]; done) | (simp only [List.map_cons, List.map_nil, frz_sl, frz_agg8, frz_agb, frz_agg32, frz_vv, frz_hv]; rfl)) (by simp [bor, look_cons, isBox]) (by rfl) ?_ | refine CallXE.mem (c1) (by first | rfl | (simp only [List.map_cons, List.map_nil, frz_sl, frz_agg8, frz_agb, frz_agg32, frz_vv, frz_hv]; done) | (simp only [List.map_cons, List.map_nil, frz_sl, frz_agg8, frz_agb, frz_agg32, frz_vv, frz_hv]; rfl)) (by simp [bor, look_cons, isBox]) (by rfl) ?_)
  repeat (first | simp only [go_sem, Nat.reduceLT, Nat.reduceEqDiff, reduceIte, Int.reduceEq, Int.reduceLE, Int.reduceLT, Nat.reduceMul, Nat.reduceAdd, Nat.reduceSub, Int.reduceNeg, Int.reduceAdd, Int.reduceMul, Int.reduceSub, Int.reduceToNat, Nat.reduceLeDiff, Nat.reduceDiv, Int.reduceDiv, reduceCtorEq, Option.some.injEq, exists_eq_left', List.length_map, List.length_set, List.length_replicate, List.length_drop, List.length_take, List.length_append, List.drop_zero, List.take_of_length_le, Nat.le_refl, Nat.sub_zero, splice_all, row_u8, splice_u8, wrap_u64c, hk, ha, hb, hab, s1, s2, s3, hk1, hv1, hcc, spl32 (b := z32) hk1 rfl, spl32 (b := z32) hv1 rfl, z32_map, rootV_len, partV_len, tagS_len, emptyS_len, aggEq_u8, intsOk_u8, eq_self, decide_true, drG_tt, exG_tt, beq_self_eq_true, true_and, and_true, Option.isSome_some] | refine AW.seq ?_ | refine AW.block ?_ | refine AW.scope ?_ | refine AW.cond_tt rfl ?_ | refine AW.cond_ff rfl ?_ | refine AW.label ?_ | refine AW.skip ?_ | refine AW.ret ?_ | refine AW.exit ?_ | refine AW.region ?_ | refine AW.draw (by kernel_rfl) (by decide +kernel) ?_ | refine AW.drawN (by kernel_rfl) (by decide +kernel) ?_ | ((with_reducible refine And.intro ?_ ?_); (focus ((repeat' (with_reducible apply And.intro)) <;> first | (with_reducible exact OrdAt.of (by kernel_rfl)) | (with_reducible exact OrdT.of (by kernel_rfl)) | exact True.intro | (with_reducible assumption) | omega | rfl | exact Nat.le_of_ble_eq_true rfl | exact Or.inl trivial | (unfold inI; omega)))))
  (first | refine CallE.mem (c2) (by first | rfl | (simp only [List.map_cons, List.map_nil, frz_sl, frz_agg8, frz_agb, frz_agg32, frz_vv, frz_hv]; done) | (simp only [List.map_cons, List.map_nil, frz_sl, frz_agg8, frz_agb, frz_agg32, frz_vv, frz_hv]; rfl)) (by simp [bor, look_cons, isBox]) (by rfl) ?_ | refine CallXE.mem (c2) (by first | rfl | (simp only [List.map_cons, List.map_nil, frz_sl, frz_agg8, frz_agb, frz_agg32, frz_vv, frz_hv]; done) | (simp only [List.map_cons, List.map_nil, frz_sl, frz_agg8, frz_agb, frz_agg32, frz_vv, frz_hv]; rfl)) (by simp [bor, look_cons, isBox]) (by rfl) ?_)
  repeat (first | simp only [go_sem, Nat.reduceLT, Nat.reduceEqDiff, reduceIte, Int.reduceEq, Int.reduceLE, Int.reduceLT, Nat.reduceMul, Nat.reduceAdd, Nat.reduceSub, Int.reduceNeg, Int.reduceAdd, Int.reduceMul, Int.reduceSub, Int.reduceToNat, Nat.reduceLeDiff, Nat.reduceDiv, Int.reduceDiv, reduceCtorEq, Option.some.injEq, exists_eq_left', List.length_map, List.length_set, List.length_replicate, List.length_drop, List.length_take, List.length_append, List.drop_zero, List.take_of_length_le, Nat.le_refl, Nat.sub_zero, splice_all, row_u8, splice_u8, wrap_u64c, hk, ha, hb, hab, s1, s2, s3, hk1, hv1, hcc, spl32 (b := z32) hk1 rfl, spl32 (b := z32) hv1 rfl, z32_map, rootV_len, partV_len, tagS_len, emptyS_len, aggEq_u8, intsOk_u8, eq_self, decide_true, drG_tt, exG_tt, beq_self_eq_true, true_and, and_true, Option.isSome_some] | refine AW.seq ?_ | refine AW.block ?_ | refine AW.scope ?_ | refine AW.cond_tt rfl ?_ | refine AW.cond_ff rfl ?_ | refine AW.label ?_ | refine AW.skip ?_ | refine AW.ret ?_ | refine AW.exit ?_ | refine AW.region ?_ | refine AW.draw (by kernel_rfl) (by decide +kernel) ?_ | refine AW.drawN (by kernel_rfl) (by decide +kernel) ?_ | ((with_reducible refine And.intro ?_ ?_); (focus ((repeat' (with_reducible apply And.intro)) <;> first | (with_reducible exact OrdAt.of (by kernel_rfl)) | (with_reducible exact OrdT.of (by kernel_rfl)) | exact True.intro | (with_reducible assumption) | omega | rfl | exact Nat.le_of_ble_eq_true rfl | exact Or.inl trivial | (unfold inI; omega)))))
  (first | refine CallE.mem (c3) (by first | rfl | (simp only [List.map_cons, List.map_nil, frz_sl, frz_agg8, frz_agb, frz_agg32, frz_vv, frz_hv]; done) | (simp only [List.map_cons, List.map_nil, frz_sl, frz_agg8, frz_agb, frz_agg32, frz_vv, frz_hv]; rfl)) (by simp [bor, look_cons, isBox]) (by rfl) ?_ | refine CallXE.mem (c3) (by first | rfl | (simp only [List.map_cons, List.map_nil, frz_sl, frz_agg8, frz_agb, frz_agg32, frz_vv, frz_hv]; done) | (simp only [List.map_cons, List.map_nil, frz_sl, frz_agg8, frz_agb, frz_agg32, frz_vv, frz_hv]; rfl)) (by simp [bor, look_cons, isBox]) (by rfl) ?_)
  repeat (first | simp only [go_sem, Nat.reduceLT, Nat.reduceEqDiff, reduceIte, Int.reduceEq, Int.reduceLE, Int.reduceLT, Nat.reduceMul, Nat.reduceAdd, Nat.reduceSub, Int.reduceNeg, Int.reduceAdd, Int.reduceMul, Int.reduceSub, Int.reduceToNat, Nat.reduceLeDiff, Nat.reduceDiv, Int.reduceDiv, reduceCtorEq, Option.some.injEq, exists_eq_left', List.length_map, List.length_set, List.length_replicate, List.length_drop, List.length_take, List.length_append, List.drop_zero, List.take_of_length_le, Nat.le_refl, Nat.sub_zero, splice_all, row_u8, splice_u8, wrap_u64c, hk, ha, hb, hab, s1, s2, s3, hk1, hv1, hcc, spl32 (b := z32) hk1 rfl, spl32 (b := z32) hv1 rfl, z32_map, rootV_len, partV_len, tagS_len, emptyS_len, aggEq_u8, intsOk_u8, eq_self, decide_true, drG_tt, exG_tt, beq_self_eq_true, true_and, and_true, Option.isSome_some] | refine AW.seq ?_ | refine AW.block ?_ | refine AW.scope ?_ | refine AW.cond_tt rfl ?_ | refine AW.cond_ff rfl ?_ | refine AW.label ?_ | refine AW.skip ?_ | refine AW.ret ?_ | refine AW.exit ?_ | refine AW.region ?_ | refine AW.draw (by kernel_rfl) (by decide +kernel) ?_ | refine AW.drawN (by kernel_rfl) (by decide +kernel) ?_ | ((with_reducible refine And.intro ?_ ?_); (focus ((repeat' (with_reducible apply And.intro)) <;> first | (with_reducible exact OrdAt.of (by kernel_rfl)) | (with_reducible exact OrdT.of (by kernel_rfl)) | exact True.intro | (with_reducible assumption) | omega | rfl | exact Nat.le_of_ble_eq_true rfl | exact Or.inl trivial | (unfold inI; omega)))))
  (first | refine CallE.mem (c4) (by first | rfl | (simp only [List.map_cons, List.map_nil, frz_sl, frz_agg8, frz_agb, frz_agg32, frz_vv, frz_hv]; done) | (simp only [List.map_cons, List.map_nil, frz_sl, frz_agg8, frz_agb, frz_agg32, frz_vv, frz_hv]; rfl)) (by simp [bor, look_cons, isBox]) (by rfl) ?_ | refine CallXE.mem (c4) (by first | rfl | (simp only [List.map_cons, List.map_nil, frz_sl, frz_agg8, frz_agb, frz_agg32, frz_vv, frz_hv]; done) | (simp only [List.map_cons, List.map_nil, frz_sl, frz_agg8, frz_agb, frz_agg32, frz_vv, frz_hv]; rfl)) (by simp [bor, look_cons, isBox]) (by rfl) ?_)
  repeat (first | simp only [go_sem, Nat.reduceLT, Nat.reduceEqDiff, reduceIte, Int.reduceEq, Int.reduceLE, Int.reduceLT, Nat.reduceMul, Nat.reduceAdd, Nat.reduceSub, Int.reduceNeg, Int.reduceAdd, Int.reduceMul, Int.reduceSub, Int.reduceToNat, Nat.reduceLeDiff, Nat.reduceDiv, Int.reduceDiv, reduceCtorEq, Option.some.injEq, exists_eq_left', List.length_map, List.length_set, List.length_replicate, List.length_drop, List.length_take, List.length_append, List.drop_zero, List.take_of_length_le, Nat.le_refl, Nat.sub_zero, splice_all, row_u8, splice_u8, wrap_u64c, hk, ha, hb, hab, s1, s2, s3, hk1, hv1, hcc, spl32 (b := z32) hk1 rfl, spl32 (b := z32) hv1 rfl, z32_map, rootV_len, partV_len, tagS_len, emptyS_len, aggEq_u8, intsOk_u8, eq_self, decide_true, drG_tt, exG_tt, beq_self_eq_true, true_and, and_true, Option.isSome_some] | refine AW.seq ?_ | refine AW.block ?_ | refine AW.scope ?_ | refine AW.cond_tt rfl ?_ | refine AW.cond_ff rfl ?_ | refine AW.label ?_ | refine AW.skip ?_ | refine AW.ret ?_ | refine AW.exit ?_ | refine AW.region ?_ | refine AW.draw (by kernel_rfl) (by decide +kernel) ?_ | refine AW.drawN (by kernel_rfl) (by decide +kernel) ?_ | ((with_reducible refine And.intro ?_ ?_); (focus ((repeat' (with_reducible apply And.intro)) <;> first | (with_reducible exact OrdAt.of (by kernel_rfl)) | (with_reducible exact OrdT.of (by kernel_rfl)) | exact True.intro | (with_reducible assumption) | omega | rfl | exact Nat.le_of_ble_eq_true rfl | exact Or.inl trivial | (unfold inI; omega)))))
  (first | refine CallE.mem (e1) (by first | rfl | (simp only [List.map_cons, List.map_nil, frz_sl, frz_agg8, frz_agb, frz_agg32, frz_vv, frz_hv]; done) | (simp only [List.map_cons, List.map_nil, frz_sl, frz_agg8, frz_agb, frz_agg32, frz_vv, frz_hv]; rfl)) (by simp [bor, look_cons, isBox]) (by rfl) ?_ | refine CallXE.mem (e1) (by first | rfl | (simp only [List.map_cons, List.map_nil, frz_sl, frz_agg8, frz_agb, frz_agg32, frz_vv, frz_hv]; done) | (simp only [List.map_cons, List.map_nil, frz_sl, frz_agg8, frz_agb, frz_agg32, frz_vv, frz_hv]; rfl)) (by simp [bor, look_cons, isBox]) (by rfl) ?_)
  repeat (first | simp only [go_sem, Nat.reduceLT, Nat.reduceEqDiff, reduceIte, Int.reduceEq, Int.reduceLE, Int.reduceLT, Nat.reduceMul, Nat.reduceAdd, Nat.reduceSub, Int.reduceNeg, Int.reduceAdd, Int.reduceMul, Int.reduceSub, Int.reduceToNat, Nat.reduceLeDiff, Nat.reduceDiv, Int.reduceDiv, reduceCtorEq, Option.some.injEq, exists_eq_left', List.length_map, List.length_set, List.length_replicate, List.length_drop, List.length_take, List.length_append, List.drop_zero, List.take_of_length_le, Nat.le_refl, Nat.sub_zero, splice_all, row_u8, splice_u8, wrap_u64c, hk, ha, hb, hab, s1, s2, s3, hk1, hv1, hcc, spl32 (b := z32) hk1 rfl, spl32 (b := z32) hv1 rfl, z32_map, rootV_len, partV_len, tagS_len, emptyS_len, aggEq_u8, intsOk_u8, eq_self, decide_true, drG_tt, exG_tt, beq_self_eq_true, true_and, and_true, Option.isSome_some] | refine AW.seq ?_ | refine AW.block ?_ | refine AW.scope ?_ | refine AW.cond_tt rfl ?_ | refine AW.cond_ff rfl ?_ | refine AW.label ?_ | refine AW.skip ?_ | refine AW.ret ?_ | refine AW.exit ?_ | refine AW.region ?_ | refine AW.draw (by kernel_rfl) (by decide +kernel) ?_ | refine AW.drawN (by kernel_rfl) (by decide +kernel) ?_ | ((with_reducible refine And.intro ?_ ?_); (focus ((repeat' (with_reducible apply And.intro)) <;> first | (with_reducible exact OrdAt.of (by kernel_rfl)) | (with_reducible exact OrdT.of (by kernel_rfl)) | exact True.intro | (with_reducible assumption) | omega | rfl | exact Nat.le_of_ble_eq_true rfl | exact Or.inl trivial | (unfold inI; omega)))))
  (first | refine CallE.mem (e2) (by first | rfl | (simp only [List.map_cons, List.map_nil, frz_sl, frz_agg8, frz_agb, frz_agg32, frz_vv, frz_hv]; done) | (simp only [List.map_cons, List.map_nil, frz_sl, frz_agg8, frz_agb, frz_agg32, frz_vv, frz_hv]; rfl)) (by simp [bor, look_cons, isBox]) (by rfl) ?_ | refine CallXE.mem (e2) (by first | rfl | (simp only [List.map_cons, List.map_nil, frz_sl, frz_agg8, frz_agb, frz_agg32, frz_vv, frz_hv]; done) | (simp only [List.map_cons, List.map_nil, frz_sl, frz_agg8, frz_agb, frz_agg32, frz_vv, frz_hv]; rfl)) (by simp [bor, look_cons, isBox]) (by rfl) ?_)
  repeat (first | simp only [go_sem, Nat.reduceLT, Nat.reduceEqDiff, reduceIte, Int.reduceEq, Int.reduceLE, Int.reduceLT, Nat.reduceMul, Nat.reduceAdd, Nat.reduceSub, Int.reduceNeg, Int.reduceAdd, Int.reduceMul, Int.reduceSub, Int.reduceToNat, Nat.reduceLeDiff, Nat.reduceDiv, Int.reduceDiv, reduceCtorEq, Option.some.injEq, exists_eq_left', List.length_map, List.length_set, List.length_replicate, List.length_drop, List.length_take, List.length_append, List.drop_zero, List.take_of_length_le, Nat.le_refl, Nat.sub_zero, splice_all, row_u8, splice_u8, wrap_u64c, hk, ha, hb, hab, s1, s2, s3, hk1, hv1, hcc, spl32 (b := z32) hk1 rfl, spl32 (b := z32) hv1 rfl, z32_map, rootV_len, partV_len, tagS_len, emptyS_len, aggEq_u8, intsOk_u8, eq_self, decide_true, drG_tt, exG_tt, beq_self_eq_true, true_and, and_true, Option.isSome_some] | refine AW.seq ?_ | refine AW.block ?_ | refine AW.scope ?_ | refine AW.cond_tt rfl ?_ | refine AW.cond_ff rfl ?_ | refine AW.label ?_ | refine AW.skip ?_ | refine AW.ret ?_ | refine AW.exit ?_ | refine AW.region ?_ | refine AW.draw (by kernel_rfl) (by decide +kernel) ?_ | refine AW.drawN (by kernel_rfl) (by decide +kernel) ?_ | ((with_reducible refine And.intro ?_ ?_); (focus ((repeat' (with_reducible apply And.intro)) <;> first | (with_reducible exact OrdAt.of (by kernel_rfl)) | (with_reducible exact OrdT.of (by kernel_rfl)) | exact True.intro | (with_reducible assumption) | omega | rfl | exact Nat.le_of_ble_eq_true rfl | exact Or.inl trivial | (unfold inI; omega)))))
  (first | refine CallE.mem (n1) (by first | rfl | (simp only [List.map_cons, List.map_nil, frz_sl, frz_agg8, frz_agb, frz_agg32, frz_vv, frz_hv]; done) | (simp only [List.map_cons, List.map_nil, frz_sl, frz_agg8, frz_agb, frz_agg32, frz_vv, frz_hv]; rfl)) (by simp [bor, look_cons, isBox]) (by rfl) ?_ | refine CallXE.mem (n1) (by first | rfl | (simp only [List.map_cons, List.map_nil, frz_sl, frz_agg8, frz_agb, frz_agg32, frz_vv, frz_hv]; done) | (simp only [List.map_cons, List.map_nil, frz_sl, frz_agg8, frz_agb, frz_agg32, frz_vv, frz_hv]; rfl)) (by simp [bor, look_cons, isBox]) (by rfl) ?_)
  repeat (first | simp only [go_sem, Nat.reduceLT, Nat.reduceEqDiff, reduceIte, Int.reduceEq, Int.reduceLE, Int.reduceLT, Nat.reduceMul, Nat.reduceAdd, Nat.reduceSub, Int.reduceNeg, Int.reduceAdd, Int.reduceMul, Int.reduceSub, Int.reduceToNat, Nat.reduceLeDiff, Nat.reduceDiv, Int.reduceDiv, reduceCtorEq, Option.some.injEq, exists_eq_left', List.length_map, List.length_set, List.length_replicate, List.length_drop, List.length_take, List.length_append, List.drop_zero, List.take_of_length_le, Nat.le_refl, Nat.sub_zero, splice_all, row_u8, splice_u8, wrap_u64c, hk, ha, hb, hab, s1, s2, s3, hk1, hv1, hcc, spl32 (b := z32) hk1 rfl, spl32 (b := z32) hv1 rfl, z32_map, rootV_len, partV_len, tagS_len, emptyS_len, aggEq_u8, intsOk_u8, eq_self, decide_true, drG_tt, exG_tt, beq_self_eq_true, true_and, and_true, Option.isSome_some] | refine AW.seq ?_ | refine AW.block ?_ | refine AW.scope ?_ | refine AW.cond_tt rfl ?_ | refine AW.cond_ff rfl ?_ | refine AW.label ?_ | refine AW.skip ?_ | refine AW.ret ?_ | refine AW.exit ?_ | refine AW.region ?_ | refine AW.draw (by kernel_rfl) (by decide +kernel) ?_ | refine AW.drawN (by kernel_rfl) (by decide +kernel) ?_ | ((with_reducible refine And.intro ?_ ?_); (focus ((repeat' (with_reducible apply And.intro)) <;> first | (with_reducible exact OrdAt.of (by kernel_rfl)) | (with_reducible exact OrdT.of (by kernel_rfl)) | exact True.intro | (with_reducible assumption) | omega | rfl | exact Nat.le_of_ble_eq_true rfl | exact Or.inl trivial | (unfold inI; omega)))))
  (first | refine CallE.mem (n2) (by first | rfl | (simp only [List.map_cons, List.map_nil, frz_sl, frz_agg8, frz_agb, frz_agg32, frz_vv, frz_hv]; done) | (simp only [List.map_cons, List.map_nil, frz_sl, frz_agg8, frz_agb, frz_agg32, frz_vv, frz_hv]; rfl)) (by simp [bor, look_cons, isBox]) (by rfl) ?_ | refine CallXE.mem (n2) (by first | rfl | (simp only [List.map_cons, List.map_nil, frz_sl, frz_agg8, frz_agb, frz_agg32, frz_vv, frz_hv]; done) | (simp only [List.map_cons, List.map_nil, frz_sl, frz_agg8, frz_agb, frz_agg32, frz_vv, frz_hv]; rfl)) (by simp [bor, look_cons, isBox]) (by rfl) ?_)
  repeat (first | simp only [go_sem, Nat.reduceLT, Nat.reduceEqDiff, reduceIte, Int.reduceEq, Int.reduceLE, Int.reduceLT, Nat.reduceMul, Nat.reduceAdd, Nat.reduceSub, Int.reduceNeg, Int.reduceAdd, Int.reduceMul, Int.reduceSub, Int.reduceToNat, Nat.reduceLeDiff, Nat.reduceDiv, Int.reduceDiv, reduceCtorEq, Option.some.injEq, exists_eq_left', List.length_map, List.length_set, List.length_replicate, List.length_drop, List.length_take, List.length_append, List.drop_zero, List.take_of_length_le, Nat.le_refl, Nat.sub_zero, splice_all, row_u8, splice_u8, wrap_u64c, hk, ha, hb, hab, s1, s2, s3, hk1, hv1, hcc, spl32 (b := z32) hk1 rfl, spl32 (b := z32) hv1 rfl, z32_map, rootV_len, partV_len, tagS_len, emptyS_len, aggEq_u8, intsOk_u8, eq_self, decide_true, drG_tt, exG_tt, beq_self_eq_true, true_and, and_true, Option.isSome_some] | refine AW.seq ?_ | refine AW.block ?_ | refine AW.scope ?_ | refine AW.cond_tt rfl ?_ | refine AW.cond_ff rfl ?_ | refine AW.label ?_ | refine AW.skip ?_ | refine AW.ret ?_ | refine AW.exit ?_ | refine AW.region ?_ | refine AW.draw (by kernel_rfl) (by decide +kernel) ?_ | refine AW.drawN (by kernel_rfl) (by decide +kernel) ?_ | ((with_reducible refine And.intro ?_ ?_); (focus ((repeat' (with_reducible apply And.intro)) <;> first | (with_reducible exact OrdAt.of (by kernel_rfl)) | (with_reducible exact OrdT.of (by kernel_rfl)) | exact True.intro | (with_reducible assumption) | omega | rfl | exact Nat.le_of_ble_eq_true rfl | exact Or.inl trivial | (unfold inI; omega)))))
  (first | refine CallE.mem (o1) (by first | rfl | (simp only [List.map_cons, List.map_nil, frz_sl, frz_agg8, frz_agb, frz_agg32, frz_vv, frz_hv]; done) | (simp only [List.map_cons, List.map_nil, frz_sl, frz_agg8, frz_agb, frz_agg32, frz_vv, frz_hv]; rfl)) (by simp [bor, look_cons, isBox]) (by rfl) ?_ | refine CallXE.mem (o1) (by first | rfl | (simp only [List.map_cons, List.map_nil, frz_sl, frz_agg8, frz_agb, frz_agg32, frz_vv, frz_hv]; done) | (simp only [List.map_cons, List.map_nil, frz_sl, frz_agg8, frz_agb, frz_agg32, frz_vv, frz_hv]; rfl)) (by simp [bor, look_cons, isBox]) (by rfl) ?_)
  repeat (first | simp only [go_sem, Nat.reduceLT, Nat.reduceEqDiff, reduceIte, Int.reduceEq, Int.reduceLE, Int.reduceLT, Nat.reduceMul, Nat.reduceAdd, Nat.reduceSub, Int.reduceNeg, Int.reduceAdd, Int.reduceMul, Int.reduceSub, Int.reduceToNat, Nat.reduceLeDiff, Nat.reduceDiv, Int.reduceDiv, reduceCtorEq, Option.some.injEq, exists_eq_left', List.length_map, List.length_set, List.length_replicate, List.length_drop, List.length_take, List.length_append, List.drop_zero, List.take_of_length_le, Nat.le_refl, Nat.sub_zero, splice_all, row_u8, splice_u8, wrap_u64c, hk, ha, hb, hab, s1, s2, s3, hk1, hv1, hcc, spl32 (b := z32) hk1 rfl, spl32 (b := z32) hv1 rfl, z32_map, rootV_len, partV_len, tagS_len, emptyS_len, aggEq_u8, intsOk_u8, eq_self, decide_true, drG_tt, exG_tt, beq_self_eq_true, true_and, and_true, Option.isSome_some] | refine AW.seq ?_ | refine AW.block ?_ | refine AW.scope ?_ | refine AW.cond_tt rfl ?_ | refine AW.cond_ff rfl ?_ | refine AW.label ?_ | refine AW.skip ?_ | refine AW.ret ?_ | refine AW.exit ?_ | refine AW.region ?_ | refine AW.draw (by kernel_rfl) (by decide +kernel) ?_ | refine AW.drawN (by kernel_rfl) (by decide +kernel) ?_ | ((with_reducible refine And.intro ?_ ?_); (focus ((repeat' (with_reducible apply And.intro)) <;> first | (with_reducible exact OrdAt.of (by kernel_rfl)) | (with_reducible exact OrdT.of (by kernel_rfl)) | exact True.intro | (with_reducible assumption) | omega | rfl | exact Nat.le_of_ble_eq_true rfl | exact Or.inl trivial | (unfold inI; omega)))))
  (first | refine CallE.mem (o2) (by first | rfl | (simp only [List.map_cons, List.map_nil, frz_sl, frz_agg8, frz_agb, frz_agg32, frz_vv, frz_hv]; done) | (simp only [List.map_cons, List.map_nil, frz_sl, frz_agg8, frz_agb, frz_agg32, frz_vv, frz_hv]; rfl)) (by simp [bor, look_cons, isBox]) (by rfl) ?_ | refine CallXE.mem (o2) (by first | rfl | (simp only [List.map_cons, List.map_nil, frz_sl, frz_agg8, frz_agb, frz_agg32, frz_vv, frz_hv]; done) | (simp only [List.map_cons, List.map_nil, frz_sl, frz_agg8, frz_agb, frz_agg32, frz_vv, frz_hv]; rfl)) (by simp [bor, look_cons, isBox]) (by rfl) ?_)
  repeat (first | simp only [go_sem, Nat.reduceLT, Nat.reduceEqDiff, reduceIte, Int.reduceEq, Int.reduceLE, Int.reduceLT, Nat.reduceMul, Nat.reduceAdd, Nat.reduceSub, Int.reduceNeg, Int.reduceAdd, Int.reduceMul, Int.reduceSub, Int.reduceToNat, Nat.reduceLeDiff, Nat.reduceDiv, Int.reduceDiv, reduceCtorEq, Option.some.injEq, exists_eq_left', List.length_map, List.length_set, List.length_replicate, List.length_drop, List.length_take, List.length_append, List.drop_zero, List.take_of_length_le, Nat.le_refl, Nat.sub_zero, splice_all, row_u8, splice_u8, wrap_u64c, hk, ha, hb, hab, s1, s2, s3, hk1, hv1, hcc, spl32 (b := z32) hk1 rfl, spl32 (b := z32) hv1 rfl, z32_map, rootV_len, partV_len, tagS_len, emptyS_len, aggEq_u8, intsOk_u8, eq_self, decide_true, drG_tt, exG_tt, beq_self_eq_true, true_and, and_true, Option.isSome_some] | refine AW.seq ?_ | refine AW.block ?_ | refine AW.scope ?_ | refine AW.cond_tt rfl ?_ | refine AW.cond_ff rfl ?_ | refine AW.label ?_ | refine AW.skip ?_ | refine AW.ret ?_ | refine AW.exit ?_ | refine AW.region ?_ | refine AW.draw (by kernel_rfl) (by decide +kernel) ?_ | refine AW.drawN (by kernel_rfl) (by decide +kernel) ?_ | ((with_reducible refine And.intro ?_ ?_); (focus ((repeat' (with_reducible apply And.intro)) <;> first | (with_reducible exact OrdAt.of (by kernel_rfl)) | (with_reducible exact OrdT.of (by kernel_rfl)) | exact True.intro | (with_reducible assumption) | omega | rfl | exact Nat.le_of_ble_eq_true rfl | exact Or.inl trivial | (unfold inI; omega)))))
  exact Wk.refl _
end Go.Proofs.YtpknjecfloglgaaDoor

