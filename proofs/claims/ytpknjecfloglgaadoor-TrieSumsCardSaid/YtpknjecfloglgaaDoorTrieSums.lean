/- TrieSums: for every input the law answers true, and each argument reads behind the call as ahead of it; the package-level variables that it reads are tied to the program's text; no condition. -/
import Derived.Test.YtpknjecfloglgaaDoorTrieSumsLaw
namespace Go.Proofs.YtpknjecfloglgaaDoor
open Go Go.Eng Go.ChangeShapes Go.WideShapes Go.ChangeAt Go.RowKit
set_option linter.unusedVariables false
set_option linter.unusedSimpArgs false
set_option maxRecDepth 100000 in
theorem trieSums_lifted (os : Os) (started : os.Started) (H : Type) (enc : TypeId × Value → H) :
    ReturnsInHanded {} Tryd.checked os 4 .any (fun w args => (Rows.trieSumsSpec.pre enc Tryd.prog Tryd.f4 [] false w args ∧ laidMetH Tryd.prog seat_laid w) ∧ sizedMet enc Tryd.prog Tryd.f4 (OpenSpec.ofChange Rows.trieSumsSpec) false w args)
      (Rows.trieSumsSpec.post enc Tryd.prog Tryd.f4 false true false false) := by
  refine returnsInHanded_of_change_and (C := Tryd.checked) (X := fun w _ => laidMetH Tryd.prog seat_laid w) (fun _ _ _ hh h => h.of_heap hh) seat_own started (by kernel_rfl) Tryd.func4
    (ChangeSpec.witness_shaped (enc := enc) (C := Tryd.checked) (os := os) (X := fun w _ => laidMetH Tryd.prog seat_laid w) false (World.doorLaid Tryd.prog 400 os) #[.slice none 0 0, .agg (Array.replicate 32 (.int .u8 0)), .int .i64 0, .agg (Array.replicate 32 (.int .u8 0)), .agg (Array.replicate 32 (.int .u8 0))] 8 rfl (World.shaped_of_RefB (by kernel_rfl) (by kernel_rfl)) (by kernel_rfl) (by kernel_rfl) (by kernel_rfl) (seat_door os _)) ?_
  intro W base args ds gs before hval0 hW _ _ hL _
  have hval : ∀ (j : Nat) t v, Tryd.f4.params[j]? = some t → args[j]? = some v → Value.okWide Tryd.prog W .any base t v := hval0
  have hW' := hW
  obtain ⟨p, q, hA0, hV, rfl, hfz, hnd⟩ := hW
  have hA : DataW.TrodAll enc Tryd.prog W 0 (fun _ => true) true Tryd.f4.params.toList args.toList ds p := hA0
  rw [Tryd.params4] at hA hval
  obtain ⟨v0, vs0, d0, ds0, p0, q0, hargs, rfl, rfl, h0, r0⟩ := trodAll_cons hA
  obtain ⟨v1, vs1, d1, ds1, p1, q1, rfl, rfl, rfl, h1, r1⟩ := trodAll_cons r0
  obtain ⟨v2, vs2, d2, ds2, p2, q2, rfl, rfl, rfl, h2, r2⟩ := trodAll_cons r1
  obtain ⟨v3, vs3, d3, ds3, p3, q3, rfl, rfl, rfl, h3, r3⟩ := trodAll_cons r2
  obtain ⟨v4, vs4, d4, ds4, p4, q4, rfl, rfl, rfl, h4, r4⟩ := trodAll_cons r3
  obtain ⟨rfl, rfl, rfl⟩ := trodAll_nil r4
  obtain rfl : args = #[v0, v1, v2, v3, v4] := by cases args; simp_all
  obtain ⟨rfl, rfl⟩ := trodVars_none hV
  have k0 := h0
  have lt0 : ∀ x ∈ p0, x.block < W.heap.size := by obtain ⟨m, hm⟩ := k0; exact DataW.trod_lt m _ _ _ hm
  have k1 := h1
  have lt1 : ∀ x ∈ p1, x.block < W.heap.size := by obtain ⟨m, hm⟩ := k1; exact DataW.trod_lt m _ _ _ hm
  have k2 := h2
  have lt2 : ∀ x ∈ p2, x.block < W.heap.size := by obtain ⟨m, hm⟩ := k2; exact DataW.trod_lt m _ _ _ hm
  have k3 := h3
  have lt3 : ∀ x ∈ p3, x.block < W.heap.size := by obtain ⟨m, hm⟩ := k3; exact DataW.trod_lt m _ _ _ hm
  have k4 := h4
  have lt4 : ∀ x ∈ p4, x.block < W.heap.size := by obtain ⟨m, hm⟩ := k4; exact DataW.trod_lt m _ _ _ hm
  obtain ⟨_, ⟨x1, hx1, rfl⟩, Q0⟩ := arg_slice Tryd.underlying22 reads_leaves (hval 0 22 v0 rfl rfl) k0
  obtain ⟨_, ⟨x2, hx2, rfl⟩, R1⟩ := arg_array Tryd.underlying23 (Reads.arrayOf Tryd.underlying23 (Reads.u8 Tryd.underlying5) Tryd.csz5 Tryd.csz23) (hval 1 23 v1 rfl rfl) k1
  have Q1 := RL_one R1
  obtain ⟨x4, hx4, R2⟩ := arg_int Tryd.underlying3 (hval 2 3 v2 rfl rfl) k2
  have Q2 := RL_one R2
  obtain ⟨_, ⟨x5, hx5, rfl⟩, R3⟩ := arg_array Tryd.underlying23 (Reads.arrayOf Tryd.underlying23 (Reads.u8 Tryd.underlying5) Tryd.csz5 Tryd.csz23) (hval 3 23 v3 rfl rfl) k3
  have Q3 := RL_one R3
  obtain ⟨_, ⟨x7, hx7, rfl⟩, R4⟩ := arg_array Tryd.underlying23 (Reads.arrayOf Tryd.underlying23 (Reads.u8 Tryd.underlying5) Tryd.csz5 Tryd.csz23) (hval 4 23 v4 rfl rfl) k4
  have Q4 := RL_one R4
  refine ((f4 x1 hx1 x2 hx2 x4 x5 x7 hx5 hx7).calls (W := W) (seat_gok hL) (RL_append Q0 (RL_append Q1 (RL_append Q2 (RL_append Q3 (RL_append Q4 (RL_nil)))))) Tryd.call4).mono fun e W' ⟨he, bel⟩ => ?_
  subst he
  exact ⟨_, rfl, _, _, _, [], _, [], hW', trodAll_mk1 (shut_bool Tryd.underlying4 _), (trodAll_cons_mk (Below.trod seat_laidOut (by kernel_rfl) (of_decide_eq_true (by kernel_rfl)) k0 bel lt0) (trodAll_cons_mk (Below.trod seat_laidOut (by kernel_rfl) (of_decide_eq_true (by kernel_rfl)) k1 bel lt1) (trodAll_cons_mk (Below.trod seat_laidOut (by kernel_rfl) (of_decide_eq_true (by kernel_rfl)) k2 bel lt2) (trodAll_cons_mk (Below.trod seat_laidOut (by kernel_rfl) (of_decide_eq_true (by kernel_rfl)) k3 bel lt3) (trodAll_cons_mk (Below.trod seat_laidOut (by kernel_rfl) (of_decide_eq_true (by kernel_rfl)) k4 bel lt4) (trodAll_mk0)))))), rfl, bel.frame _, fun h => by cases h⟩
theorem trieSums_over : Rows.trieSumsRow.holds Tryd.pinned (OpenSpec.ofChange Rows.trieSumsSpec) :=
  OpenClaim.holds_of_wide 4 Tryd.f4 rfl rfl rfl rfl rfl rfl rfl ⟨rfl, rfl, rfl, rfl, rfl⟩ rfl rfl rfl rfl rfl (by kernel_rfl) Tryd.func4 (by kernel_rfl)
    (of_decide_eq_true (by kernel_rfl)) (by unfold Func.isWrapper; first | (rw [if_pos (by decide +kernel)]; kernel_rfl) | (rw [if_neg (by decide +kernel)]; exact ⟨rfl, rfl⟩))
    (fun os started H enc _ => trieSums_lifted os started H enc)
/-- THE STATEMENT: the tied card -/
theorem trieSums_holds : Rows.TrieSumsCardSaid :=
  Claim7.holds_tied_plain_at .later [] [.data, .data] true (true, "17bb70be9b37413dbb0d22362c4468bc50143bc499ac27bb21691619d780f457") false
    trieSums_over (fun _ h => by cases h) (by kernel_rfl) (fun _ h => by cases h) trieSums_row_tie rfl ⟨rfl, rfl⟩ (by kernel_rfl) rfl
    (fun f fn hf hfn => by
      obtain rfl : f = 4 := Option.some.inj ((show Tryd.prog.funcNamed Rows.trieSumsRow.func = some 4 by kernel_rfl).symm.trans hf) |>.symm
      obtain rfl : fn = Tryd.f4 := (Option.some.inj (Tryd.func4.symm.trans hfn)).symm
      exact ⟨by kernel_rfl, fun j t ht => by
        rw [Tryd.params4] at ht
        have hm : t ∈ ([22, 23, 3, 23, 23] : List Nat) := by simpa using Array.mem_of_getElem? ht
        have hall : (([22, 23, 3, 23, 23] : List Nat).all fun u => !Tryd.prog.wantsStandIn u) = true := by kernel_rfl
        exact (show Tryd.prog.wantsStandIn t = false by simpa using List.all_eq_true.1 hall t hm)⟩)
    (by kernel_rfl)
end Go.Proofs.YtpknjecfloglgaaDoor
