/- What octet and its document compute, function by function (second part); no condition but on lengths. -/
import Derived.Test.YtapjkdmdckfjbaaWalkA
set_option linter.unusedVariables false
set_option linter.unusedSimpArgs false
namespace Go.Proofs.Ytapjkdmdckfjbaa
open Go Go.Eng Go.Proofs
set_option maxRecDepth 100000
set_option linter.unusedSimpArgs false
set_option linter.unusedVariables false
def tx (t : List UInt8) : AV := .sl 1 (bys t) t.length none
theorem row_tx {l : List (List UInt8)} {n : Nat} (h : n < l.length) : (List.drop n (l.map tx)).getD 0 .bad = .sl 1 (bys (l.getD n [])) (l.getD n []).length none := by
  rw [List.getD_eq_getElem?_getD, List.getElem?_drop, Nat.add_zero, List.getElem?_map, List.getElem?_eq_getElem h, List.getD_eq_getElem?_getD, List.getElem?_eq_getElem h]; rfl
theorem bytesA_bys (b : List UInt8) : bytesA (bys b) = b := by
  unfold bytesA bys
  rw [List.map_map]
  conv => rhs; rw [← List.map_id b]
  refine List.map_congr_left fun x _ => ?_
  have h : (x.toNat : Int) < 256 := by have := x.toNat_lt; omega
  simp [byteA, h]
theorem bytesOk_bys (b : List UInt8) : bytesOk (bys b) = True := by
  simp only [bytesOk, bys, List.mem_map, eq_iff_iff, iff_true]
  rintro _ ⟨x, _, rfl⟩
  have h : (x.toNat : Int) < 256 := by have := x.toNat_lt; omega
  have h0 : (0 : Int) ≤ x.toNat := by omega
  simp [byteA, h]
theorem renL_tx (σ : Nat → Nat) (l : List (List UInt8)) : renL σ (l.map tx) = l.map tx := renL_fix (by simp [ren, tx, renL_bys])
theorem labL_tx (n : Nat) (l : List (List UInt8)) : labL n (l.map tx) = True := eq_true (labL_all (by simp [lab, tx]))
def st17 (a b : List (List UInt8)) (j : Nat) : S := ⟨[(5, int j), (0, .sl 1 (a.map tx) a.length none), (1, .sl 1 (b.map tx) b.length none)], 28, [], 0, []⟩
theorem f17 (a b : List (List UInt8)) (hm : a.length ≤ 1000000) : AFun Try.prog 17 [.sl 1 (a.map tx) a.length none, .sl 1 (b.map tx) b.length none] (boo (decide (a = b))) := by
  refine AFun.enterW Try.func17 rfl Try.call17 (by simp [Try.ntmps17]) fun γ1 => ?_
  simp only [frameOf, Try.ntmps17]
  repeat (first | simp only [go_sem, Nat.reduceLT, Nat.reduceEqDiff, reduceIte, Int.reduceEq, Int.reduceLE, Int.reduceLT, Nat.reduceMul, Nat.reduceAdd, Nat.reduceSub, Int.reduceNeg, Int.reduceAdd, Int.reduceMul, Int.reduceSub, Int.reduceToNat, Nat.reduceLeDiff, Nat.reduceDiv, Int.reduceDiv, reduceCtorEq] | refine AW.seq ?_ | refine AW.block ?_ | refine AW.scope ?_ | refine AW.cond_tt rfl ?_ | refine AW.cond_ff rfl ?_ | refine AW.label ?_ | refine AW.skip ?_ | refine AW.ret ?_ | refine AW.exit ?_ | refine AW.region ?_ | refine AW.draw (by kernel_rfl) (by kernel_rfl) ?_ | ((with_reducible refine And.intro ?_ ?_); (focus ((repeat' (with_reducible apply And.intro)) <;> first | trivial | omega | rfl | (unfold inI; omega)))))
  refine AW.cond_dec rfl (fun h1 => ?_) (fun h1 => ?_)
  · repeat (first | simp only [go_sem, Nat.reduceLT, Nat.reduceEqDiff, reduceIte, Int.reduceEq, Int.reduceLE, Int.reduceLT, Nat.reduceMul, Nat.reduceAdd, Nat.reduceSub, Int.reduceNeg, Int.reduceAdd, Int.reduceMul, Int.reduceSub, Int.reduceToNat, Nat.reduceLeDiff, Nat.reduceDiv, Int.reduceDiv, reduceCtorEq] | refine AW.seq ?_ | refine AW.block ?_ | refine AW.scope ?_ | refine AW.cond_tt rfl ?_ | refine AW.cond_ff rfl ?_ | refine AW.label ?_ | refine AW.skip ?_ | refine AW.ret ?_ | refine AW.exit ?_ | refine AW.region ?_ | refine AW.draw (by kernel_rfl) (by kernel_rfl) ?_ | ((with_reducible refine And.intro ?_ ?_); (focus ((repeat' (with_reducible apply And.intro)) <;> first | trivial | omega | rfl | (unfold inI; omega)))))
    have hne : a ≠ b := by rintro rfl; exact h1 rfl
    simp only [hne, decide_false]
    exact Wk.refl _
  · have hlen : a.length = b.length := by omega
    repeat (first | simp only [go_sem, Nat.reduceLT, Nat.reduceEqDiff, reduceIte, Int.reduceEq, Int.reduceLE, Int.reduceLT, Nat.reduceMul, Nat.reduceAdd, Nat.reduceSub, Int.reduceNeg, Int.reduceAdd, Int.reduceMul, Int.reduceSub, Int.reduceToNat, Nat.reduceLeDiff, Nat.reduceDiv, Int.reduceDiv, reduceCtorEq] | refine AW.seq ?_ | refine AW.block ?_ | refine AW.scope ?_ | refine AW.cond_tt rfl ?_ | refine AW.cond_ff rfl ?_ | refine AW.label ?_ | refine AW.skip ?_ | refine AW.ret ?_ | refine AW.exit ?_ | refine AW.region ?_ | refine AW.draw (by kernel_rfl) (by kernel_rfl) ?_ | ((with_reducible refine And.intro ?_ ?_); (focus ((repeat' (with_reducible apply And.intro)) <;> first | trivial | omega | rfl | (unfold inI; omega)))))
    refine AW.loop (fun s => ∃ j : Nat, j ≤ a.length ∧ a.take j = b.take j ∧ s = st17 a b j) (fun s => (a.length - slotN s 5).toNat) (s0 := st17 a b 0) ?_ ⟨0, by omega, rfl, rfl⟩ ?_
    · simp only [st17]
      exact (Sub.same (by first | exact Nat.zero_le _ | decide | omega) rfl rfl (by simp) (by simp [lab, labL, ren, renL, look_cons, renL_tx, labL_tx]) (by simp))
    rintro s ⟨j, hj, hp, rfl⟩
    simp only [st17]
    repeat (first | simp only [go_sem, Nat.reduceLT, Nat.reduceEqDiff, reduceIte, Int.reduceEq, Int.reduceLE, Int.reduceLT, Nat.reduceMul, Nat.reduceAdd, Nat.reduceSub, Int.reduceNeg, Int.reduceAdd, Int.reduceMul, Int.reduceSub, Int.reduceToNat, Nat.reduceLeDiff, Nat.reduceDiv, Int.reduceDiv, reduceCtorEq] | refine AW.seq ?_ | refine AW.block ?_ | refine AW.scope ?_ | refine AW.cond_tt rfl ?_ | refine AW.cond_ff rfl ?_ | refine AW.label ?_ | refine AW.skip ?_ | refine AW.ret ?_ | refine AW.exit ?_ | refine AW.region ?_ | refine AW.draw (by kernel_rfl) (by kernel_rfl) ?_ | ((with_reducible refine And.intro ?_ ?_); (focus ((repeat' (with_reducible apply And.intro)) <;> first | trivial | omega | rfl | (unfold inI; omega)))))
    refine AW.cond_dec rfl (fun h3 => ?_) (fun h3 => ?_)
    · have hja : j < a.length := by omega
      have hjb : j < b.length := by omega
      repeat (first | simp only [go_sem, Nat.reduceLT, Nat.reduceEqDiff, reduceIte, Int.reduceEq, Int.reduceLE, Int.reduceLT, Nat.reduceMul, Nat.reduceAdd, Nat.reduceSub, Int.reduceNeg, Int.reduceAdd, Int.reduceMul, Int.reduceSub, Int.reduceToNat, Nat.reduceLeDiff, Nat.reduceDiv, Int.reduceDiv, reduceCtorEq, row_tx, hja, hjb, List.length_drop, List.length_map, bytesA_bys, bytesOk_bys] | refine AW.seq ?_ | refine AW.block ?_ | refine AW.scope ?_ | refine AW.cond_tt rfl ?_ | refine AW.cond_ff rfl ?_ | refine AW.label ?_ | refine AW.skip ?_ | refine AW.ret ?_ | refine AW.exit ?_ | refine AW.region ?_ | refine AW.draw (by kernel_rfl) (by kernel_rfl) ?_ | ((with_reducible refine And.intro ?_ ?_); (focus ((repeat' (with_reducible apply And.intro)) <;> first | trivial | omega | rfl | (unfold inI; omega)))))
      have key : ∀ {α : Type} (l : List α) (d : α), j < l.length → l.take (j + 1) = l.take j ++ [l.getD j d] := by
        intro α l d h
        rw [List.take_succ_eq_append_getElem h]
        simp [List.getD_eq_getElem?_getD, h]
      refine AW.cond_dec rfl (fun h4 => ?_) (fun h4 => ?_)
      · repeat (first | simp only [go_sem, Nat.reduceLT, Nat.reduceEqDiff, reduceIte, Int.reduceEq, Int.reduceLE, Int.reduceLT, Nat.reduceMul, Nat.reduceAdd, Nat.reduceSub, Int.reduceNeg, Int.reduceAdd, Int.reduceMul, Int.reduceSub, Int.reduceToNat, Nat.reduceLeDiff, Nat.reduceDiv, Int.reduceDiv, reduceCtorEq] | refine AW.seq ?_ | refine AW.block ?_ | refine AW.scope ?_ | refine AW.cond_tt rfl ?_ | refine AW.cond_ff rfl ?_ | refine AW.label ?_ | refine AW.skip ?_ | refine AW.ret ?_ | refine AW.exit ?_ | refine AW.region ?_ | refine AW.draw (by kernel_rfl) (by kernel_rfl) ?_ | ((with_reducible refine And.intro ?_ ?_); (focus ((repeat' (with_reducible apply And.intro)) <;> first | trivial | omega | rfl | (unfold inI; omega)))))
        have hne : a ≠ b := by rintro rfl; exact h4 rfl
        simp only [hne, decide_false]
        exact Wk.refl _
      · repeat (first | simp only [go_sem, Nat.reduceLT, Nat.reduceEqDiff, reduceIte, Int.reduceEq, Int.reduceLE, Int.reduceLT, Nat.reduceMul, Nat.reduceAdd, Nat.reduceSub, Int.reduceNeg, Int.reduceAdd, Int.reduceMul, Int.reduceSub, Int.reduceToNat, Nat.reduceLeDiff, Nat.reduceDiv, Int.reduceDiv, reduceCtorEq] | refine AW.seq ?_ | refine AW.block ?_ | refine AW.scope ?_ | refine AW.cond_tt rfl ?_ | refine AW.cond_ff rfl ?_ | refine AW.label ?_ | refine AW.skip ?_ | refine AW.ret ?_ | refine AW.exit ?_ | refine AW.region ?_ | refine AW.draw (by kernel_rfl) (by kernel_rfl) ?_ | ((with_reducible refine And.intro ?_ ?_); (focus ((repeat' (with_reducible apply And.intro)) <;> first | trivial | omega | rfl | (unfold inI; omega)))))
        rw [Qof_lp]
        refine ⟨st17 a b (j + 1), ?_, ⟨j + 1, by omega, ?_, rfl⟩, ?_⟩
        · simp only [st17]
          exact (Sub.same (by first | exact Nat.zero_le _ | decide | omega) rfl rfl (by simp) (by simp [lab, labL, ren, renL, look_cons, renL_tx, labL_tx]) (by simp))
        · rw [key a [] hja, key b [] hjb, hp, Decidable.not_not.1 h4]
        · simp [slotN, st17, look_cons]; omega
    · repeat (first | simp only [go_sem, Nat.reduceLT, Nat.reduceEqDiff, reduceIte, Int.reduceEq, Int.reduceLE, Int.reduceLT, Nat.reduceMul, Nat.reduceAdd, Nat.reduceSub, Int.reduceNeg, Int.reduceAdd, Int.reduceMul, Int.reduceSub, Int.reduceToNat, Nat.reduceLeDiff, Nat.reduceDiv, Int.reduceDiv, reduceCtorEq] | refine AW.seq ?_ | refine AW.block ?_ | refine AW.scope ?_ | refine AW.cond_tt rfl ?_ | refine AW.cond_ff rfl ?_ | refine AW.label ?_ | refine AW.skip ?_ | refine AW.ret ?_ | refine AW.exit ?_ | refine AW.region ?_ | refine AW.draw (by kernel_rfl) (by kernel_rfl) ?_ | ((with_reducible refine And.intro ?_ ?_); (focus ((repeat' (with_reducible apply And.intro)) <;> first | trivial | omega | rfl | (unfold inI; omega)))))
      have hj' : j = a.length := by omega
      subst hj'
      rw [List.take_length, hlen, List.take_length] at hp
      simp only [hp, decide_true]
      exact Wk.refl _
end Go.Proofs.Ytapjkdmdckfjbaa

namespace Go.Proofs.Ytapjkdmdckfjbaa
open Go Go.Eng Go.Proofs
set_option maxRecDepth 100000
set_option linter.unusedSimpArgs false
set_option linter.unusedVariables false
def txN (l : List UInt8) : Nat := (l.getD 0 0).toNat * 256 + (l.getD 1 0).toNat
def textsO (l : List UInt8) : Option (List (List UInt8)) :=
  if l.length = 0 then some [] else if l.length < 2 + txN l then none else (textsO (l.drop (2 + txN l))).map ((l.drop 2).take (txN l) :: ·)
termination_by l.length
decreasing_by simp only [List.length_drop]; omega
def hp15 (b : List UInt8) (rec : LoopState → Option Code → Obj) (x : AV) : List (Nat × Ob) := [(4, .raw (rec .ready none)), (3, .raw (.deferred (some []))), (2, .box [.sl 1 (bys b) b.length none]), (1, .box [int 0]), (0, .box [x])]
def st28 (b : List UInt8) (l : Nat) (rec : LoopState → Option Code → Obj) (left : List UInt8) (d : List (List UInt8)) : S :=
  if d = [] then ⟨[(3, .sl 1 (bys left) left.length none), (0, yv l), (1, .loc 2 0)], 40, hp15 b rec nilS, 5, []⟩
  else ⟨[(3, .sl 1 (bys left) left.length none), (0, yv l), (1, .loc 2 0)], 40, (5, .tok) :: hp15 b rec (.sl 1 (d.map tx) d.length (some 5)), 6, []⟩
theorem st28_nil {b : List UInt8} {l : Nat} {rec : LoopState → Option Code → Obj} {left : List UInt8} : st28 b l rec left [] = ⟨[(3, .sl 1 (bys left) left.length none), (0, .v (.func (.yield l) #[] #[])), (1, .loc 2 0)], 40, [(4, .raw (rec .ready none)), (3, .raw (.deferred (some []))), (2, .box [.sl 1 (bys b) b.length none]), (1, .box [int 0]), (0, .box [nilS])], 5, []⟩ := rfl
theorem st28_cons {b : List UInt8} {l : Nat} {rec : LoopState → Option Code → Obj} {left : List UInt8} {d : List (List UInt8)} (h : d ≠ []) : st28 b l rec left d = ⟨[(3, .sl 1 (bys left) left.length none), (0, .v (.func (.yield l) #[] #[])), (1, .loc 2 0)], 40, [(5, .tok), (4, .raw (rec .ready none)), (3, .raw (.deferred (some []))), (2, .box [.sl 1 (bys b) b.length none]), (1, .box [int 0]), (0, .box [.sl 1 (d.map tx) d.length (some 5)])], 6, []⟩ := by
  simp only [st28, if_neg h]; rfl
def textsS (b : List UInt8) : List (List UInt8) := (textsO b).getD []
def textsE (b : List UInt8) : Int := if (textsO b).isSome then 0 else 10
theorem textsO_none {l : List UInt8} (h : l.length ≠ 0) (h2 : l.length < 2 + txN l) : textsO l = none := by
  rw [textsO, if_neg h, if_pos h2]
theorem textsO_some {l : List UInt8} (h : l.length ≠ 0) (h2 : ¬ l.length < 2 + txN l) : textsO l = (textsO (l.drop (2 + txN l))).map ((l.drop 2).take (txN l) :: ·) := by
  rw [textsO, if_neg h, if_neg h2]
theorem textsO_nil {l : List UInt8} (h : l.length = 0) : textsO l = some [] := by
  rw [textsO, if_pos h]
theorem f15 (b : List UInt8) (hb : b.length ≤ 1000000) : AFun Try.prog 15 [.sl 1 (bys b) b.length none] (.tup [.sl 1 ((textsS b).map tx) (textsS b).length none, int (textsE b)]) := by
  refine AFun.enterW Try.func15 rfl Try.call15 (by simp [Try.ntmps15]) fun γ1 => ?_
  simp only [frameOf, Try.ntmps15]
  repeat (first | simp only [go_sem, Nat.reduceLT, Nat.reduceEqDiff, reduceIte, Int.reduceEq, Int.reduceLE, Int.reduceLT, Nat.reduceMul, Nat.reduceAdd, Nat.reduceSub, Int.reduceNeg, Int.reduceAdd, Int.reduceMul, Int.reduceSub, Int.reduceToNat, Nat.reduceLeDiff, Nat.reduceDiv, Int.reduceDiv, reduceCtorEq] | refine AW.seq ?_ | refine AW.block ?_ | refine AW.scope ?_ | refine AW.cond_tt rfl ?_ | refine AW.cond_ff rfl ?_ | refine AW.label ?_ | refine AW.skip ?_ | refine AW.ret ?_ | refine AW.exit ?_ | refine AW.region ?_ | refine AW.draw (by kernel_rfl) (by kernel_rfl) ?_ | ((with_reducible refine And.intro ?_ ?_); (focus ((repeat' (with_reducible apply And.intro)) <;> first | trivial | omega | rfl | (unfold inI; omega)))))
  refine CallE.enter Try.func26 rfl Try.call26 (by simp [Try.ntmps26]) (by rfl) fun γ2 => ?_
  simp only [frameOf, Try.ntmps26]
  repeat (first | simp only [go_sem, Nat.reduceLT, Nat.reduceEqDiff, reduceIte, Int.reduceEq, Int.reduceLE, Int.reduceLT, Nat.reduceMul, Nat.reduceAdd, Nat.reduceSub, Int.reduceNeg, Int.reduceAdd, Int.reduceMul, Int.reduceSub, Int.reduceToNat, Nat.reduceLeDiff, Nat.reduceDiv, Int.reduceDiv, reduceCtorEq] | refine AW.seq ?_ | refine AW.block ?_ | refine AW.scope ?_ | refine AW.cond_tt rfl ?_ | refine AW.cond_ff rfl ?_ | refine AW.label ?_ | refine AW.skip ?_ | refine AW.ret ?_ | refine AW.exit ?_ | refine AW.region ?_ | refine AW.draw (by kernel_rfl) (by kernel_rfl) ?_ | ((with_reducible refine And.intro ?_ ?_); (focus ((repeat' (with_reducible apply And.intro)) <;> first | trivial | omega | rfl | (unfold inI; omega)))))
  refine AW.rangeFunc rfl rfl Try.func28 rfl Try.call28 (by simp) (by simp [Try.ntmps28]) fun l rec γ3 hY => ?_
  simp only [Try.ntmps28] at hY ⊢
  repeat (first | simp only [go_sem, Nat.reduceLT, Nat.reduceEqDiff, reduceIte, Int.reduceEq, Int.reduceLE, Int.reduceLT, Nat.reduceMul, Nat.reduceAdd, Nat.reduceSub, Int.reduceNeg, Int.reduceAdd, Int.reduceMul, Int.reduceSub, Int.reduceToNat, Nat.reduceLeDiff, Nat.reduceDiv, Int.reduceDiv, reduceCtorEq] | refine AW.seq ?_ | refine AW.block ?_ | refine AW.scope ?_ | refine AW.cond_tt rfl ?_ | refine AW.cond_ff rfl ?_ | refine AW.label ?_ | refine AW.skip ?_ | refine AW.ret ?_ | refine AW.exit ?_ | refine AW.region ?_ | refine AW.draw (by kernel_rfl) (by kernel_rfl) ?_ | ((with_reducible refine And.intro ?_ ?_); (focus ((repeat' (with_reducible apply And.intro)) <;> first | trivial | omega | rfl | (unfold inI; omega)))))
  refine AW.loop (fun s => ∃ (d : List (List UInt8)) (left : List UInt8), d.length + left.length ≤ b.length ∧ textsO b = (textsO left).map (d ++ ·) ∧ s = st28 b l rec left d) (fun s => match Eng.look s.fr 3 with | some (.sl _ _ n _) => n | _ => 0) (s0 := st28 b l rec b []) ?_ ⟨[], b, by simp, by simp, rfl⟩ ?_
  · simp only [st28, if_pos, hp15, yv]
    exact (Sub.same (by first | exact Nat.zero_le _ | exact Nat.le_refl _ | decide | omega) rfl rfl (by simp) (by simp [lab, labL, ren, renL, look_cons, renL_bys, labL_bys, renL_mapu8, labL_mapu8]) (by simp [labO, renO, lab, labL, ren, renL, look_cons, renL_bys, labL_bys, renL_mapu8, labL_mapu8]))
  rintro s ⟨d, left, hl0, ht, rfl⟩
  have hl : left.length ≤ b.length := by omega
  have hx := (left.getD 0 0).toNat_lt
  have hy := (left.getD 1 0).toNat_lt
  have hg : (left.drop 1).getD 0 0 = left.getD 1 0 := by simp [List.getD_eq_getElem?_getD]
  have hw : IntKind.i64.wrap (((left.getD 0 0).toNat : Int) * 2 ^ min 8 64) = ((left.getD 0 0).toNat : Int) * 256 := by rw [show (2 ^ min 8 64 : Int) = 256 from rfl]; exact wrap_inI (by unfold inI; omega)
  have hT : (2 : Int) + (left.getD 0 0).toNat * 256 + (left.getD 1 0).toNat = ((2 + txN left : Nat) : Int) := by unfold txN; omega
  have e2 : (((2 + txN left : Nat) : Int) - 2).toNat = txN left := by omega
  have e4 : ((left.length : Int) - ((2 + txN left : Nat) : Int)).toNat = left.length - (2 + txN left) := by omega
  have e5 : (left.drop (2 + txN left)).take (left.length - (2 + txN left)) = left.drop (2 + txN left) := List.take_of_length_le (by simp)
  have none_case : textsO left = none → Wk (AV.tup [AV.v (Value.slice none 0 0), AV.v (Value.int IntKind.i64 10)]) (AV.tup [AV.sl 1 (List.map tx (textsS b)) (textsS b).length none, int (textsE b)]) := by
    intro h
    rw [h] at ht
    simp only [textsS, textsE, ht, Option.map_none, Option.getD_none, List.map_nil, List.length_nil, Option.isSome_none, Bool.false_eq_true, if_false]
    exact Wk.tup ⟨Wk.nil rfl rfl, Wk.refl _, trivial⟩
  have meas : ∀ d', (match Eng.look (st28 b l rec (left.drop (2 + txN left)) d').fr 3 with | some (.sl _ _ n _) => n | _ => 0) = left.length - (2 + txN left) := by
    intro d'
    by_cases h : d' = []
    · rw [st28, if_pos h]; exact List.length_drop
    · rw [st28, if_neg h]; exact List.length_drop
  by_cases hd : d = []
  · subst hd
    rw [st28_nil]
    repeat (first | simp only [go_sem, Nat.reduceLT, Nat.reduceEqDiff, reduceIte, Int.reduceEq, Int.reduceLE, Int.reduceLT, Nat.reduceMul, Nat.reduceAdd, Nat.reduceSub, Int.reduceNeg, Int.reduceAdd, Int.reduceMul, Int.reduceSub, Int.reduceToNat, Nat.reduceLeDiff, Nat.reduceDiv, Int.reduceDiv, reduceCtorEq] | refine AW.seq ?_ | refine AW.block ?_ | refine AW.scope ?_ | refine AW.cond_tt rfl ?_ | refine AW.cond_ff rfl ?_ | refine AW.label ?_ | refine AW.skip ?_ | refine AW.ret ?_ | refine AW.exit ?_ | refine AW.region ?_ | refine AW.draw (by kernel_rfl) (by kernel_rfl) ?_ | ((with_reducible refine And.intro ?_ ?_); (focus ((repeat' (with_reducible apply And.intro)) <;> first | trivial | omega | rfl | (unfold inI; omega)))))
    refine AW.cond_dec rfl (fun h1 => ?_) (fun h1 => ?_)
    · repeat (first | simp only [go_sem, Nat.reduceLT, Nat.reduceEqDiff, reduceIte, Int.reduceEq, Int.reduceLE, Int.reduceLT, Nat.reduceMul, Nat.reduceAdd, Nat.reduceSub, Int.reduceNeg, Int.reduceAdd, Int.reduceMul, Int.reduceSub, Int.reduceToNat, Nat.reduceLeDiff, Nat.reduceDiv, Int.reduceDiv, reduceCtorEq] | refine AW.seq ?_ | refine AW.block ?_ | refine AW.scope ?_ | refine AW.cond_tt rfl ?_ | refine AW.cond_ff rfl ?_ | refine AW.label ?_ | refine AW.skip ?_ | refine AW.ret ?_ | refine AW.exit ?_ | refine AW.region ?_ | refine AW.draw (by kernel_rfl) (by kernel_rfl) ?_ | ((with_reducible refine And.intro ?_ ?_); (focus ((repeat' (with_reducible apply And.intro)) <;> first | trivial | omega | rfl | (unfold inI; omega)))))
      refine AW.cond_dec rfl (fun h2 => ?_) (fun h2 => ?_)
      · repeat (first | simp only [go_sem, Nat.reduceLT, Nat.reduceEqDiff, reduceIte, Int.reduceEq, Int.reduceLE, Int.reduceLT, Nat.reduceMul, Nat.reduceAdd, Nat.reduceSub, Int.reduceNeg, Int.reduceAdd, Int.reduceMul, Int.reduceSub, Int.reduceToNat, Nat.reduceLeDiff, Nat.reduceDiv, Int.reduceDiv, reduceCtorEq] | refine AW.seq ?_ | refine AW.block ?_ | refine AW.scope ?_ | refine AW.cond_tt rfl ?_ | refine AW.cond_ff rfl ?_ | refine AW.label ?_ | refine AW.skip ?_ | refine AW.ret ?_ | refine AW.exit ?_ | refine AW.region ?_ | refine AW.draw (by kernel_rfl) (by kernel_rfl) ?_ | ((with_reducible refine And.intro ?_ ?_); (focus ((repeat' (with_reducible apply And.intro)) <;> first | trivial | omega | rfl | (unfold inI; omega)))))
        refine ⟨rfl, hY _ _ _ _ rfl (by rfl) fun γy hγ => ?_⟩
        repeat (first | simp only [go_sem, Nat.reduceLT, Nat.reduceEqDiff, reduceIte, Int.reduceEq, Int.reduceLE, Int.reduceLT, Nat.reduceMul, Nat.reduceAdd, Nat.reduceSub, Int.reduceNeg, Int.reduceAdd, Int.reduceMul, Int.reduceSub, Int.reduceToNat, Nat.reduceLeDiff, Nat.reduceDiv, Int.reduceDiv, reduceCtorEq] | refine AW.seq ?_ | refine AW.block ?_ | refine AW.scope ?_ | refine AW.cond_tt rfl ?_ | refine AW.cond_ff rfl ?_ | refine AW.label ?_ | refine AW.skip ?_ | refine AW.ret ?_ | refine AW.exit ?_ | refine AW.region ?_ | refine AW.draw (by kernel_rfl) (by kernel_rfl) ?_ | ((with_reducible refine And.intro ?_ ?_); (focus ((repeat' (with_reducible apply And.intro)) <;> first | trivial | omega | rfl | (unfold inI; omega)))))
        refine After.done rfl ?_
        repeat (first | simp only [go_sem, Nat.reduceLT, Nat.reduceEqDiff, reduceIte, Int.reduceEq, Int.reduceLE, Int.reduceLT, Nat.reduceMul, Nat.reduceAdd, Nat.reduceSub, Int.reduceNeg, Int.reduceAdd, Int.reduceMul, Int.reduceSub, Int.reduceToNat, Nat.reduceLeDiff, Nat.reduceDiv, Int.reduceDiv, reduceCtorEq] | refine AW.seq ?_ | refine AW.block ?_ | refine AW.scope ?_ | refine AW.cond_tt rfl ?_ | refine AW.cond_ff rfl ?_ | refine AW.label ?_ | refine AW.skip ?_ | refine AW.ret ?_ | refine AW.exit ?_ | refine AW.region ?_ | refine AW.draw (by kernel_rfl) (by kernel_rfl) ?_ | ((with_reducible refine And.intro ?_ ?_); (focus ((repeat' (with_reducible apply And.intro)) <;> first | trivial | omega | rfl | (unfold inI; omega)))))
        exact none_case (textsO_none (by omega) (by omega))
      · have hl0 : 0 < left.length := by omega
        have hl1 : 0 < (left.drop 1).length := by simp; omega
        repeat (first | simp only [go_sem, Nat.reduceLT, Nat.reduceEqDiff, reduceIte, Int.reduceEq, Int.reduceLE, Int.reduceLT, Nat.reduceMul, Nat.reduceAdd, Nat.reduceSub, Int.reduceNeg, Int.reduceAdd, Int.reduceMul, Int.reduceSub, Int.reduceToNat, Nat.reduceLeDiff, Nat.reduceDiv, Int.reduceDiv, reduceCtorEq, bys_get, hl0, hl1, hg, hw] | refine AW.seq ?_ | refine AW.block ?_ | refine AW.scope ?_ | refine AW.cond_tt rfl ?_ | refine AW.cond_ff rfl ?_ | refine AW.label ?_ | refine AW.skip ?_ | refine AW.ret ?_ | refine AW.exit ?_ | refine AW.region ?_ | refine AW.draw (by kernel_rfl) (by kernel_rfl) ?_ | ((with_reducible refine And.intro ?_ ?_); (focus ((repeat' (with_reducible apply And.intro)) <;> first | trivial | omega | rfl | (unfold inI; omega)))))
        repeat (first | simp only [go_sem, Nat.reduceLT, Nat.reduceEqDiff, reduceIte, Int.reduceEq, Int.reduceLE, Int.reduceLT, Nat.reduceMul, Nat.reduceAdd, Nat.reduceSub, Int.reduceNeg, Int.reduceAdd, Int.reduceMul, Int.reduceSub, Int.reduceToNat, Nat.reduceLeDiff, Nat.reduceDiv, Int.reduceDiv, reduceCtorEq, bys_get, hl0, hl1, hg, hw] | refine AW.seq ?_ | refine AW.block ?_ | refine AW.scope ?_ | refine AW.cond_tt rfl ?_ | refine AW.cond_ff rfl ?_ | refine AW.label ?_ | refine AW.skip ?_ | refine AW.ret ?_ | refine AW.exit ?_ | refine AW.region ?_ | refine AW.draw (by kernel_rfl) (by kernel_rfl) ?_ | ((with_reducible refine And.intro ?_ ?_); (focus ((repeat' (with_reducible apply And.intro)) <;> first | trivial | omega | rfl | (unfold inI; omega)))))
        refine AW.cond_dec rfl (fun h3 => ?_) (fun h3 => ?_)
        · repeat (first | simp only [go_sem, Nat.reduceLT, Nat.reduceEqDiff, reduceIte, Int.reduceEq, Int.reduceLE, Int.reduceLT, Nat.reduceMul, Nat.reduceAdd, Nat.reduceSub, Int.reduceNeg, Int.reduceAdd, Int.reduceMul, Int.reduceSub, Int.reduceToNat, Nat.reduceLeDiff, Nat.reduceDiv, Int.reduceDiv, reduceCtorEq] | refine AW.seq ?_ | refine AW.block ?_ | refine AW.scope ?_ | refine AW.cond_tt rfl ?_ | refine AW.cond_ff rfl ?_ | refine AW.label ?_ | refine AW.skip ?_ | refine AW.ret ?_ | refine AW.exit ?_ | refine AW.region ?_ | refine AW.draw (by kernel_rfl) (by kernel_rfl) ?_ | ((with_reducible refine And.intro ?_ ?_); (focus ((repeat' (with_reducible apply And.intro)) <;> first | trivial | omega | rfl | (unfold inI; omega)))))
          refine ⟨rfl, hY _ _ _ _ rfl (by rfl) fun γy hγ => ?_⟩
          repeat (first | simp only [go_sem, Nat.reduceLT, Nat.reduceEqDiff, reduceIte, Int.reduceEq, Int.reduceLE, Int.reduceLT, Nat.reduceMul, Nat.reduceAdd, Nat.reduceSub, Int.reduceNeg, Int.reduceAdd, Int.reduceMul, Int.reduceSub, Int.reduceToNat, Nat.reduceLeDiff, Nat.reduceDiv, Int.reduceDiv, reduceCtorEq] | refine AW.seq ?_ | refine AW.block ?_ | refine AW.scope ?_ | refine AW.cond_tt rfl ?_ | refine AW.cond_ff rfl ?_ | refine AW.label ?_ | refine AW.skip ?_ | refine AW.ret ?_ | refine AW.exit ?_ | refine AW.region ?_ | refine AW.draw (by kernel_rfl) (by kernel_rfl) ?_ | ((with_reducible refine And.intro ?_ ?_); (focus ((repeat' (with_reducible apply And.intro)) <;> first | trivial | omega | rfl | (unfold inI; omega)))))
          refine After.done rfl ?_
          repeat (first | simp only [go_sem, Nat.reduceLT, Nat.reduceEqDiff, reduceIte, Int.reduceEq, Int.reduceLE, Int.reduceLT, Nat.reduceMul, Nat.reduceAdd, Nat.reduceSub, Int.reduceNeg, Int.reduceAdd, Int.reduceMul, Int.reduceSub, Int.reduceToNat, Nat.reduceLeDiff, Nat.reduceDiv, Int.reduceDiv, reduceCtorEq] | refine AW.seq ?_ | refine AW.block ?_ | refine AW.scope ?_ | refine AW.cond_tt rfl ?_ | refine AW.cond_ff rfl ?_ | refine AW.label ?_ | refine AW.skip ?_ | refine AW.ret ?_ | refine AW.exit ?_ | refine AW.region ?_ | refine AW.draw (by kernel_rfl) (by kernel_rfl) ?_ | ((with_reducible refine And.intro ?_ ?_); (focus ((repeat' (with_reducible apply And.intro)) <;> first | trivial | omega | rfl | (unfold inI; omega)))))
          exact none_case (textsO_none (by omega) (by omega))
        · repeat (first | simp only [go_sem, Nat.reduceLT, Nat.reduceEqDiff, reduceIte, Int.reduceEq, Int.reduceLE, Int.reduceLT, Nat.reduceMul, Nat.reduceAdd, Nat.reduceSub, Int.reduceNeg, Int.reduceAdd, Int.reduceMul, Int.reduceSub, Int.reduceToNat, Nat.reduceLeDiff, Nat.reduceDiv, Int.reduceDiv, reduceCtorEq, hT] | refine AW.seq ?_ | refine AW.block ?_ | refine AW.scope ?_ | refine AW.cond_tt rfl ?_ | refine AW.cond_ff rfl ?_ | refine AW.label ?_ | refine AW.skip ?_ | refine AW.ret ?_ | refine AW.exit ?_ | refine AW.region ?_ | refine AW.draw (by kernel_rfl) (by kernel_rfl) ?_ | ((with_reducible refine And.intro ?_ ?_); (focus ((repeat' (with_reducible apply And.intro)) <;> first | trivial | omega | rfl | (unfold inI; omega)))))
          refine ⟨rfl, hY _ _ _ _ rfl (by rfl) fun γy hγ => ?_⟩
          repeat (first | simp only [go_sem, Nat.reduceLT, Nat.reduceEqDiff, reduceIte, Int.reduceEq, Int.reduceLE, Int.reduceLT, Nat.reduceMul, Nat.reduceAdd, Nat.reduceSub, Int.reduceNeg, Int.reduceAdd, Int.reduceMul, Int.reduceSub, Int.reduceToNat, Nat.reduceLeDiff, Nat.reduceDiv, Int.reduceDiv, reduceCtorEq, e2] | refine AW.seq ?_ | refine AW.block ?_ | refine AW.scope ?_ | refine AW.cond_tt rfl ?_ | refine AW.cond_ff rfl ?_ | refine AW.label ?_ | refine AW.skip ?_ | refine AW.ret ?_ | refine AW.exit ?_ | refine AW.region ?_ | refine AW.draw (by kernel_rfl) (by kernel_rfl) ?_ | ((with_reducible refine And.intro ?_ ?_); (focus ((repeat' (with_reducible apply And.intro)) <;> first | trivial | omega | rfl | (unfold inI; omega)))))
          refine CallXE.mem (f25 ((left.drop 2).take (txN left)) (by simp; omega)) ?_ (by simp [bor]) (by rfl) ?_
          · simp only [List.map_cons, List.map_nil, frz_sl, List.take_of_length_le, List.length_take, List.length_drop, Nat.le_refl]
            rw [Nat.min_eq_left (by omega)]
          repeat (first | simp only [go_sem, Nat.reduceLT, Nat.reduceEqDiff, reduceIte, Int.reduceEq, Int.reduceLE, Int.reduceLT, Nat.reduceMul, Nat.reduceAdd, Nat.reduceSub, Int.reduceNeg, Int.reduceAdd, Int.reduceMul, Int.reduceSub, Int.reduceToNat, Nat.reduceLeDiff, Nat.reduceDiv, Int.reduceDiv, reduceCtorEq, e4, e5, Int.toNat_natCast] | refine AW.seq ?_ | refine AW.block ?_ | refine AW.scope ?_ | refine AW.cond_tt rfl ?_ | refine AW.cond_ff rfl ?_ | refine AW.label ?_ | refine AW.skip ?_ | refine AW.ret ?_ | refine AW.exit ?_ | refine AW.region ?_ | refine AW.draw (by kernel_rfl) (by kernel_rfl) ?_ | ((with_reducible refine And.intro ?_ ?_); (focus ((repeat' (with_reducible apply And.intro)) <;> first | trivial | omega | rfl | (unfold inI; omega)))))
          rw [Qof_lp]
          refine ⟨st28 b l rec (left.drop (2 + txN left)) [(left.drop 2).take (txN left)], ?_, ⟨[(left.drop 2).take (txN left)], left.drop (2 + txN left), by simp; omega, ?_, rfl⟩, ?_⟩
          · rw [st28_cons (by simp)]
            refine Sub.of (fun l => if l = 5 then 7 else l) (by intro l h; dsimp only at *; split <;> omega) (by intro l l' h h' e; dsimp only at *; split at e <;> split at e <;> omega) (by dsimp only; omega) rfl rfl (by simp) ?_ ?_
            · simp [lab, labL, ren, renL, look_cons, renL_bys, labL_bys, tx]
            · simp [labO, renO, look_cons, lab, labL, ren, renL, renL_bys, labL_bys, tx]
          · rw [ht, textsO_some (by omega) (by omega)]
            cases textsO (left.drop (2 + txN left)) <;> rfl
          · rw [meas]; omega
    · repeat (first | simp only [go_sem, Nat.reduceLT, Nat.reduceEqDiff, reduceIte, Int.reduceEq, Int.reduceLE, Int.reduceLT, Nat.reduceMul, Nat.reduceAdd, Nat.reduceSub, Int.reduceNeg, Int.reduceAdd, Int.reduceMul, Int.reduceSub, Int.reduceToNat, Nat.reduceLeDiff, Nat.reduceDiv, Int.reduceDiv, reduceCtorEq] | refine AW.seq ?_ | refine AW.block ?_ | refine AW.scope ?_ | refine AW.cond_tt rfl ?_ | refine AW.cond_ff rfl ?_ | refine AW.label ?_ | refine AW.skip ?_ | refine AW.ret ?_ | refine AW.exit ?_ | refine AW.region ?_ | refine AW.draw (by kernel_rfl) (by kernel_rfl) ?_ | ((with_reducible refine And.intro ?_ ?_); (focus ((repeat' (with_reducible apply And.intro)) <;> first | trivial | omega | rfl | (unfold inI; omega)))))
      refine After.ready rfl ?_
      repeat (first | simp only [go_sem, Nat.reduceLT, Nat.reduceEqDiff, reduceIte, Int.reduceEq, Int.reduceLE, Int.reduceLT, Nat.reduceMul, Nat.reduceAdd, Nat.reduceSub, Int.reduceNeg, Int.reduceAdd, Int.reduceMul, Int.reduceSub, Int.reduceToNat, Nat.reduceLeDiff, Nat.reduceDiv, Int.reduceDiv, reduceCtorEq] | refine AW.seq ?_ | refine AW.block ?_ | refine AW.scope ?_ | refine AW.cond_tt rfl ?_ | refine AW.cond_ff rfl ?_ | refine AW.label ?_ | refine AW.skip ?_ | refine AW.ret ?_ | refine AW.exit ?_ | refine AW.region ?_ | refine AW.draw (by kernel_rfl) (by kernel_rfl) ?_ | ((with_reducible refine And.intro ?_ ?_); (focus ((repeat' (with_reducible apply And.intro)) <;> first | trivial | omega | rfl | (unfold inI; omega)))))
      have h0 : left.length = 0 := by omega
      rw [textsO_nil h0] at ht
      simp only [textsS, textsE, ht, Option.map_some, Option.getD_some, List.append_nil, List.map_nil, List.length_nil, Option.isSome_some, if_true]
      exact Wk.tup ⟨Wk.nil rfl rfl, Wk.refl _, trivial⟩
  · rw [st28_cons hd]
    repeat (first | simp only [go_sem, Nat.reduceLT, Nat.reduceEqDiff, reduceIte, Int.reduceEq, Int.reduceLE, Int.reduceLT, Nat.reduceMul, Nat.reduceAdd, Nat.reduceSub, Int.reduceNeg, Int.reduceAdd, Int.reduceMul, Int.reduceSub, Int.reduceToNat, Nat.reduceLeDiff, Nat.reduceDiv, Int.reduceDiv, reduceCtorEq] | refine AW.seq ?_ | refine AW.block ?_ | refine AW.scope ?_ | refine AW.cond_tt rfl ?_ | refine AW.cond_ff rfl ?_ | refine AW.label ?_ | refine AW.skip ?_ | refine AW.ret ?_ | refine AW.exit ?_ | refine AW.region ?_ | refine AW.draw (by kernel_rfl) (by kernel_rfl) ?_ | ((with_reducible refine And.intro ?_ ?_); (focus ((repeat' (with_reducible apply And.intro)) <;> first | trivial | omega | rfl | (unfold inI; omega)))))
    refine AW.cond_dec rfl (fun h1 => ?_) (fun h1 => ?_)
    · repeat (first | simp only [go_sem, Nat.reduceLT, Nat.reduceEqDiff, reduceIte, Int.reduceEq, Int.reduceLE, Int.reduceLT, Nat.reduceMul, Nat.reduceAdd, Nat.reduceSub, Int.reduceNeg, Int.reduceAdd, Int.reduceMul, Int.reduceSub, Int.reduceToNat, Nat.reduceLeDiff, Nat.reduceDiv, Int.reduceDiv, reduceCtorEq] | refine AW.seq ?_ | refine AW.block ?_ | refine AW.scope ?_ | refine AW.cond_tt rfl ?_ | refine AW.cond_ff rfl ?_ | refine AW.label ?_ | refine AW.skip ?_ | refine AW.ret ?_ | refine AW.exit ?_ | refine AW.region ?_ | refine AW.draw (by kernel_rfl) (by kernel_rfl) ?_ | ((with_reducible refine And.intro ?_ ?_); (focus ((repeat' (with_reducible apply And.intro)) <;> first | trivial | omega | rfl | (unfold inI; omega)))))
      refine AW.cond_dec rfl (fun h2 => ?_) (fun h2 => ?_)
      · repeat (first | simp only [go_sem, Nat.reduceLT, Nat.reduceEqDiff, reduceIte, Int.reduceEq, Int.reduceLE, Int.reduceLT, Nat.reduceMul, Nat.reduceAdd, Nat.reduceSub, Int.reduceNeg, Int.reduceAdd, Int.reduceMul, Int.reduceSub, Int.reduceToNat, Nat.reduceLeDiff, Nat.reduceDiv, Int.reduceDiv, reduceCtorEq] | refine AW.seq ?_ | refine AW.block ?_ | refine AW.scope ?_ | refine AW.cond_tt rfl ?_ | refine AW.cond_ff rfl ?_ | refine AW.label ?_ | refine AW.skip ?_ | refine AW.ret ?_ | refine AW.exit ?_ | refine AW.region ?_ | refine AW.draw (by kernel_rfl) (by kernel_rfl) ?_ | ((with_reducible refine And.intro ?_ ?_); (focus ((repeat' (with_reducible apply And.intro)) <;> first | trivial | omega | rfl | (unfold inI; omega)))))
        refine ⟨rfl, hY _ _ _ _ rfl (by rfl) fun γy hγ => ?_⟩
        repeat (first | simp only [go_sem, Nat.reduceLT, Nat.reduceEqDiff, reduceIte, Int.reduceEq, Int.reduceLE, Int.reduceLT, Nat.reduceMul, Nat.reduceAdd, Nat.reduceSub, Int.reduceNeg, Int.reduceAdd, Int.reduceMul, Int.reduceSub, Int.reduceToNat, Nat.reduceLeDiff, Nat.reduceDiv, Int.reduceDiv, reduceCtorEq] | refine AW.seq ?_ | refine AW.block ?_ | refine AW.scope ?_ | refine AW.cond_tt rfl ?_ | refine AW.cond_ff rfl ?_ | refine AW.label ?_ | refine AW.skip ?_ | refine AW.ret ?_ | refine AW.exit ?_ | refine AW.region ?_ | refine AW.draw (by kernel_rfl) (by kernel_rfl) ?_ | ((with_reducible refine And.intro ?_ ?_); (focus ((repeat' (with_reducible apply And.intro)) <;> first | trivial | omega | rfl | (unfold inI; omega)))))
        refine After.done rfl ?_
        repeat (first | simp only [go_sem, Nat.reduceLT, Nat.reduceEqDiff, reduceIte, Int.reduceEq, Int.reduceLE, Int.reduceLT, Nat.reduceMul, Nat.reduceAdd, Nat.reduceSub, Int.reduceNeg, Int.reduceAdd, Int.reduceMul, Int.reduceSub, Int.reduceToNat, Nat.reduceLeDiff, Nat.reduceDiv, Int.reduceDiv, reduceCtorEq] | refine AW.seq ?_ | refine AW.block ?_ | refine AW.scope ?_ | refine AW.cond_tt rfl ?_ | refine AW.cond_ff rfl ?_ | refine AW.label ?_ | refine AW.skip ?_ | refine AW.ret ?_ | refine AW.exit ?_ | refine AW.region ?_ | refine AW.draw (by kernel_rfl) (by kernel_rfl) ?_ | ((with_reducible refine And.intro ?_ ?_); (focus ((repeat' (with_reducible apply And.intro)) <;> first | trivial | omega | rfl | (unfold inI; omega)))))
        exact none_case (textsO_none (by omega) (by omega))
      · have hl0 : 0 < left.length := by omega
        have hl1 : 0 < (left.drop 1).length := by simp; omega
        repeat (first | simp only [go_sem, Nat.reduceLT, Nat.reduceEqDiff, reduceIte, Int.reduceEq, Int.reduceLE, Int.reduceLT, Nat.reduceMul, Nat.reduceAdd, Nat.reduceSub, Int.reduceNeg, Int.reduceAdd, Int.reduceMul, Int.reduceSub, Int.reduceToNat, Nat.reduceLeDiff, Nat.reduceDiv, Int.reduceDiv, reduceCtorEq, bys_get, hl0, hl1, hg, hw] | refine AW.seq ?_ | refine AW.block ?_ | refine AW.scope ?_ | refine AW.cond_tt rfl ?_ | refine AW.cond_ff rfl ?_ | refine AW.label ?_ | refine AW.skip ?_ | refine AW.ret ?_ | refine AW.exit ?_ | refine AW.region ?_ | refine AW.draw (by kernel_rfl) (by kernel_rfl) ?_ | ((with_reducible refine And.intro ?_ ?_); (focus ((repeat' (with_reducible apply And.intro)) <;> first | trivial | omega | rfl | (unfold inI; omega)))))
        repeat (first | simp only [go_sem, Nat.reduceLT, Nat.reduceEqDiff, reduceIte, Int.reduceEq, Int.reduceLE, Int.reduceLT, Nat.reduceMul, Nat.reduceAdd, Nat.reduceSub, Int.reduceNeg, Int.reduceAdd, Int.reduceMul, Int.reduceSub, Int.reduceToNat, Nat.reduceLeDiff, Nat.reduceDiv, Int.reduceDiv, reduceCtorEq, bys_get, hl0, hl1, hg, hw] | refine AW.seq ?_ | refine AW.block ?_ | refine AW.scope ?_ | refine AW.cond_tt rfl ?_ | refine AW.cond_ff rfl ?_ | refine AW.label ?_ | refine AW.skip ?_ | refine AW.ret ?_ | refine AW.exit ?_ | refine AW.region ?_ | refine AW.draw (by kernel_rfl) (by kernel_rfl) ?_ | ((with_reducible refine And.intro ?_ ?_); (focus ((repeat' (with_reducible apply And.intro)) <;> first | trivial | omega | rfl | (unfold inI; omega)))))
        refine AW.cond_dec rfl (fun h3 => ?_) (fun h3 => ?_)
        · repeat (first | simp only [go_sem, Nat.reduceLT, Nat.reduceEqDiff, reduceIte, Int.reduceEq, Int.reduceLE, Int.reduceLT, Nat.reduceMul, Nat.reduceAdd, Nat.reduceSub, Int.reduceNeg, Int.reduceAdd, Int.reduceMul, Int.reduceSub, Int.reduceToNat, Nat.reduceLeDiff, Nat.reduceDiv, Int.reduceDiv, reduceCtorEq] | refine AW.seq ?_ | refine AW.block ?_ | refine AW.scope ?_ | refine AW.cond_tt rfl ?_ | refine AW.cond_ff rfl ?_ | refine AW.label ?_ | refine AW.skip ?_ | refine AW.ret ?_ | refine AW.exit ?_ | refine AW.region ?_ | refine AW.draw (by kernel_rfl) (by kernel_rfl) ?_ | ((with_reducible refine And.intro ?_ ?_); (focus ((repeat' (with_reducible apply And.intro)) <;> first | trivial | omega | rfl | (unfold inI; omega)))))
          refine ⟨rfl, hY _ _ _ _ rfl (by rfl) fun γy hγ => ?_⟩
          repeat (first | simp only [go_sem, Nat.reduceLT, Nat.reduceEqDiff, reduceIte, Int.reduceEq, Int.reduceLE, Int.reduceLT, Nat.reduceMul, Nat.reduceAdd, Nat.reduceSub, Int.reduceNeg, Int.reduceAdd, Int.reduceMul, Int.reduceSub, Int.reduceToNat, Nat.reduceLeDiff, Nat.reduceDiv, Int.reduceDiv, reduceCtorEq] | refine AW.seq ?_ | refine AW.block ?_ | refine AW.scope ?_ | refine AW.cond_tt rfl ?_ | refine AW.cond_ff rfl ?_ | refine AW.label ?_ | refine AW.skip ?_ | refine AW.ret ?_ | refine AW.exit ?_ | refine AW.region ?_ | refine AW.draw (by kernel_rfl) (by kernel_rfl) ?_ | ((with_reducible refine And.intro ?_ ?_); (focus ((repeat' (with_reducible apply And.intro)) <;> first | trivial | omega | rfl | (unfold inI; omega)))))
          refine After.done rfl ?_
          repeat (first | simp only [go_sem, Nat.reduceLT, Nat.reduceEqDiff, reduceIte, Int.reduceEq, Int.reduceLE, Int.reduceLT, Nat.reduceMul, Nat.reduceAdd, Nat.reduceSub, Int.reduceNeg, Int.reduceAdd, Int.reduceMul, Int.reduceSub, Int.reduceToNat, Nat.reduceLeDiff, Nat.reduceDiv, Int.reduceDiv, reduceCtorEq] | refine AW.seq ?_ | refine AW.block ?_ | refine AW.scope ?_ | refine AW.cond_tt rfl ?_ | refine AW.cond_ff rfl ?_ | refine AW.label ?_ | refine AW.skip ?_ | refine AW.ret ?_ | refine AW.exit ?_ | refine AW.region ?_ | refine AW.draw (by kernel_rfl) (by kernel_rfl) ?_ | ((with_reducible refine And.intro ?_ ?_); (focus ((repeat' (with_reducible apply And.intro)) <;> first | trivial | omega | rfl | (unfold inI; omega)))))
          exact none_case (textsO_none (by omega) (by omega))
        · repeat (first | simp only [go_sem, Nat.reduceLT, Nat.reduceEqDiff, reduceIte, Int.reduceEq, Int.reduceLE, Int.reduceLT, Nat.reduceMul, Nat.reduceAdd, Nat.reduceSub, Int.reduceNeg, Int.reduceAdd, Int.reduceMul, Int.reduceSub, Int.reduceToNat, Nat.reduceLeDiff, Nat.reduceDiv, Int.reduceDiv, reduceCtorEq, hT] | refine AW.seq ?_ | refine AW.block ?_ | refine AW.scope ?_ | refine AW.cond_tt rfl ?_ | refine AW.cond_ff rfl ?_ | refine AW.label ?_ | refine AW.skip ?_ | refine AW.ret ?_ | refine AW.exit ?_ | refine AW.region ?_ | refine AW.draw (by kernel_rfl) (by kernel_rfl) ?_ | ((with_reducible refine And.intro ?_ ?_); (focus ((repeat' (with_reducible apply And.intro)) <;> first | trivial | omega | rfl | (unfold inI; omega)))))
          refine ⟨rfl, hY _ _ _ _ rfl (by rfl) fun γy hγ => ?_⟩
          repeat (first | simp only [go_sem, Nat.reduceLT, Nat.reduceEqDiff, reduceIte, Int.reduceEq, Int.reduceLE, Int.reduceLT, Nat.reduceMul, Nat.reduceAdd, Nat.reduceSub, Int.reduceNeg, Int.reduceAdd, Int.reduceMul, Int.reduceSub, Int.reduceToNat, Nat.reduceLeDiff, Nat.reduceDiv, Int.reduceDiv, reduceCtorEq, e2] | refine AW.seq ?_ | refine AW.block ?_ | refine AW.scope ?_ | refine AW.cond_tt rfl ?_ | refine AW.cond_ff rfl ?_ | refine AW.label ?_ | refine AW.skip ?_ | refine AW.ret ?_ | refine AW.exit ?_ | refine AW.region ?_ | refine AW.draw (by kernel_rfl) (by kernel_rfl) ?_ | ((with_reducible refine And.intro ?_ ?_); (focus ((repeat' (with_reducible apply And.intro)) <;> first | trivial | omega | rfl | (unfold inI; omega)))))
          refine CallXE.mem (f25 ((left.drop 2).take (txN left)) (by simp; omega)) ?_ (by simp [bor]) (by rfl) ?_
          · simp only [List.map_cons, List.map_nil, frz_sl, List.take_of_length_le, List.length_take, List.length_drop, Nat.le_refl]
            rw [Nat.min_eq_left (by omega)]
          repeat (first | simp only [go_sem, Nat.reduceLT, Nat.reduceEqDiff, reduceIte, Int.reduceEq, Int.reduceLE, Int.reduceLT, Nat.reduceMul, Nat.reduceAdd, Nat.reduceSub, Int.reduceNeg, Int.reduceAdd, Int.reduceMul, Int.reduceSub, Int.reduceToNat, Nat.reduceLeDiff, Nat.reduceDiv, Int.reduceDiv, reduceCtorEq, e4, e5, Int.toNat_natCast] | refine AW.seq ?_ | refine AW.block ?_ | refine AW.scope ?_ | refine AW.cond_tt rfl ?_ | refine AW.cond_ff rfl ?_ | refine AW.label ?_ | refine AW.skip ?_ | refine AW.ret ?_ | refine AW.exit ?_ | refine AW.region ?_ | refine AW.draw (by kernel_rfl) (by kernel_rfl) ?_ | ((with_reducible refine And.intro ?_ ?_); (focus ((repeat' (with_reducible apply And.intro)) <;> first | trivial | omega | rfl | (unfold inI; omega)))))
          rw [Qof_lp]
          refine ⟨st28 b l rec (left.drop (2 + txN left)) (d ++ [(left.drop 2).take (txN left)]), ?_, ⟨d ++ [(left.drop 2).take (txN left)], left.drop (2 + txN left), by simp; omega, ?_, rfl⟩, ?_⟩
          · rw [st28_cons (by simp)]
            refine Sub.of (fun l => if l = 5 then 7 else l) (by intro l h; dsimp only at *; split <;> omega) (by intro l l' h h' e; dsimp only at *; split at e <;> split at e <;> omega) (by dsimp only; omega) rfl rfl (by simp) ?_ ?_
            · simp [lab, labL, ren, renL, look_cons, renL_bys, labL_bys, tx]
            · simp [labO, renO, look_cons, lab, labL, ren, renL, renL_bys, labL_bys, renL_tx, labL_tx, tx]
              exact (renL_fix (by rintro x hx; simp at hx; rcases hx with ⟨a, -, rfl⟩ | rfl <;> simp [ren, tx, renL_bys])).symm
          · rw [ht, textsO_some (by omega) (by omega)]
            cases textsO (left.drop (2 + txN left)) <;> simp
          · rw [meas]; omega
    · repeat (first | simp only [go_sem, Nat.reduceLT, Nat.reduceEqDiff, reduceIte, Int.reduceEq, Int.reduceLE, Int.reduceLT, Nat.reduceMul, Nat.reduceAdd, Nat.reduceSub, Int.reduceNeg, Int.reduceAdd, Int.reduceMul, Int.reduceSub, Int.reduceToNat, Nat.reduceLeDiff, Nat.reduceDiv, Int.reduceDiv, reduceCtorEq] | refine AW.seq ?_ | refine AW.block ?_ | refine AW.scope ?_ | refine AW.cond_tt rfl ?_ | refine AW.cond_ff rfl ?_ | refine AW.label ?_ | refine AW.skip ?_ | refine AW.ret ?_ | refine AW.exit ?_ | refine AW.region ?_ | refine AW.draw (by kernel_rfl) (by kernel_rfl) ?_ | ((with_reducible refine And.intro ?_ ?_); (focus ((repeat' (with_reducible apply And.intro)) <;> first | trivial | omega | rfl | (unfold inI; omega)))))
      refine After.ready rfl ?_
      repeat (first | simp only [go_sem, Nat.reduceLT, Nat.reduceEqDiff, reduceIte, Int.reduceEq, Int.reduceLE, Int.reduceLT, Nat.reduceMul, Nat.reduceAdd, Nat.reduceSub, Int.reduceNeg, Int.reduceAdd, Int.reduceMul, Int.reduceSub, Int.reduceToNat, Nat.reduceLeDiff, Nat.reduceDiv, Int.reduceDiv, reduceCtorEq] | refine AW.seq ?_ | refine AW.block ?_ | refine AW.scope ?_ | refine AW.cond_tt rfl ?_ | refine AW.cond_ff rfl ?_ | refine AW.label ?_ | refine AW.skip ?_ | refine AW.ret ?_ | refine AW.exit ?_ | refine AW.region ?_ | refine AW.draw (by kernel_rfl) (by kernel_rfl) ?_ | ((with_reducible refine And.intro ?_ ?_); (focus ((repeat' (with_reducible apply And.intro)) <;> first | trivial | omega | rfl | (unfold inI; omega)))))
      have h0 : left.length = 0 := by omega
      rw [textsO_nil h0] at ht
      simp only [textsS, textsE, ht, Option.map_some, Option.getD_some, List.append_nil, Option.isSome_some, if_true]
      exact Wk.refl _
end Go.Proofs.Ytapjkdmdckfjbaa

namespace Go.Proofs.Ytapjkdmdckfjbaa
open Go Go.Eng Go.Proofs
set_option maxRecDepth 100000
set_option linter.unusedSimpArgs false
set_option linter.unusedVariables false
theorem f10T (b : List UInt8) (hb : b.length ≤ 1000000) (n : UInt64) (size : Int) (hs : inI size) (hnb : ¬ putBad n size) : AFunH Try.prog 10 [.sl 1 (bys b) b.length none, u64 n, int size] [(0, .tok)] 1
    (.tup [.sl 1 (bys (b ++ bigE n size size.toNat)) (b.length + size.toNat) (some 0), int 0]) := by
  refine AFunH.enter Try.func10 rfl Try.call10 (by simp [Try.ntmps10]) fun γ1 => ?_
  simp only [frameOf, Try.ntmps10]
  repeat (first | simp only [go_sem, Nat.reduceLT, Nat.reduceEqDiff, reduceIte, Int.reduceEq, Int.reduceLE, Int.reduceLT, Nat.reduceMul, Nat.reduceAdd, Nat.reduceSub, Int.reduceNeg, Int.reduceAdd, Int.reduceMul, Int.reduceSub, Int.reduceToNat, Nat.reduceLeDiff, Nat.reduceDiv, Int.reduceDiv, reduceCtorEq] | refine AW.seq ?_ | refine AW.block ?_ | refine AW.scope ?_ | refine AW.cond_tt rfl ?_ | refine AW.cond_ff rfl ?_ | refine AW.label ?_ | refine AW.skip ?_ | refine AW.ret ?_ | refine AW.exit ?_ | refine AW.region ?_ | refine AW.draw (by kernel_rfl) (by kernel_rfl) ?_ | ((with_reducible refine And.intro ?_ ?_); (focus ((repeat' (with_reducible apply And.intro)) <;> first | trivial | omega | rfl | (unfold inI; omega)))))
  refine exG_decf (fun h1 => ?_) (fun h1 => ?_)
  · repeat (first | simp only [go_sem, Nat.reduceLT, Nat.reduceEqDiff, reduceIte, Int.reduceEq, Int.reduceLE, Int.reduceLT, Nat.reduceMul, Nat.reduceAdd, Nat.reduceSub, Int.reduceNeg, Int.reduceAdd, Int.reduceMul, Int.reduceSub, Int.reduceToNat, Nat.reduceLeDiff, Nat.reduceDiv, Int.reduceDiv, reduceCtorEq] | refine AW.seq ?_ | refine AW.block ?_ | refine AW.scope ?_ | refine AW.cond_tt rfl ?_ | refine AW.cond_ff rfl ?_ | refine AW.label ?_ | refine AW.skip ?_ | refine AW.ret ?_ | refine AW.exit ?_ | refine AW.region ?_ | refine AW.draw (by kernel_rfl) (by kernel_rfl) ?_ | ((with_reducible refine And.intro ?_ ?_); (focus ((repeat' (with_reducible apply And.intro)) <;> first | trivial | omega | rfl | (unfold inI; omega)))))
    refine exG_decf (fun h5 => ?_) (fun h5 => ?_)
    · repeat (first | simp only [go_sem, Nat.reduceLT, Nat.reduceEqDiff, reduceIte, Int.reduceEq, Int.reduceLE, Int.reduceLT, Nat.reduceMul, Nat.reduceAdd, Nat.reduceSub, Int.reduceNeg, Int.reduceAdd, Int.reduceMul, Int.reduceSub, Int.reduceToNat, Nat.reduceLeDiff, Nat.reduceDiv, Int.reduceDiv, reduceCtorEq] | refine AW.seq ?_ | refine AW.block ?_ | refine AW.scope ?_ | refine AW.cond_tt rfl ?_ | refine AW.cond_ff rfl ?_ | refine AW.label ?_ | refine AW.skip ?_ | refine AW.ret ?_ | refine AW.exit ?_ | refine AW.region ?_ | refine AW.draw (by kernel_rfl) (by kernel_rfl) ?_ | ((with_reducible refine And.intro ?_ ?_); (focus ((repeat' (with_reducible apply And.intro)) <;> first | trivial | omega | rfl | (unfold inI; omega)))))
      refine exG_dec (fun h2 => ?_) (fun h2 => ?_)
      · have hm : (8 * size) % 18446744073709551616 = 8 * size := by omega
        repeat (first | simp only [go_sem, Nat.reduceLT, Nat.reduceEqDiff, reduceIte, Int.reduceEq, Int.reduceLE, Int.reduceLT, Nat.reduceMul, Nat.reduceAdd, Nat.reduceSub, Int.reduceNeg, Int.reduceAdd, Int.reduceMul, Int.reduceSub, Int.reduceToNat, Nat.reduceLeDiff, Nat.reduceDiv, Int.reduceDiv, reduceCtorEq, wrap_u64c, hm] | refine AW.seq ?_ | refine AW.block ?_ | refine AW.scope ?_ | refine AW.cond_tt rfl ?_ | refine AW.cond_ff rfl ?_ | refine AW.label ?_ | refine AW.skip ?_ | refine AW.ret ?_ | refine AW.exit ?_ | refine AW.region ?_ | refine AW.draw (by kernel_rfl) (by kernel_rfl) ?_ | ((with_reducible refine And.intro ?_ ?_); (focus ((repeat' (with_reducible apply And.intro)) <;> first | trivial | omega | rfl | (unfold inI; omega)))))
        repeat (first | simp only [go_sem, Nat.reduceLT, Nat.reduceEqDiff, reduceIte, Int.reduceEq, Int.reduceLE, Int.reduceLT, Nat.reduceMul, Nat.reduceAdd, Nat.reduceSub, Int.reduceNeg, Int.reduceAdd, Int.reduceMul, Int.reduceSub, Int.reduceToNat, Nat.reduceLeDiff, Nat.reduceDiv, Int.reduceDiv, reduceCtorEq] | refine AW.seq ?_ | refine AW.block ?_ | refine AW.scope ?_ | refine AW.cond_tt rfl ?_ | refine AW.cond_ff rfl ?_ | refine AW.label ?_ | refine AW.skip ?_ | refine AW.ret ?_ | refine AW.exit ?_ | refine AW.region ?_ | refine AW.draw (by kernel_rfl) (by kernel_rfl) ?_ | ((with_reducible refine And.intro ?_ ?_); (focus ((repeat' (with_reducible apply And.intro)) <;> first | trivial | omega | rfl | (unfold inI; omega)))))
        refine AW.cond_dec rfl (fun h3 => ?_) (fun h3 => ?_)
        · repeat (first | simp only [go_sem, Nat.reduceLT, Nat.reduceEqDiff, reduceIte, Int.reduceEq, Int.reduceLE, Int.reduceLT, Nat.reduceMul, Nat.reduceAdd, Nat.reduceSub, Int.reduceNeg, Int.reduceAdd, Int.reduceMul, Int.reduceSub, Int.reduceToNat, Nat.reduceLeDiff, Nat.reduceDiv, Int.reduceDiv, reduceCtorEq] | refine AW.seq ?_ | refine AW.block ?_ | refine AW.scope ?_ | refine AW.cond_tt rfl ?_ | refine AW.cond_ff rfl ?_ | refine AW.label ?_ | refine AW.skip ?_ | refine AW.ret ?_ | refine AW.exit ?_ | refine AW.region ?_ | refine AW.draw (by kernel_rfl) (by kernel_rfl) ?_ | ((with_reducible refine And.intro ?_ ?_); (focus ((repeat' (with_reducible apply And.intro)) <;> first | trivial | omega | rfl | (unfold inI; omega)))))
          have hbad : putBad n size := .inr ⟨h2, by omega⟩
          exact absurd hbad hnb
        have hbad : ¬ putBad n size := by unfold putBad; omega
        repeat (first | simp only [go_sem, Nat.reduceLT, Nat.reduceEqDiff, reduceIte, Int.reduceEq, Int.reduceLE, Int.reduceLT, Nat.reduceMul, Nat.reduceAdd, Nat.reduceSub, Int.reduceNeg, Int.reduceAdd, Int.reduceMul, Int.reduceSub, Int.reduceToNat, Nat.reduceLeDiff, Nat.reduceDiv, Int.reduceDiv, reduceCtorEq] | refine AW.seq ?_ | refine AW.block ?_ | refine AW.scope ?_ | refine AW.cond_tt rfl ?_ | refine AW.cond_ff rfl ?_ | refine AW.label ?_ | refine AW.skip ?_ | refine AW.ret ?_ | refine AW.exit ?_ | refine AW.region ?_ | refine AW.draw (by kernel_rfl) (by kernel_rfl) ?_ | ((with_reducible refine And.intro ?_ ?_); (focus ((repeat' (with_reducible apply And.intro)) <;> first | trivial | omega | rfl | (unfold inI; omega)))))
        refine AW.loop (fun s => ∃ j : Nat, (j : Int) ≤ size ∧ s = st10 b n size j) (fun s => (slotN s 9 + 1).toNat) (s0 := st10 b n size 0) ?_ ⟨0, by omega, rfl⟩ ?_
        · simp only [st10, bigE, List.range_zero, List.map_nil, List.append_nil, Nat.add_zero, Int.natCast_zero, Int.sub_zero]; exact (Sub.same (by first | exact Nat.zero_le _ | exact Nat.le_refl _ | decide | omega) rfl rfl (by simp) (by simp [lab, labL, ren, renL, look_cons, renL_bys, labL_bys, renL_mapu8, labL_mapu8]) (by simp [labO, renO, lab, labL, ren, renL, look_cons, renL_bys, labL_bys, renL_mapu8, labL_mapu8]))
        rintro s ⟨j, hj, rfl⟩
        simp only [st10]
        repeat (first | simp only [go_sem, Nat.reduceLT, Nat.reduceEqDiff, reduceIte, Int.reduceEq, Int.reduceLE, Int.reduceLT, Nat.reduceMul, Nat.reduceAdd, Nat.reduceSub, Int.reduceNeg, Int.reduceAdd, Int.reduceMul, Int.reduceSub, Int.reduceToNat, Nat.reduceLeDiff, Nat.reduceDiv, Int.reduceDiv, reduceCtorEq] | refine AW.seq ?_ | refine AW.block ?_ | refine AW.scope ?_ | refine AW.cond_tt rfl ?_ | refine AW.cond_ff rfl ?_ | refine AW.label ?_ | refine AW.skip ?_ | refine AW.ret ?_ | refine AW.exit ?_ | refine AW.region ?_ | refine AW.draw (by kernel_rfl) (by kernel_rfl) ?_ | ((with_reducible refine And.intro ?_ ?_); (focus ((repeat' (with_reducible apply And.intro)) <;> first | trivial | omega | rfl | (unfold inI; omega)))))
        refine AW.cond_dec rfl (fun h4 => ?_) (fun h4 => ?_)
        · have hm2 : (8 * (size - 1 - (j : Int))) % 18446744073709551616 = 8 * (size - 1 - (j : Int)) := by omega
          repeat (first | simp only [go_sem, Nat.reduceLT, Nat.reduceEqDiff, reduceIte, Int.reduceEq, Int.reduceLE, Int.reduceLT, Nat.reduceMul, Nat.reduceAdd, Nat.reduceSub, Int.reduceNeg, Int.reduceAdd, Int.reduceMul, Int.reduceSub, Int.reduceToNat, Nat.reduceLeDiff, Nat.reduceDiv, Int.reduceDiv, reduceCtorEq, wrap_u64c, hm2] | refine AW.seq ?_ | refine AW.block ?_ | refine AW.scope ?_ | refine AW.cond_tt rfl ?_ | refine AW.cond_ff rfl ?_ | refine AW.label ?_ | refine AW.skip ?_ | refine AW.ret ?_ | refine AW.exit ?_ | refine AW.region ?_ | refine AW.draw (by kernel_rfl) (by kernel_rfl) ?_ | ((with_reducible refine And.intro ?_ ?_); (focus ((repeat' (with_reducible apply And.intro)) <;> first | trivial | omega | rfl | (unfold inI; omega)))))
          repeat (first | simp only [go_sem, Nat.reduceLT, Nat.reduceEqDiff, reduceIte, Int.reduceEq, Int.reduceLE, Int.reduceLT, Nat.reduceMul, Nat.reduceAdd, Nat.reduceSub, Int.reduceNeg, Int.reduceAdd, Int.reduceMul, Int.reduceSub, Int.reduceToNat, Nat.reduceLeDiff, Nat.reduceDiv, Int.reduceDiv, reduceCtorEq] | refine AW.seq ?_ | refine AW.block ?_ | refine AW.scope ?_ | refine AW.cond_tt rfl ?_ | refine AW.cond_ff rfl ?_ | refine AW.label ?_ | refine AW.skip ?_ | refine AW.ret ?_ | refine AW.exit ?_ | refine AW.region ?_ | refine AW.draw (by kernel_rfl) (by kernel_rfl) ?_ | ((with_reducible refine And.intro ?_ ?_); (focus ((repeat' (with_reducible apply And.intro)) <;> first | trivial | omega | rfl | (unfold inI; omega)))))
          rw [Qof_lp]
          refine ⟨st10 b n size (j + 1), ?_, ⟨j + 1, by omega, rfl⟩, ?_⟩
          · have e9 : size - 1 - ((j + 1 : Nat) : Int) = size - 1 - j - 1 := by omega
            simp only [st10, e9]
            refine Sub.of (fun l => if l = 1 then 3 else l) (fun l h => absurd h (Nat.not_lt_zero l)) (by intro l l' h h' e; dsimp only at *; split at e <;> split at e <;> omega) (Nat.zero_le _) rfl rfl (by simp) ?_ ?_
            · simp [lab, labL, ren, renL, look_cons, renL_bys, labL_bys, bigE_succ, Nat.add_assoc]
            · simp [labO, renO, look_cons]
          · simp [slotN, st10, look_cons]; omega
        · repeat (first | simp only [go_sem, Nat.reduceLT, Nat.reduceEqDiff, reduceIte, Int.reduceEq, Int.reduceLE, Int.reduceLT, Nat.reduceMul, Nat.reduceAdd, Nat.reduceSub, Int.reduceNeg, Int.reduceAdd, Int.reduceMul, Int.reduceSub, Int.reduceToNat, Nat.reduceLeDiff, Nat.reduceDiv, Int.reduceDiv, reduceCtorEq] | refine AW.seq ?_ | refine AW.block ?_ | refine AW.scope ?_ | refine AW.cond_tt rfl ?_ | refine AW.cond_ff rfl ?_ | refine AW.label ?_ | refine AW.skip ?_ | refine AW.ret ?_ | refine AW.exit ?_ | refine AW.region ?_ | refine AW.draw (by kernel_rfl) (by kernel_rfl) ?_ | ((with_reducible refine And.intro ?_ ?_); (focus ((repeat' (with_reducible apply And.intro)) <;> first | trivial | omega | rfl | (unfold inI; omega)))))
          have hj' : j = size.toNat := by omega
          subst hj'
          refine Sub.of (fun l => 1) (fun l h => absurd h (Nat.not_lt_zero l)) (by intro l l' h h' e; dsimp only at *; omega) (Nat.zero_le _) rfl rfl (by simp) ?_ ?_
          · simp [lab, labL, ren, renL, look_cons, renL_bys, labL_bys]
          · simp [labO, renO, look_cons]
      · repeat (first | simp only [go_sem, Nat.reduceLT, Nat.reduceEqDiff, reduceIte, Int.reduceEq, Int.reduceLE, Int.reduceLT, Nat.reduceMul, Nat.reduceAdd, Nat.reduceSub, Int.reduceNeg, Int.reduceAdd, Int.reduceMul, Int.reduceSub, Int.reduceToNat, Nat.reduceLeDiff, Nat.reduceDiv, Int.reduceDiv, reduceCtorEq] | refine AW.seq ?_ | refine AW.block ?_ | refine AW.scope ?_ | refine AW.cond_tt rfl ?_ | refine AW.cond_ff rfl ?_ | refine AW.label ?_ | refine AW.skip ?_ | refine AW.ret ?_ | refine AW.exit ?_ | refine AW.region ?_ | refine AW.draw (by kernel_rfl) (by kernel_rfl) ?_ | ((with_reducible refine And.intro ?_ ?_); (focus ((repeat' (with_reducible apply And.intro)) <;> first | trivial | omega | rfl | (unfold inI; omega)))))
        have hbad : ¬ putBad n size := by unfold putBad; omega
        repeat (first | simp only [go_sem, Nat.reduceLT, Nat.reduceEqDiff, reduceIte, Int.reduceEq, Int.reduceLE, Int.reduceLT, Nat.reduceMul, Nat.reduceAdd, Nat.reduceSub, Int.reduceNeg, Int.reduceAdd, Int.reduceMul, Int.reduceSub, Int.reduceToNat, Nat.reduceLeDiff, Nat.reduceDiv, Int.reduceDiv, reduceCtorEq] | refine AW.seq ?_ | refine AW.block ?_ | refine AW.scope ?_ | refine AW.cond_tt rfl ?_ | refine AW.cond_ff rfl ?_ | refine AW.label ?_ | refine AW.skip ?_ | refine AW.ret ?_ | refine AW.exit ?_ | refine AW.region ?_ | refine AW.draw (by kernel_rfl) (by kernel_rfl) ?_ | ((with_reducible refine And.intro ?_ ?_); (focus ((repeat' (with_reducible apply And.intro)) <;> first | trivial | omega | rfl | (unfold inI; omega)))))
        refine AW.loop (fun s => ∃ j : Nat, (j : Int) ≤ size ∧ s = st10 b n size j) (fun s => (slotN s 9 + 1).toNat) (s0 := st10 b n size 0) ?_ ⟨0, by omega, rfl⟩ ?_
        · simp only [st10, bigE, List.range_zero, List.map_nil, List.append_nil, Nat.add_zero, Int.natCast_zero, Int.sub_zero]; exact (Sub.same (by first | exact Nat.zero_le _ | exact Nat.le_refl _ | decide | omega) rfl rfl (by simp) (by simp [lab, labL, ren, renL, look_cons, renL_bys, labL_bys, renL_mapu8, labL_mapu8]) (by simp [labO, renO, lab, labL, ren, renL, look_cons, renL_bys, labL_bys, renL_mapu8, labL_mapu8]))
        rintro s ⟨j, hj, rfl⟩
        simp only [st10]
        repeat (first | simp only [go_sem, Nat.reduceLT, Nat.reduceEqDiff, reduceIte, Int.reduceEq, Int.reduceLE, Int.reduceLT, Nat.reduceMul, Nat.reduceAdd, Nat.reduceSub, Int.reduceNeg, Int.reduceAdd, Int.reduceMul, Int.reduceSub, Int.reduceToNat, Nat.reduceLeDiff, Nat.reduceDiv, Int.reduceDiv, reduceCtorEq] | refine AW.seq ?_ | refine AW.block ?_ | refine AW.scope ?_ | refine AW.cond_tt rfl ?_ | refine AW.cond_ff rfl ?_ | refine AW.label ?_ | refine AW.skip ?_ | refine AW.ret ?_ | refine AW.exit ?_ | refine AW.region ?_ | refine AW.draw (by kernel_rfl) (by kernel_rfl) ?_ | ((with_reducible refine And.intro ?_ ?_); (focus ((repeat' (with_reducible apply And.intro)) <;> first | trivial | omega | rfl | (unfold inI; omega)))))
        refine AW.cond_dec rfl (fun h4 => ?_) (fun h4 => ?_)
        · have hm2 : (8 * (size - 1 - (j : Int))) % 18446744073709551616 = 8 * (size - 1 - (j : Int)) := by omega
          repeat (first | simp only [go_sem, Nat.reduceLT, Nat.reduceEqDiff, reduceIte, Int.reduceEq, Int.reduceLE, Int.reduceLT, Nat.reduceMul, Nat.reduceAdd, Nat.reduceSub, Int.reduceNeg, Int.reduceAdd, Int.reduceMul, Int.reduceSub, Int.reduceToNat, Nat.reduceLeDiff, Nat.reduceDiv, Int.reduceDiv, reduceCtorEq, wrap_u64c, hm2] | refine AW.seq ?_ | refine AW.block ?_ | refine AW.scope ?_ | refine AW.cond_tt rfl ?_ | refine AW.cond_ff rfl ?_ | refine AW.label ?_ | refine AW.skip ?_ | refine AW.ret ?_ | refine AW.exit ?_ | refine AW.region ?_ | refine AW.draw (by kernel_rfl) (by kernel_rfl) ?_ | ((with_reducible refine And.intro ?_ ?_); (focus ((repeat' (with_reducible apply And.intro)) <;> first | trivial | omega | rfl | (unfold inI; omega)))))
          repeat (first | simp only [go_sem, Nat.reduceLT, Nat.reduceEqDiff, reduceIte, Int.reduceEq, Int.reduceLE, Int.reduceLT, Nat.reduceMul, Nat.reduceAdd, Nat.reduceSub, Int.reduceNeg, Int.reduceAdd, Int.reduceMul, Int.reduceSub, Int.reduceToNat, Nat.reduceLeDiff, Nat.reduceDiv, Int.reduceDiv, reduceCtorEq] | refine AW.seq ?_ | refine AW.block ?_ | refine AW.scope ?_ | refine AW.cond_tt rfl ?_ | refine AW.cond_ff rfl ?_ | refine AW.label ?_ | refine AW.skip ?_ | refine AW.ret ?_ | refine AW.exit ?_ | refine AW.region ?_ | refine AW.draw (by kernel_rfl) (by kernel_rfl) ?_ | ((with_reducible refine And.intro ?_ ?_); (focus ((repeat' (with_reducible apply And.intro)) <;> first | trivial | omega | rfl | (unfold inI; omega)))))
          rw [Qof_lp]
          refine ⟨st10 b n size (j + 1), ?_, ⟨j + 1, by omega, rfl⟩, ?_⟩
          · have e9 : size - 1 - ((j + 1 : Nat) : Int) = size - 1 - j - 1 := by omega
            simp only [st10, e9]
            refine Sub.of (fun l => if l = 1 then 3 else l) (fun l h => absurd h (Nat.not_lt_zero l)) (by intro l l' h h' e; dsimp only at *; split at e <;> split at e <;> omega) (Nat.zero_le _) rfl rfl (by simp) ?_ ?_
            · simp [lab, labL, ren, renL, look_cons, renL_bys, labL_bys, bigE_succ, Nat.add_assoc]
            · simp [labO, renO, look_cons]
          · simp [slotN, st10, look_cons]; omega
        · repeat (first | simp only [go_sem, Nat.reduceLT, Nat.reduceEqDiff, reduceIte, Int.reduceEq, Int.reduceLE, Int.reduceLT, Nat.reduceMul, Nat.reduceAdd, Nat.reduceSub, Int.reduceNeg, Int.reduceAdd, Int.reduceMul, Int.reduceSub, Int.reduceToNat, Nat.reduceLeDiff, Nat.reduceDiv, Int.reduceDiv, reduceCtorEq] | refine AW.seq ?_ | refine AW.block ?_ | refine AW.scope ?_ | refine AW.cond_tt rfl ?_ | refine AW.cond_ff rfl ?_ | refine AW.label ?_ | refine AW.skip ?_ | refine AW.ret ?_ | refine AW.exit ?_ | refine AW.region ?_ | refine AW.draw (by kernel_rfl) (by kernel_rfl) ?_ | ((with_reducible refine And.intro ?_ ?_); (focus ((repeat' (with_reducible apply And.intro)) <;> first | trivial | omega | rfl | (unfold inI; omega)))))
          have hj' : j = size.toNat := by omega
          subst hj'
          refine Sub.of (fun l => 1) (fun l h => absurd h (Nat.not_lt_zero l)) (by intro l l' h h' e; dsimp only at *; omega) (Nat.zero_le _) rfl rfl (by simp) ?_ ?_
          · simp [lab, labL, ren, renL, look_cons, renL_bys, labL_bys]
          · simp [labO, renO, look_cons]
    · repeat (first | simp only [go_sem, Nat.reduceLT, Nat.reduceEqDiff, reduceIte, Int.reduceEq, Int.reduceLE, Int.reduceLT, Nat.reduceMul, Nat.reduceAdd, Nat.reduceSub, Int.reduceNeg, Int.reduceAdd, Int.reduceMul, Int.reduceSub, Int.reduceToNat, Nat.reduceLeDiff, Nat.reduceDiv, Int.reduceDiv, reduceCtorEq] | refine AW.seq ?_ | refine AW.block ?_ | refine AW.scope ?_ | refine AW.cond_tt rfl ?_ | refine AW.cond_ff rfl ?_ | refine AW.label ?_ | refine AW.skip ?_ | refine AW.ret ?_ | refine AW.exit ?_ | refine AW.region ?_ | refine AW.draw (by kernel_rfl) (by kernel_rfl) ?_ | ((with_reducible refine And.intro ?_ ?_); (focus ((repeat' (with_reducible apply And.intro)) <;> first | trivial | omega | rfl | (unfold inI; omega)))))
      have hbad : putBad n size := .inl (by omega)
      exact absurd hbad hnb
  · repeat (first | simp only [go_sem, Nat.reduceLT, Nat.reduceEqDiff, reduceIte, Int.reduceEq, Int.reduceLE, Int.reduceLT, Nat.reduceMul, Nat.reduceAdd, Nat.reduceSub, Int.reduceNeg, Int.reduceAdd, Int.reduceMul, Int.reduceSub, Int.reduceToNat, Nat.reduceLeDiff, Nat.reduceDiv, Int.reduceDiv, reduceCtorEq] | refine AW.seq ?_ | refine AW.block ?_ | refine AW.scope ?_ | refine AW.cond_tt rfl ?_ | refine AW.cond_ff rfl ?_ | refine AW.label ?_ | refine AW.skip ?_ | refine AW.ret ?_ | refine AW.exit ?_ | refine AW.region ?_ | refine AW.draw (by kernel_rfl) (by kernel_rfl) ?_ | ((with_reducible refine And.intro ?_ ?_); (focus ((repeat' (with_reducible apply And.intro)) <;> first | trivial | omega | rfl | (unfold inI; omega)))))
    have hbad : putBad n size := .inl (by omega)
    exact absurd hbad hnb
theorem shr64_toNat (x : UInt64) (n : Nat) : (shr64 x n).toNat = x.toNat / 2 ^ n := by
  show (x.toBitVec >>> n).toNat = _
  rw [BitVec.toNat_ushiftRight, Nat.shiftRight_eq_div_pow]; rfl
theorem u64_u8 (x : UInt64) (n : Nat) (h : x.toNat = n) : x.toUInt8 = UInt8.ofNat n := by
  apply UInt8.toNat_inj.1
  rw [UInt64.toNat_toUInt8, UInt8.toNat_ofNat', h]
theorem bigE2 (n : UInt64) : bigE n 2 2 = [UInt8.ofNat (n.toNat / 256), UInt8.ofNat n.toNat] := by
  have e1 : (8 * (2 - 1 - ((0 : Nat) : Int))).toNat = 8 := rfl
  have e2 : (8 * (2 - 1 - ((1 : Nat) : Int))).toNat = 0 := rfl
  simp only [bigE, List.range, List.range.loop, List.map_cons, List.map_nil, e1, e2]
  rw [u64_u8 (shr64 n 8) (n.toNat / 256) (shr64_toNat n 8), u64_u8 (shr64 n 0) n.toNat (by rw [shr64_toNat]; simp)]
theorem f14 (b t : List UInt8) (hb : b.length ≤ 1000000) (ht : t.length ≤ 1000000) : AFun Try.prog 14 [.sl 1 (bys b) b.length none, .sl 1 (bys t) t.length none]
    (.tup [.sl 1 (bys (textS b t)) (textS b t).length none, int (textE t)]) := by
  refine AFun.enterW Try.func14 rfl Try.call14 (by simp [Try.ntmps14]) fun γ1 => ?_
  simp only [frameOf, Try.ntmps14]
  repeat (first | simp only [go_sem, Nat.reduceLT, Nat.reduceEqDiff, reduceIte, Int.reduceEq, Int.reduceLE, Int.reduceLT, Nat.reduceMul, Nat.reduceAdd, Nat.reduceSub, Int.reduceNeg, Int.reduceAdd, Int.reduceMul, Int.reduceSub, Int.reduceToNat, Nat.reduceLeDiff, Nat.reduceDiv, Int.reduceDiv, reduceCtorEq] | refine AW.seq ?_ | refine AW.block ?_ | refine AW.scope ?_ | refine AW.cond_tt rfl ?_ | refine AW.cond_ff rfl ?_ | refine AW.label ?_ | refine AW.skip ?_ | refine AW.ret ?_ | refine AW.exit ?_ | refine AW.region ?_ | refine AW.draw (by kernel_rfl) (by kernel_rfl) ?_ | ((with_reducible refine And.intro ?_ ?_); (focus ((repeat' (with_reducible apply And.intro)) <;> first | trivial | omega | rfl | (unfold inI; omega)))))
  refine AW.cond_dec rfl (fun h1 => ?_) (fun h1 => ?_)
  · repeat (first | simp only [go_sem, Nat.reduceLT, Nat.reduceEqDiff, reduceIte, Int.reduceEq, Int.reduceLE, Int.reduceLT, Nat.reduceMul, Nat.reduceAdd, Nat.reduceSub, Int.reduceNeg, Int.reduceAdd, Int.reduceMul, Int.reduceSub, Int.reduceToNat, Nat.reduceLeDiff, Nat.reduceDiv, Int.reduceDiv, reduceCtorEq] | refine AW.seq ?_ | refine AW.block ?_ | refine AW.scope ?_ | refine AW.cond_tt rfl ?_ | refine AW.cond_ff rfl ?_ | refine AW.label ?_ | refine AW.skip ?_ | refine AW.ret ?_ | refine AW.exit ?_ | refine AW.region ?_ | refine AW.draw (by kernel_rfl) (by kernel_rfl) ?_ | ((with_reducible refine And.intro ?_ ?_); (focus ((repeat' (with_reducible apply And.intro)) <;> first | trivial | omega | rfl | (unfold inI; omega)))))
    have hbad : 65535 < t.length := by omega
    simp only [textS, textE, if_pos hbad]
    exact Wk.tup ⟨Wk.nil rfl rfl, Wk.refl _, trivial⟩
  · have e : ((t.length : Int) % 18446744073709551616) = ((UInt64.ofNat t.length).toNat : Int) := by
      rw [UInt64.toNat_ofNat']; omega
    have hlt : (UInt64.ofNat t.length).toNat = t.length := by rw [UInt64.toNat_ofNat']; omega
    have hnb : ¬ putBad (UInt64.ofNat t.length) 2 := by
      have : (shr64 (UInt64.ofNat t.length) 16).toNat = 0 := by rw [shr64_toNat, hlt]; omega
      simp only [putBad, show (8 * 2 : Int).toNat = 16 from rfl, this]; omega
    repeat (first | simp only [go_sem, Nat.reduceLT, Nat.reduceEqDiff, reduceIte, Int.reduceEq, Int.reduceLE, Int.reduceLT, Nat.reduceMul, Nat.reduceAdd, Nat.reduceSub, Int.reduceNeg, Int.reduceAdd, Int.reduceMul, Int.reduceSub, Int.reduceToNat, Nat.reduceLeDiff, Nat.reduceDiv, Int.reduceDiv, reduceCtorEq, e] | refine AW.seq ?_ | refine AW.block ?_ | refine AW.scope ?_ | refine AW.cond_tt rfl ?_ | refine AW.cond_ff rfl ?_ | refine AW.label ?_ | refine AW.skip ?_ | refine AW.ret ?_ | refine AW.exit ?_ | refine AW.region ?_ | refine AW.draw (by kernel_rfl) (by kernel_rfl) ?_ | ((with_reducible refine And.intro ?_ ?_); (focus ((repeat' (with_reducible apply And.intro)) <;> first | trivial | omega | rfl | (unfold inI; omega)))))
    refine CallE.memH (f10T b hb (UInt64.ofNat t.length) 2 (by unfold inI; omega) hnb) rfl (by simp [bor]) (by rfl) ?_
    simp only [List.flatMap_cons, List.flatMap_nil, bor, dels, List.nil_append, upHp, List.append_nil, renO, ren, renL, renL_bys, Option.map_some, Nat.zero_add]
    repeat (first | simp only [go_sem, Nat.reduceLT, Nat.reduceEqDiff, reduceIte, Int.reduceEq, Int.reduceLE, Int.reduceLT, Nat.reduceMul, Nat.reduceAdd, Nat.reduceSub, Int.reduceNeg, Int.reduceAdd, Int.reduceMul, Int.reduceSub, Int.reduceToNat, Nat.reduceLeDiff, Nat.reduceDiv, Int.reduceDiv, reduceCtorEq] | refine AW.seq ?_ | refine AW.block ?_ | refine AW.scope ?_ | refine AW.cond_tt rfl ?_ | refine AW.cond_ff rfl ?_ | refine AW.label ?_ | refine AW.skip ?_ | refine AW.ret ?_ | refine AW.exit ?_ | refine AW.region ?_ | refine AW.draw (by kernel_rfl) (by kernel_rfl) ?_ | ((with_reducible refine And.intro ?_ ?_); (focus ((repeat' (with_reducible apply And.intro)) <;> first | trivial | omega | rfl | (unfold inI; omega)))))
    have hbad : ¬ 65535 < t.length := by omega
    have e3 : bigE (UInt64.ofNat t.length) 2 2 = [UInt8.ofNat (t.length / 256), UInt8.ofNat t.length] := by
      rw [bigE2, hlt]
    rw [e3]
    simp only [textS, textE, if_neg hbad, bys_two, bys_append, List.length_append, List.length_cons, List.length_nil, Nat.zero_add, Nat.reduceAdd, show (2 : Int).toNat = 2 from rfl]
    exact Wk.refl _
end Go.Proofs.Ytapjkdmdckfjbaa

namespace Go.Proofs.Ytapjkdmdckfjbaa
open Go Go.Eng Go.Proofs
set_option maxRecDepth 100000
set_option linter.unusedSimpArgs false
set_option linter.unusedVariables false
theorem takeG2 (l : List UInt8) (h : 2 ≤ l.length) : (takeG (l.take (2 : Int).toNat)).toNat = txN l := by
  match l, h with
  | a :: c :: r, _ =>
    have ha := a.toNat_lt
    have hc := c.toNat_lt
    simp only [show (2 : Int).toNat = 2 from rfl, List.take_succ_cons, List.take_zero, takeG, List.foldl_cons, List.foldl_nil, txN, List.getD_cons_zero, List.getD_cons_succ, UInt64.toNat_add, UInt64.toNat_mul, UInt8.toNat_toUInt64, show (0 : UInt64).toNat = 0 from rfl, show (256 : UInt64).toNat = 256 from rfl]
    omega
def st16 (left : List UInt8) (d : List (List UInt8)) : S :=
  if d = [] then ⟨[(0, .sl 1 (bys left) left.length none), (4, nilS)], 38, [], 0, []⟩
  else ⟨[(0, .sl 1 (bys left) left.length none), (4, .sl 1 (d.map tx) d.length (some 0))], 38, [(0, .tok)], 1, []⟩
theorem st16_nil {left : List UInt8} : st16 left [] = ⟨[(0, .sl 1 (bys left) left.length none), (4, nilS)], 38, [], 0, []⟩ := rfl
theorem st16_cons {left : List UInt8} {d : List (List UInt8)} (h : d ≠ []) : st16 left d = ⟨[(0, .sl 1 (bys left) left.length none), (4, .sl 1 (d.map tx) d.length (some 0))], 38, [(0, .tok)], 1, []⟩ := by
  simp only [st16, if_neg h]
theorem f16 (b : List UInt8) (hb : b.length ≤ 1000000) : AFun Try.prog 16 [.sl 1 (bys b) b.length none] (.tup [.sl 1 ((textsS b).map tx) (textsS b).length none, int (textsE b)]) := by
  refine AFun.enterW Try.func16 rfl Try.call16 (by simp [Try.ntmps16]) fun γ1 => ?_
  simp only [frameOf, Try.ntmps16]
  repeat (first | simp only [go_sem, Nat.reduceLT, Nat.reduceEqDiff, reduceIte, Int.reduceEq, Int.reduceLE, Int.reduceLT, Nat.reduceMul, Nat.reduceAdd, Nat.reduceSub, Int.reduceNeg, Int.reduceAdd, Int.reduceMul, Int.reduceSub, Int.reduceToNat, Nat.reduceLeDiff, Nat.reduceDiv, Int.reduceDiv, reduceCtorEq] | refine AW.seq ?_ | refine AW.block ?_ | refine AW.scope ?_ | refine AW.cond_tt rfl ?_ | refine AW.cond_ff rfl ?_ | refine AW.label ?_ | refine AW.skip ?_ | refine AW.ret ?_ | refine AW.exit ?_ | refine AW.region ?_ | refine AW.draw (by kernel_rfl) (by kernel_rfl) ?_ | ((with_reducible refine And.intro ?_ ?_); (focus ((repeat' (with_reducible apply And.intro)) <;> first | trivial | omega | rfl | (unfold inI; omega)))))
  refine AW.loop (fun s => ∃ (d : List (List UInt8)) (left : List UInt8), d.length + left.length ≤ b.length ∧ textsO b = (textsO left).map (d ++ ·) ∧ s = st16 left d) (fun s => match Eng.look s.fr 0 with | some (.sl _ _ n _) => n | _ => 0) (s0 := st16 b []) ?_ ⟨[], b, by simp, by simp, rfl⟩ ?_
  · simp only [st16, if_pos]
    exact (Sub.same (by first | exact Nat.zero_le _ | exact Nat.le_refl _ | decide | omega) rfl rfl (by simp) (by simp [lab, labL, ren, renL, look_cons, renL_bys, labL_bys, renL_mapu8, labL_mapu8]) (by simp [labO, renO, lab, labL, ren, renL, look_cons, renL_bys, labL_bys, renL_mapu8, labL_mapu8]))
  rintro s ⟨d, left, hl0, ht, rfl⟩
  have hl : left.length ≤ b.length := by omega
  have none_case : textsO left = none → Wk (AV.tup [AV.v (Value.slice none 0 0), AV.v (Value.int IntKind.i64 10)]) (AV.tup [AV.sl 1 (List.map tx (textsS b)) (textsS b).length none, int (textsE b)]) := by
    intro h
    rw [h] at ht
    simp only [textsS, textsE, ht, Option.map_none, Option.getD_none, List.map_nil, List.length_nil, Option.isSome_none, Bool.false_eq_true, if_false]
    exact Wk.tup ⟨Wk.nil rfl rfl, Wk.refl _, trivial⟩
  have meas : ∀ d', (match Eng.look (st16 (left.drop (2 + txN left)) d').fr 0 with | some (.sl _ _ n _) => n | _ => 0) = left.length - (2 + txN left) := by
    intro d'
    by_cases h : d' = []
    · rw [st16, if_pos h]; exact List.length_drop
    · rw [st16, if_neg h]; exact List.length_drop
  by_cases hd : d = []
  · subst hd
    rw [st16_nil]
    repeat (first | simp only [go_sem, Nat.reduceLT, Nat.reduceEqDiff, reduceIte, Int.reduceEq, Int.reduceLE, Int.reduceLT, Nat.reduceMul, Nat.reduceAdd, Nat.reduceSub, Int.reduceNeg, Int.reduceAdd, Int.reduceMul, Int.reduceSub, Int.reduceToNat, Nat.reduceLeDiff, Nat.reduceDiv, Int.reduceDiv, reduceCtorEq] | refine AW.seq ?_ | refine AW.block ?_ | refine AW.scope ?_ | refine AW.cond_tt rfl ?_ | refine AW.cond_ff rfl ?_ | refine AW.label ?_ | refine AW.skip ?_ | refine AW.ret ?_ | refine AW.exit ?_ | refine AW.region ?_ | refine AW.draw (by kernel_rfl) (by kernel_rfl) ?_ | ((with_reducible refine And.intro ?_ ?_); (focus ((repeat' (with_reducible apply And.intro)) <;> first | trivial | omega | rfl | (unfold inI; omega)))))
    refine AW.cond_dec rfl (fun h1 => ?_) (fun h1 => ?_)
    · repeat (first | simp only [go_sem, Nat.reduceLT, Nat.reduceEqDiff, reduceIte, Int.reduceEq, Int.reduceLE, Int.reduceLT, Nat.reduceMul, Nat.reduceAdd, Nat.reduceSub, Int.reduceNeg, Int.reduceAdd, Int.reduceMul, Int.reduceSub, Int.reduceToNat, Nat.reduceLeDiff, Nat.reduceDiv, Int.reduceDiv, reduceCtorEq] | refine AW.seq ?_ | refine AW.block ?_ | refine AW.scope ?_ | refine AW.cond_tt rfl ?_ | refine AW.cond_ff rfl ?_ | refine AW.label ?_ | refine AW.skip ?_ | refine AW.ret ?_ | refine AW.exit ?_ | refine AW.region ?_ | refine AW.draw (by kernel_rfl) (by kernel_rfl) ?_ | ((with_reducible refine And.intro ?_ ?_); (focus ((repeat' (with_reducible apply And.intro)) <;> first | trivial | omega | rfl | (unfold inI; omega)))))
      have hx := (left.getD 0 0).toNat_lt
      have hy := (left.getD 1 0).toNat_lt
      refine CallE.mem (f12 left (by omega) 2 (by unfold inI; omega)) rfl (by simp [bor]) (by rfl) ?_
      by_cases h2 : left.length < 2
      · have hbad : takeBad left 2 := .inr (by omega)
        have e1 : takeE left 2 = 10 := if_pos hbad
        repeat (first | simp only [go_sem, Nat.reduceLT, Nat.reduceEqDiff, reduceIte, Int.reduceEq, Int.reduceLE, Int.reduceLT, Nat.reduceMul, Nat.reduceAdd, Nat.reduceSub, Int.reduceNeg, Int.reduceAdd, Int.reduceMul, Int.reduceSub, Int.reduceToNat, Nat.reduceLeDiff, Nat.reduceDiv, Int.reduceDiv, reduceCtorEq, e1] | refine AW.seq ?_ | refine AW.block ?_ | refine AW.scope ?_ | refine AW.cond_tt rfl ?_ | refine AW.cond_ff rfl ?_ | refine AW.label ?_ | refine AW.skip ?_ | refine AW.ret ?_ | refine AW.exit ?_ | refine AW.region ?_ | refine AW.draw (by kernel_rfl) (by kernel_rfl) ?_ | ((with_reducible refine And.intro ?_ ?_); (focus ((repeat' (with_reducible apply And.intro)) <;> first | trivial | omega | rfl | (unfold inI; omega)))))
        exact none_case (textsO_none (by omega) (by omega))
      · have hbad : ¬ takeBad left 2 := by unfold takeBad; omega
        have e1 : takeE left 2 = 0 := if_neg hbad
        have e2 : takeR left 2 = left.drop 2 := if_neg hbad
        have e3 : (takeM left 2).toNat = txN left := by
          simp only [takeM, if_neg hbad]
          exact takeG2 left (by omega)
        repeat (first | simp only [go_sem, Nat.reduceLT, Nat.reduceEqDiff, reduceIte, Int.reduceEq, Int.reduceLE, Int.reduceLT, Nat.reduceMul, Nat.reduceAdd, Nat.reduceSub, Int.reduceNeg, Int.reduceAdd, Int.reduceMul, Int.reduceSub, Int.reduceToNat, Nat.reduceLeDiff, Nat.reduceDiv, Int.reduceDiv, reduceCtorEq, e1, e2, e3] | refine AW.seq ?_ | refine AW.block ?_ | refine AW.scope ?_ | refine AW.cond_tt rfl ?_ | refine AW.cond_ff rfl ?_ | refine AW.label ?_ | refine AW.skip ?_ | refine AW.ret ?_ | refine AW.exit ?_ | refine AW.region ?_ | refine AW.draw (by kernel_rfl) (by kernel_rfl) ?_ | ((with_reducible refine And.intro ?_ ?_); (focus ((repeat' (with_reducible apply And.intro)) <;> first | trivial | omega | rfl | (unfold inI; omega)))))
        have hw : IntKind.i64.wrap ((txN left : Nat) : Int) = (txN left : Int) := wrap_inI (by unfold inI txN; omega)
        have e5 : (((left.drop 2).length : Int) - (txN left : Int)).toNat = left.length - (2 + txN left) := by rw [List.length_drop]; omega
        have e6 : ((left.drop 2).drop (txN left)).take (left.length - (2 + txN left)) = left.drop (2 + txN left) := by rw [List.drop_drop]; exact List.take_of_length_le (by simp)
        refine AW.cond_dec (by simp only [hw]; rfl) (fun h3 => ?_) (fun h3 => ?_)
        · repeat (first | simp only [go_sem, Nat.reduceLT, Nat.reduceEqDiff, reduceIte, Int.reduceEq, Int.reduceLE, Int.reduceLT, Nat.reduceMul, Nat.reduceAdd, Nat.reduceSub, Int.reduceNeg, Int.reduceAdd, Int.reduceMul, Int.reduceSub, Int.reduceToNat, Nat.reduceLeDiff, Nat.reduceDiv, Int.reduceDiv, reduceCtorEq] | refine AW.seq ?_ | refine AW.block ?_ | refine AW.scope ?_ | refine AW.cond_tt rfl ?_ | refine AW.cond_ff rfl ?_ | refine AW.label ?_ | refine AW.skip ?_ | refine AW.ret ?_ | refine AW.exit ?_ | refine AW.region ?_ | refine AW.draw (by kernel_rfl) (by kernel_rfl) ?_ | ((with_reducible refine And.intro ?_ ?_); (focus ((repeat' (with_reducible apply And.intro)) <;> first | trivial | omega | rfl | (unfold inI; omega)))))
          rw [List.length_drop] at h3
          exact none_case (textsO_none (by omega) (by omega))
        · rw [List.length_drop] at h3
          have hcl : (txN left : Int) ≤ (left.drop 2).length := by rw [List.length_drop]; omega
          repeat (first | simp only [go_sem, Nat.reduceLT, Nat.reduceEqDiff, reduceIte, Int.reduceEq, Int.reduceLE, Int.reduceLT, Nat.reduceMul, Nat.reduceAdd, Nat.reduceSub, Int.reduceNeg, Int.reduceAdd, Int.reduceMul, Int.reduceSub, Int.reduceToNat, Nat.reduceLeDiff, Nat.reduceDiv, Int.reduceDiv, reduceCtorEq, e3, hw, e5, e6, Int.toNat_natCast] | refine AW.seq ?_ | refine AW.block ?_ | refine AW.scope ?_ | refine AW.cond_tt rfl ?_ | refine AW.cond_ff rfl ?_ | refine AW.label ?_ | refine AW.skip ?_ | refine AW.ret ?_ | refine AW.exit ?_ | refine AW.region ?_ | refine AW.draw (by kernel_rfl) (by kernel_rfl) ?_ | ((with_reducible refine And.intro ?_ ?_); (focus ((repeat' (with_reducible apply And.intro)) <;> first | trivial | omega | rfl | (unfold inI; omega)))))
          rw [Qof_lp]
          refine ⟨st16 (left.drop (2 + txN left)) ([] ++ [(left.drop 2).take (txN left)]), ?_, ⟨[] ++ [(left.drop 2).take (txN left)], left.drop (2 + txN left), by simp; omega, ?_, rfl⟩, ?_⟩
          · rw [st16_cons (by simp)]
            have e7 : min (txN left) (left.length - 2) = txN left := Nat.min_eq_left (by omega)
            refine Sub.of (fun l => 4) (fun l h => absurd h (Nat.not_lt_zero l)) (by intro l l' h h' e; dsimp only at *; omega) (Nat.zero_le _) rfl rfl (by simp) ?_ ?_
            · simp [lab, labL, ren, renL, look_cons, renL_bys, labL_bys, tx, e7]
            · simp [labO, renO, look_cons]
          · rw [ht, textsO_some (by omega) (by omega)]
            cases textsO (left.drop (2 + txN left)) <;> simp
          · rw [meas]; omega
    · repeat (first | simp only [go_sem, Nat.reduceLT, Nat.reduceEqDiff, reduceIte, Int.reduceEq, Int.reduceLE, Int.reduceLT, Nat.reduceMul, Nat.reduceAdd, Nat.reduceSub, Int.reduceNeg, Int.reduceAdd, Int.reduceMul, Int.reduceSub, Int.reduceToNat, Nat.reduceLeDiff, Nat.reduceDiv, Int.reduceDiv, reduceCtorEq] | refine AW.seq ?_ | refine AW.block ?_ | refine AW.scope ?_ | refine AW.cond_tt rfl ?_ | refine AW.cond_ff rfl ?_ | refine AW.label ?_ | refine AW.skip ?_ | refine AW.ret ?_ | refine AW.exit ?_ | refine AW.region ?_ | refine AW.draw (by kernel_rfl) (by kernel_rfl) ?_ | ((with_reducible refine And.intro ?_ ?_); (focus ((repeat' (with_reducible apply And.intro)) <;> first | trivial | omega | rfl | (unfold inI; omega)))))
      have h0 : left.length = 0 := by omega
      rw [textsO_nil h0] at ht
      simp only [textsS, textsE, ht, Option.map_some, Option.getD_some, List.append_nil, List.map_nil, List.length_nil, Option.isSome_some, if_true]
      exact Wk.tup ⟨Wk.nil rfl rfl, Wk.refl _, trivial⟩
  · rw [st16_cons hd]
    repeat (first | simp only [go_sem, Nat.reduceLT, Nat.reduceEqDiff, reduceIte, Int.reduceEq, Int.reduceLE, Int.reduceLT, Nat.reduceMul, Nat.reduceAdd, Nat.reduceSub, Int.reduceNeg, Int.reduceAdd, Int.reduceMul, Int.reduceSub, Int.reduceToNat, Nat.reduceLeDiff, Nat.reduceDiv, Int.reduceDiv, reduceCtorEq] | refine AW.seq ?_ | refine AW.block ?_ | refine AW.scope ?_ | refine AW.cond_tt rfl ?_ | refine AW.cond_ff rfl ?_ | refine AW.label ?_ | refine AW.skip ?_ | refine AW.ret ?_ | refine AW.exit ?_ | refine AW.region ?_ | refine AW.draw (by kernel_rfl) (by kernel_rfl) ?_ | ((with_reducible refine And.intro ?_ ?_); (focus ((repeat' (with_reducible apply And.intro)) <;> first | trivial | omega | rfl | (unfold inI; omega)))))
    refine AW.cond_dec rfl (fun h1 => ?_) (fun h1 => ?_)
    · repeat (first | simp only [go_sem, Nat.reduceLT, Nat.reduceEqDiff, reduceIte, Int.reduceEq, Int.reduceLE, Int.reduceLT, Nat.reduceMul, Nat.reduceAdd, Nat.reduceSub, Int.reduceNeg, Int.reduceAdd, Int.reduceMul, Int.reduceSub, Int.reduceToNat, Nat.reduceLeDiff, Nat.reduceDiv, Int.reduceDiv, reduceCtorEq] | refine AW.seq ?_ | refine AW.block ?_ | refine AW.scope ?_ | refine AW.cond_tt rfl ?_ | refine AW.cond_ff rfl ?_ | refine AW.label ?_ | refine AW.skip ?_ | refine AW.ret ?_ | refine AW.exit ?_ | refine AW.region ?_ | refine AW.draw (by kernel_rfl) (by kernel_rfl) ?_ | ((with_reducible refine And.intro ?_ ?_); (focus ((repeat' (with_reducible apply And.intro)) <;> first | trivial | omega | rfl | (unfold inI; omega)))))
      have hx := (left.getD 0 0).toNat_lt
      have hy := (left.getD 1 0).toNat_lt
      refine CallE.mem (f12 left (by omega) 2 (by unfold inI; omega)) rfl (by simp [bor]) (by rfl) ?_
      by_cases h2 : left.length < 2
      · have hbad : takeBad left 2 := .inr (by omega)
        have e1 : takeE left 2 = 10 := if_pos hbad
        repeat (first | simp only [go_sem, Nat.reduceLT, Nat.reduceEqDiff, reduceIte, Int.reduceEq, Int.reduceLE, Int.reduceLT, Nat.reduceMul, Nat.reduceAdd, Nat.reduceSub, Int.reduceNeg, Int.reduceAdd, Int.reduceMul, Int.reduceSub, Int.reduceToNat, Nat.reduceLeDiff, Nat.reduceDiv, Int.reduceDiv, reduceCtorEq, e1] | refine AW.seq ?_ | refine AW.block ?_ | refine AW.scope ?_ | refine AW.cond_tt rfl ?_ | refine AW.cond_ff rfl ?_ | refine AW.label ?_ | refine AW.skip ?_ | refine AW.ret ?_ | refine AW.exit ?_ | refine AW.region ?_ | refine AW.draw (by kernel_rfl) (by kernel_rfl) ?_ | ((with_reducible refine And.intro ?_ ?_); (focus ((repeat' (with_reducible apply And.intro)) <;> first | trivial | omega | rfl | (unfold inI; omega)))))
        exact none_case (textsO_none (by omega) (by omega))
      · have hbad : ¬ takeBad left 2 := by unfold takeBad; omega
        have e1 : takeE left 2 = 0 := if_neg hbad
        have e2 : takeR left 2 = left.drop 2 := if_neg hbad
        have e3 : (takeM left 2).toNat = txN left := by
          simp only [takeM, if_neg hbad]
          exact takeG2 left (by omega)
        repeat (first | simp only [go_sem, Nat.reduceLT, Nat.reduceEqDiff, reduceIte, Int.reduceEq, Int.reduceLE, Int.reduceLT, Nat.reduceMul, Nat.reduceAdd, Nat.reduceSub, Int.reduceNeg, Int.reduceAdd, Int.reduceMul, Int.reduceSub, Int.reduceToNat, Nat.reduceLeDiff, Nat.reduceDiv, Int.reduceDiv, reduceCtorEq, e1, e2, e3] | refine AW.seq ?_ | refine AW.block ?_ | refine AW.scope ?_ | refine AW.cond_tt rfl ?_ | refine AW.cond_ff rfl ?_ | refine AW.label ?_ | refine AW.skip ?_ | refine AW.ret ?_ | refine AW.exit ?_ | refine AW.region ?_ | refine AW.draw (by kernel_rfl) (by kernel_rfl) ?_ | ((with_reducible refine And.intro ?_ ?_); (focus ((repeat' (with_reducible apply And.intro)) <;> first | trivial | omega | rfl | (unfold inI; omega)))))
        have hw : IntKind.i64.wrap ((txN left : Nat) : Int) = (txN left : Int) := wrap_inI (by unfold inI txN; omega)
        have e5 : (((left.drop 2).length : Int) - (txN left : Int)).toNat = left.length - (2 + txN left) := by rw [List.length_drop]; omega
        have e6 : ((left.drop 2).drop (txN left)).take (left.length - (2 + txN left)) = left.drop (2 + txN left) := by rw [List.drop_drop]; exact List.take_of_length_le (by simp)
        refine AW.cond_dec (by simp only [hw]; rfl) (fun h3 => ?_) (fun h3 => ?_)
        · repeat (first | simp only [go_sem, Nat.reduceLT, Nat.reduceEqDiff, reduceIte, Int.reduceEq, Int.reduceLE, Int.reduceLT, Nat.reduceMul, Nat.reduceAdd, Nat.reduceSub, Int.reduceNeg, Int.reduceAdd, Int.reduceMul, Int.reduceSub, Int.reduceToNat, Nat.reduceLeDiff, Nat.reduceDiv, Int.reduceDiv, reduceCtorEq] | refine AW.seq ?_ | refine AW.block ?_ | refine AW.scope ?_ | refine AW.cond_tt rfl ?_ | refine AW.cond_ff rfl ?_ | refine AW.label ?_ | refine AW.skip ?_ | refine AW.ret ?_ | refine AW.exit ?_ | refine AW.region ?_ | refine AW.draw (by kernel_rfl) (by kernel_rfl) ?_ | ((with_reducible refine And.intro ?_ ?_); (focus ((repeat' (with_reducible apply And.intro)) <;> first | trivial | omega | rfl | (unfold inI; omega)))))
          rw [List.length_drop] at h3
          exact none_case (textsO_none (by omega) (by omega))
        · rw [List.length_drop] at h3
          have hcl : (txN left : Int) ≤ (left.drop 2).length := by rw [List.length_drop]; omega
          repeat (first | simp only [go_sem, Nat.reduceLT, Nat.reduceEqDiff, reduceIte, Int.reduceEq, Int.reduceLE, Int.reduceLT, Nat.reduceMul, Nat.reduceAdd, Nat.reduceSub, Int.reduceNeg, Int.reduceAdd, Int.reduceMul, Int.reduceSub, Int.reduceToNat, Nat.reduceLeDiff, Nat.reduceDiv, Int.reduceDiv, reduceCtorEq, e3, hw, e5, e6, Int.toNat_natCast] | refine AW.seq ?_ | refine AW.block ?_ | refine AW.scope ?_ | refine AW.cond_tt rfl ?_ | refine AW.cond_ff rfl ?_ | refine AW.label ?_ | refine AW.skip ?_ | refine AW.ret ?_ | refine AW.exit ?_ | refine AW.region ?_ | refine AW.draw (by kernel_rfl) (by kernel_rfl) ?_ | ((with_reducible refine And.intro ?_ ?_); (focus ((repeat' (with_reducible apply And.intro)) <;> first | trivial | omega | rfl | (unfold inI; omega)))))
          rw [Qof_lp]
          refine ⟨st16 (left.drop (2 + txN left)) (d ++ [(left.drop 2).take (txN left)]), ?_, ⟨d ++ [(left.drop 2).take (txN left)], left.drop (2 + txN left), by simp; omega, ?_, rfl⟩, ?_⟩
          · rw [st16_cons (by simp)]
            have e7 : min (txN left) (left.length - 2) = txN left := Nat.min_eq_left (by omega)
            refine Sub.of (fun l => 4) (fun l h => absurd h (Nat.not_lt_zero l)) (by intro l l' h h' e; dsimp only at *; omega) (Nat.zero_le _) rfl rfl (by simp) ?_ ?_
            · simp [lab, labL, ren, renL, look_cons, renL_bys, labL_bys, tx, e7]
              exact (renL_fix (by rintro x hx; simp at hx; rcases hx with ⟨a, -, rfl⟩ | rfl <;> simp [ren, tx, renL_bys])).symm
            · simp [labO, renO, look_cons]
          · rw [ht, textsO_some (by omega) (by omega)]
            cases textsO (left.drop (2 + txN left)) <;> simp
          · rw [meas]; omega
    · repeat (first | simp only [go_sem, Nat.reduceLT, Nat.reduceEqDiff, reduceIte, Int.reduceEq, Int.reduceLE, Int.reduceLT, Nat.reduceMul, Nat.reduceAdd, Nat.reduceSub, Int.reduceNeg, Int.reduceAdd, Int.reduceMul, Int.reduceSub, Int.reduceToNat, Nat.reduceLeDiff, Nat.reduceDiv, Int.reduceDiv, reduceCtorEq] | refine AW.seq ?_ | refine AW.block ?_ | refine AW.scope ?_ | refine AW.cond_tt rfl ?_ | refine AW.cond_ff rfl ?_ | refine AW.label ?_ | refine AW.skip ?_ | refine AW.ret ?_ | refine AW.exit ?_ | refine AW.region ?_ | refine AW.draw (by kernel_rfl) (by kernel_rfl) ?_ | ((with_reducible refine And.intro ?_ ?_); (focus ((repeat' (with_reducible apply And.intro)) <;> first | trivial | omega | rfl | (unfold inI; omega)))))
      have h0 : left.length = 0 := by omega
      rw [textsO_nil h0] at ht
      simp only [textsS, textsE, ht, Option.map_some, Option.getD_some, List.append_nil, Option.isSome_some, if_true]
      exact Wk.refl _
end Go.Proofs.Ytapjkdmdckfjbaa

namespace Go.Proofs.Ytapjkdmdckfjbaa
open Go Go.Eng Go.Proofs
set_option maxRecDepth 100000
set_option linter.unusedSimpArgs false
set_option linter.unusedVariables false
theorem a1 : putS [7] 258 2 = [7, 1, 2] := by decide +kernel
theorem a2 : putE 258 2 = 0 := by decide +kernel
theorem a3 : putS [] 256 1 = [] := by decide +kernel
theorem a4 : putE 256 1 = 10 := by decide +kernel
theorem a5 : takeN [1, 2, 9] 2 = 258 := by decide +kernel
theorem a6 : takeR [1, 2, 9] 2 = [9] := by decide +kernel
theorem a7 : takeE [1, 2, 9] 2 = 0 := by decide +kernel
theorem a8 : textS [] [97, 98] = [0, 2, 97, 98] := by decide +kernel
theorem a9 : textE [97, 98] = 0 := by decide +kernel
theorem a10 : textsO [0, 2, 97, 98, 0, 0] = some [[97, 98], []] := by
  rw [textsO_some (by decide) (by decide +kernel), textsO_some (by decide +kernel) (by decide +kernel), textsO_nil (by decide +kernel)]
  decide +kernel
theorem a11 : textsO [0] = none := textsO_none (by decide) (by decide)
theorem bytesA_nil : bytesA [] = [] := rfl
theorem bytesA_cons (x : UInt8) (r : List AV) : bytesA (.v (.int .u8 (x.toNat : Int)) :: r) = x :: bytesA r := by
  have h : (x.toNat : Int) < 256 := by have := x.toNat_lt; omega
  simp [bytesA, byteA, h]
theorem bytesOk_nil : bytesOk [] = True := by simp [bytesOk]
theorem bytesOk_cons (x : UInt8) (r : List AV) : bytesOk (.v (.int .u8 (x.toNat : Int)) :: r) = bytesOk r := by
  have h : (x.toNat : Int) < 256 := by have := x.toNat_lt; omega
  simp [bytesOk, byteA, h]
theorem zrow_u8 (n : Nat) (x : UInt8) : List.replicate n (u8 x) = (List.replicate n x).map u8 := by simp
def K9 : List UInt8 := turnS (List.replicate 32 0) 9
theorem a12 : turnS (List.replicate 32 0) 9 = K9 := rfl
theorem f8 : AFun Try.prog 8 [] (boo true) := by
  refine AFun.enterW Try.func8 rfl Try.call8 (by simp [Try.ntmps8]) fun γ1 => ?_
  simp only [frameOf, Try.ntmps8]
  repeat (first | simp only [go_sem, Nat.reduceLT, Nat.reduceEqDiff, reduceIte, Int.reduceEq, Int.reduceLE, Int.reduceLT, Nat.reduceMul, Nat.reduceAdd, Nat.reduceSub, Int.reduceNeg, Int.reduceAdd, Int.reduceMul, Int.reduceSub, Int.reduceToNat, Nat.reduceLeDiff, Nat.reduceDiv, Int.reduceDiv, reduceCtorEq] | refine AW.seq ?_ | refine AW.block ?_ | refine AW.scope ?_ | refine AW.cond_tt rfl ?_ | refine AW.cond_ff rfl ?_ | refine AW.label ?_ | refine AW.skip ?_ | refine AW.ret ?_ | refine AW.exit ?_ | refine AW.region ?_ | refine AW.draw (by kernel_rfl) (by kernel_rfl) ?_ | ((with_reducible refine And.intro ?_ ?_); (focus ((repeat' (with_reducible apply And.intro)) <;> first | trivial | omega | rfl | (unfold inI; omega)))))
  refine CallE.mem (f9 [7] (by decide) 258 2 (by unfold inI; omega)) rfl (by simp [bor]) (by rfl) ?_
  repeat (first | simp only [go_sem, Nat.reduceLT, Nat.reduceEqDiff, reduceIte, Int.reduceEq, Int.reduceLE, Int.reduceLT, Nat.reduceMul, Nat.reduceAdd, Nat.reduceSub, Int.reduceNeg, Int.reduceAdd, Int.reduceMul, Int.reduceSub, Int.reduceToNat, Nat.reduceLeDiff, Nat.reduceDiv, Int.reduceDiv, reduceCtorEq, a1, a2] | refine AW.seq ?_ | refine AW.block ?_ | refine AW.scope ?_ | refine AW.cond_tt rfl ?_ | refine AW.cond_ff rfl ?_ | refine AW.label ?_ | refine AW.skip ?_ | refine AW.ret ?_ | refine AW.exit ?_ | refine AW.region ?_ | refine AW.draw (by kernel_rfl) (by kernel_rfl) ?_ | ((with_reducible refine And.intro ?_ ?_); (focus ((repeat' (with_reducible apply And.intro)) <;> first | trivial | omega | rfl | (unfold inI; omega)))))
  refine CallE.memW (f9 [] (by decide) 256 1 (by unfold inI; omega)) ?_ (by simp [bor]) (by rfl) ?_
  · exact ⟨Wk.nil rfl rfl, Wk.refl _, Wk.refl _, trivial⟩
  repeat (first | simp only [go_sem, Nat.reduceLT, Nat.reduceEqDiff, reduceIte, Int.reduceEq, Int.reduceLE, Int.reduceLT, Nat.reduceMul, Nat.reduceAdd, Nat.reduceSub, Int.reduceNeg, Int.reduceAdd, Int.reduceMul, Int.reduceSub, Int.reduceToNat, Nat.reduceLeDiff, Nat.reduceDiv, Int.reduceDiv, reduceCtorEq, a3, a4] | refine AW.seq ?_ | refine AW.block ?_ | refine AW.scope ?_ | refine AW.cond_tt rfl ?_ | refine AW.cond_ff rfl ?_ | refine AW.label ?_ | refine AW.skip ?_ | refine AW.ret ?_ | refine AW.exit ?_ | refine AW.region ?_ | refine AW.draw (by kernel_rfl) (by kernel_rfl) ?_ | ((with_reducible refine And.intro ?_ ?_); (focus ((repeat' (with_reducible apply And.intro)) <;> first | trivial | omega | rfl | (unfold inI; omega)))))
  refine CallE.mem (f11 [1, 2, 9] (by decide) 2 (by unfold inI; omega)) rfl (by simp [bor]) (by rfl) ?_
  repeat (first | simp only [go_sem, Nat.reduceLT, Nat.reduceEqDiff, reduceIte, Int.reduceEq, Int.reduceLE, Int.reduceLT, Nat.reduceMul, Nat.reduceAdd, Nat.reduceSub, Int.reduceNeg, Int.reduceAdd, Int.reduceMul, Int.reduceSub, Int.reduceToNat, Nat.reduceLeDiff, Nat.reduceDiv, Int.reduceDiv, reduceCtorEq, a5, a6, a7] | refine AW.seq ?_ | refine AW.block ?_ | refine AW.scope ?_ | refine AW.cond_tt rfl ?_ | refine AW.cond_ff rfl ?_ | refine AW.label ?_ | refine AW.skip ?_ | refine AW.ret ?_ | refine AW.exit ?_ | refine AW.region ?_ | refine AW.draw (by kernel_rfl) (by kernel_rfl) ?_ | ((with_reducible refine And.intro ?_ ?_); (focus ((repeat' (with_reducible apply And.intro)) <;> first | trivial | omega | rfl | (unfold inI; omega)))))
  refine CallE.memW (f13 [] [97, 98] (by decide) (by decide)) ?_ (by simp [bor]) (by rfl) ?_
  · exact ⟨Wk.nil rfl rfl, Wk.refl _, trivial⟩
  repeat (first | simp only [go_sem, Nat.reduceLT, Nat.reduceEqDiff, reduceIte, Int.reduceEq, Int.reduceLE, Int.reduceLT, Nat.reduceMul, Nat.reduceAdd, Nat.reduceSub, Int.reduceNeg, Int.reduceAdd, Int.reduceMul, Int.reduceSub, Int.reduceToNat, Nat.reduceLeDiff, Nat.reduceDiv, Int.reduceDiv, reduceCtorEq, a8, a9] | refine AW.seq ?_ | refine AW.block ?_ | refine AW.scope ?_ | refine AW.cond_tt rfl ?_ | refine AW.cond_ff rfl ?_ | refine AW.label ?_ | refine AW.skip ?_ | refine AW.ret ?_ | refine AW.exit ?_ | refine AW.region ?_ | refine AW.draw (by kernel_rfl) (by kernel_rfl) ?_ | ((with_reducible refine And.intro ?_ ?_); (focus ((repeat' (with_reducible apply And.intro)) <;> first | trivial | omega | rfl | (unfold inI; omega)))))
  refine CallE.mem (f15 [0, 2, 97, 98, 0, 0] (by decide)) rfl (by simp [bor]) (by rfl) ?_
  repeat (first | simp only [go_sem, Nat.reduceLT, Nat.reduceEqDiff, reduceIte, Int.reduceEq, Int.reduceLE, Int.reduceLT, Nat.reduceMul, Nat.reduceAdd, Nat.reduceSub, Int.reduceNeg, Int.reduceAdd, Int.reduceMul, Int.reduceSub, Int.reduceToNat, Nat.reduceLeDiff, Nat.reduceDiv, Int.reduceDiv, reduceCtorEq, a10, a11, textsS, textsE, Option.getD_some, Option.isSome_some] | refine AW.seq ?_ | refine AW.block ?_ | refine AW.scope ?_ | refine AW.cond_tt rfl ?_ | refine AW.cond_ff rfl ?_ | refine AW.label ?_ | refine AW.skip ?_ | refine AW.ret ?_ | refine AW.exit ?_ | refine AW.region ?_ | refine AW.draw (by kernel_rfl) (by kernel_rfl) ?_ | ((with_reducible refine And.intro ?_ ?_); (focus ((repeat' (with_reducible apply And.intro)) <;> first | trivial | omega | rfl | (unfold inI; omega)))))
  refine CallE.mem (f15 [0] (by decide)) rfl (by simp [bor]) (by rfl) ?_
  repeat (first | simp only [go_sem, Nat.reduceLT, Nat.reduceEqDiff, reduceIte, Int.reduceEq, Int.reduceLE, Int.reduceLT, Nat.reduceMul, Nat.reduceAdd, Nat.reduceSub, Int.reduceNeg, Int.reduceAdd, Int.reduceMul, Int.reduceSub, Int.reduceToNat, Nat.reduceLeDiff, Nat.reduceDiv, Int.reduceDiv, reduceCtorEq, a10, a11, textsS, textsE, Option.getD_none, Option.isSome_none, Bool.false_eq_true] | refine AW.seq ?_ | refine AW.block ?_ | refine AW.scope ?_ | refine AW.cond_tt rfl ?_ | refine AW.cond_ff rfl ?_ | refine AW.label ?_ | refine AW.skip ?_ | refine AW.ret ?_ | refine AW.exit ?_ | refine AW.region ?_ | refine AW.draw (by kernel_rfl) (by kernel_rfl) ?_ | ((with_reducible refine And.intro ?_ ?_); (focus ((repeat' (with_reducible apply And.intro)) <;> first | trivial | omega | rfl | (unfold inI; omega)))))
  refine CallE.flat (f20 (List.replicate 32 0) (by decide) 9 (by unfold inI; omega)) rfl rfl (by rfl) ?_
  repeat (first | simp only [go_sem, Nat.reduceLT, Nat.reduceEqDiff, reduceIte, Int.reduceEq, Int.reduceLE, Int.reduceLT, Nat.reduceMul, Nat.reduceAdd, Nat.reduceSub, Int.reduceNeg, Int.reduceAdd, Int.reduceMul, Int.reduceSub, Int.reduceToNat, Nat.reduceLeDiff, Nat.reduceDiv, Int.reduceDiv, reduceCtorEq] | refine AW.seq ?_ | refine AW.block ?_ | refine AW.scope ?_ | refine AW.cond_tt rfl ?_ | refine AW.cond_ff rfl ?_ | refine AW.label ?_ | refine AW.skip ?_ | refine AW.ret ?_ | refine AW.exit ?_ | refine AW.region ?_ | refine AW.draw (by kernel_rfl) (by kernel_rfl) ?_ | ((with_reducible refine And.intro ?_ ?_); (focus ((repeat' (with_reducible apply And.intro)) <;> first | trivial | omega | rfl | (unfold inI; omega)))))
  simp only [List.append_eq, List.cons_append, List.nil_append, List.toList_toArray]
  have hK : K9.length = 32 := by decide +kernel
  have hsp : splice (List.replicate 32 (u8 0)) 0 (K9.map u8) = K9.map u8 := splice_all (by rw [List.length_map, hK, List.length_replicate])
  have e258 : (((258 : UInt64).toNat : Nat) : Int) = 258 := rfl
  repeat (first | simp only [go_sem, Nat.reduceLT, Nat.reduceEqDiff, reduceIte, Int.reduceEq, Int.reduceLE, Int.reduceLT, Nat.reduceMul, Nat.reduceAdd, Nat.reduceSub, Int.reduceNeg, Int.reduceAdd, Int.reduceMul, Int.reduceSub, Int.reduceToNat, Nat.reduceLeDiff, Nat.reduceDiv, Int.reduceDiv, reduceCtorEq, a12, e258, hsp, bytesA_bys, bytesOk_bys, bytesA_nil, bytesA_cons, bytesOk_nil, bytesOk_cons, UInt8.reduceOfNat, and_true, eq_self] | refine AW.seq ?_ | refine AW.block ?_ | refine AW.scope ?_ | refine AW.cond_tt rfl ?_ | refine AW.cond_ff rfl ?_ | refine AW.label ?_ | refine AW.skip ?_ | refine AW.ret ?_ | refine AW.exit ?_ | refine AW.region ?_ | refine AW.draw (by kernel_rfl) (by kernel_rfl) ?_ | ((with_reducible refine And.intro ?_ ?_); (focus ((repeat' (with_reducible apply And.intro)) <;> first | trivial | omega | rfl | (unfold inI; omega)))))
  refine CallE.memW (f17 [[97, 98], []] [[97, 98], []] (by decide)) ?_ (by simp [bor]) (by rfl) ?_
  · exact ⟨Wk.refl _, Wk.sl ⟨Wk.refl _, Wk.nil rfl rfl, trivial⟩, trivial⟩
  have hK1 : (List.drop 1 (K9.map u8)).getD 0 .bad = u8 64 := by rw [show (64 : UInt8) = K9.getD 1 0 by decide +kernel]; exact row_u8 (by rw [hK]; decide)
  repeat (first | simp only [go_sem, Nat.reduceLT, Nat.reduceEqDiff, reduceIte, Int.reduceEq, Int.reduceLE, Int.reduceLT, Nat.reduceMul, Nat.reduceAdd, Nat.reduceSub, Int.reduceNeg, Int.reduceAdd, Int.reduceMul, Int.reduceSub, Int.reduceToNat, Nat.reduceLeDiff, Nat.reduceDiv, Int.reduceDiv, reduceCtorEq, a12, hK1,  e258, hsp, bytesA_bys, bytesOk_bys, bytesA_nil, bytesA_cons, bytesOk_nil, bytesOk_cons, UInt8.reduceOfNat, and_true, eq_self] | refine AW.seq ?_ | refine AW.block ?_ | refine AW.scope ?_ | refine AW.cond_tt rfl ?_ | refine AW.cond_ff rfl ?_ | refine AW.label ?_ | refine AW.skip ?_ | refine AW.ret ?_ | refine AW.exit ?_ | refine AW.region ?_ | refine AW.draw (by kernel_rfl) (by kernel_rfl) ?_ | ((with_reducible refine And.intro ?_ ?_); (focus ((repeat' (with_reducible apply And.intro)) <;> first | trivial | omega | rfl | (unfold inI; omega)))))
  refine CallE.flat (f18 K9 hK 9 (by unfold inI; omega)) rfl rfl (by rfl) ?_
  have b1 : bitS K9 9 = 1 := by decide +kernel
  repeat (first | simp only [go_sem, Nat.reduceLT, Nat.reduceEqDiff, reduceIte, Int.reduceEq, Int.reduceLE, Int.reduceLT, Nat.reduceMul, Nat.reduceAdd, Nat.reduceSub, Int.reduceNeg, Int.reduceAdd, Int.reduceMul, Int.reduceSub, Int.reduceToNat, Nat.reduceLeDiff, Nat.reduceDiv, Int.reduceDiv, reduceCtorEq, a12, b1, e258, hsp, bytesA_bys, bytesOk_bys, bytesA_nil, bytesA_cons, bytesOk_nil, bytesOk_cons, UInt8.reduceOfNat, and_true, eq_self] | refine AW.seq ?_ | refine AW.block ?_ | refine AW.scope ?_ | refine AW.cond_tt rfl ?_ | refine AW.cond_ff rfl ?_ | refine AW.label ?_ | refine AW.skip ?_ | refine AW.ret ?_ | refine AW.exit ?_ | refine AW.region ?_ | refine AW.draw (by kernel_rfl) (by kernel_rfl) ?_ | ((with_reducible refine And.intro ?_ ?_); (focus ((repeat' (with_reducible apply And.intro)) <;> first | trivial | omega | rfl | (unfold inI; omega)))))
  refine CallE.flat (f18 K9 hK 8 (by unfold inI; omega)) rfl rfl (by rfl) ?_
  have b2 : bitS K9 8 = 0 := by decide +kernel
  repeat (first | simp only [go_sem, Nat.reduceLT, Nat.reduceEqDiff, reduceIte, Int.reduceEq, Int.reduceLE, Int.reduceLT, Nat.reduceMul, Nat.reduceAdd, Nat.reduceSub, Int.reduceNeg, Int.reduceAdd, Int.reduceMul, Int.reduceSub, Int.reduceToNat, Nat.reduceLeDiff, Nat.reduceDiv, Int.reduceDiv, reduceCtorEq, a12, b2, e258, hsp, bytesA_bys, bytesOk_bys, bytesA_nil, bytesA_cons, bytesOk_nil, bytesOk_cons, UInt8.reduceOfNat, and_true, eq_self] | refine AW.seq ?_ | refine AW.block ?_ | refine AW.scope ?_ | refine AW.cond_tt rfl ?_ | refine AW.cond_ff rfl ?_ | refine AW.label ?_ | refine AW.skip ?_ | refine AW.ret ?_ | refine AW.exit ?_ | refine AW.region ?_ | refine AW.draw (by kernel_rfl) (by kernel_rfl) ?_ | ((with_reducible refine And.intro ?_ ?_); (focus ((repeat' (with_reducible apply And.intro)) <;> first | trivial | omega | rfl | (unfold inI; omega)))))
  refine CallE.flat (f22 K9 (List.replicate 32 0) hK (by decide)) rfl rfl (by rfl) ?_
  have b3 : Lib.compareBytes K9 (List.replicate 32 0) = 1 := by decide +kernel
  repeat (first | simp only [go_sem, Nat.reduceLT, Nat.reduceEqDiff, reduceIte, Int.reduceEq, Int.reduceLE, Int.reduceLT, Nat.reduceMul, Nat.reduceAdd, Nat.reduceSub, Int.reduceNeg, Int.reduceAdd, Int.reduceMul, Int.reduceSub, Int.reduceToNat, Nat.reduceLeDiff, Nat.reduceDiv, Int.reduceDiv, reduceCtorEq, a12, b3, e258, hsp, bytesA_bys, bytesOk_bys, bytesA_nil, bytesA_cons, bytesOk_nil, bytesOk_cons, UInt8.reduceOfNat, and_true, eq_self] | refine AW.seq ?_ | refine AW.block ?_ | refine AW.scope ?_ | refine AW.cond_tt rfl ?_ | refine AW.cond_ff rfl ?_ | refine AW.label ?_ | refine AW.skip ?_ | refine AW.ret ?_ | refine AW.exit ?_ | refine AW.region ?_ | refine AW.draw (by kernel_rfl) (by kernel_rfl) ?_ | ((with_reducible refine And.intro ?_ ?_); (focus ((repeat' (with_reducible apply And.intro)) <;> first | trivial | omega | rfl | (unfold inI; omega)))))
  exact Wk.refl _
end Go.Proofs.Ytapjkdmdckfjbaa

namespace Go.Proofs.Ytapjkdmdckfjbaa
open Go Go.Eng Go.Proofs
set_option maxRecDepth 100000
set_option linter.unusedSimpArgs false
set_option linter.unusedVariables false
theorem shr8_toNat (x : UInt8) (n : Nat) : (shr8 x n).toNat = x.toNat / 2 ^ n := by
  show (x.toBitVec >>> n).toNat = _
  rw [BitVec.toNat_ushiftRight, Nat.shiftRight_eq_div_pow]; rfl
theorem and1 : ∀ n : Nat, n < 256 → bits .and .i64 (n : Int) 1 = ((n % 2 : Nat) : Int) := by
  decide +kernel
def bitN (k : List UInt8) (i : Nat) : Nat := (k.getD (i / 8) 0).toNat / 2 ^ (7 - i % 8) % 2
theorem bitS_nat (k : List UInt8) (i : Nat) (h : i < 256) : bitS k i = (bitN k i : Nat) := by
  have e1 : ((i : Int) / 8).toNat = i / 8 := by omega
  have e2 : (7 - (i : Int) % 8).toNat = 7 - i % 8 := by omega
  rw [bitS, if_neg (by omega), e1, e2, and1 _ (UInt8.toNat_lt _), shr8_toNat]
  rfl
theorem bitS_out (k : List UInt8) (i : Int) (h : i < 0 ∨ 255 < i) : bitS k i = 0 := if_pos h
theorem bit2S_eq (k : List UInt8) (i : Int) : bit2S k i = bitS k i := by
  by_cases h : i < 0 ∨ 255 < i
  · rw [bit2S, if_pos h, bitS_out k i h]
  · obtain ⟨n, rfl⟩ := Int.eq_ofNat_of_zero_le (show 0 ≤ i by omega)
    rw [bitS_nat k n (by omega), bit2S, if_neg h]
    have e1 : ((n : Int) / 8).toNat = n / 8 := by omega
    have e2 : (7 - (n : Int) % 8).toNat = 7 - n % 8 := by omega
    have e3 : min (7 - n % 8) 64 = 7 - n % 8 := by omega
    have e4 : (2 ^ (7 - n % 8) : Int) = ((2 ^ (7 - n % 8) : Nat) : Int) := by push_cast; rfl
    rw [e1, e2, e3, e4, Int.fdiv_eq_ediv_of_nonneg _ (Int.natCast_nonneg _), Int.tmod_eq_emod_of_nonneg (Int.ediv_nonneg (Int.natCast_nonneg _) (Int.natCast_nonneg _))]
    unfold bitN
    push_cast
    rfl
theorem turn2S_eq (k : List UInt8) (i : Int) : turn2S k i = turnS k i := by
  by_cases h : i < 0 ∨ 255 < i
  · rw [turn2S, if_pos h, turnS, if_neg (by omega)]
  · rw [turn2S, if_neg h, turnS, if_pos (by omega)]
    have : ∀ n : Nat, n < 8 → shl8 (UInt8.ofNat 1) (7 - n) = shr8 (UInt8.ofNat 128) n := by decide +kernel
    have e := this (i % 8).toNat (by omega)
    have e2 : (7 - i % 8).toNat = 7 - (i % 8).toNat := by omega
    rw [e2, e]
theorem f4 (a b : List UInt8) (ha : a.length = 32) (hb : b.length = 32) (i : Int) (hi : inI i) : AFun Try.prog 4 [.agg (a.map u8), .agg (b.map u8), int i] (boo true) := by
  refine AFun.enterW Try.func4 rfl Try.call4 (by simp [Try.ntmps4]) fun γ1 => ?_
  simp only [frameOf, Try.ntmps4]
  repeat (first | simp only [go_sem, Nat.reduceLT, Nat.reduceEqDiff, reduceIte, Int.reduceEq, Int.reduceLE, Int.reduceLT, Nat.reduceMul, Nat.reduceAdd, Nat.reduceSub, Int.reduceNeg, Int.reduceAdd, Int.reduceMul, Int.reduceSub, Int.reduceToNat, Nat.reduceLeDiff, Nat.reduceDiv, Int.reduceDiv, reduceCtorEq] | refine AW.seq ?_ | refine AW.block ?_ | refine AW.scope ?_ | refine AW.cond_tt rfl ?_ | refine AW.cond_ff rfl ?_ | refine AW.label ?_ | refine AW.skip ?_ | refine AW.ret ?_ | refine AW.exit ?_ | refine AW.region ?_ | refine AW.draw (by kernel_rfl) (by kernel_rfl) ?_ | ((with_reducible refine And.intro ?_ ?_); (focus ((repeat' (with_reducible apply And.intro)) <;> first | trivial | omega | rfl | (unfold inI; omega)))))
  refine CallE.flat f8 rfl rfl (by rfl) ?_
  repeat (first | simp only [go_sem, Nat.reduceLT, Nat.reduceEqDiff, reduceIte, Int.reduceEq, Int.reduceLE, Int.reduceLT, Nat.reduceMul, Nat.reduceAdd, Nat.reduceSub, Int.reduceNeg, Int.reduceAdd, Int.reduceMul, Int.reduceSub, Int.reduceToNat, Nat.reduceLeDiff, Nat.reduceDiv, Int.reduceDiv, reduceCtorEq, List.length_map, List.length_set, List.length_replicate, List.length_drop, List.length_take, List.length_append, List.drop_zero, List.take_of_length_le, Nat.le_refl, Nat.sub_zero, splice_all, row_u8, splice_u8, wrap_u64c, ha, hb] | refine AW.seq ?_ | refine AW.block ?_ | refine AW.scope ?_ | refine AW.cond_tt rfl ?_ | refine AW.cond_ff rfl ?_ | refine AW.label ?_ | refine AW.skip ?_ | refine AW.ret ?_ | refine AW.exit ?_ | refine AW.region ?_ | refine AW.draw (by kernel_rfl) (by kernel_rfl) ?_ | ((with_reducible refine And.intro ?_ ?_); (focus ((repeat' (with_reducible apply And.intro)) <;> first | trivial | omega | rfl | (unfold inI; omega)))))
  refine CallXE.flat (f18 a ha i hi) (by simp only [List.map_cons, List.map_nil, frz_sl, frz_agg8, frz_vv]) rfl (by rfl) ?_
  repeat (first | simp only [go_sem, Nat.reduceLT, Nat.reduceEqDiff, reduceIte, Int.reduceEq, Int.reduceLE, Int.reduceLT, Nat.reduceMul, Nat.reduceAdd, Nat.reduceSub, Int.reduceNeg, Int.reduceAdd, Int.reduceMul, Int.reduceSub, Int.reduceToNat, Nat.reduceLeDiff, Nat.reduceDiv, Int.reduceDiv, reduceCtorEq, List.length_map, List.length_set, List.length_replicate, List.length_drop, List.length_take, List.length_append, List.drop_zero, List.take_of_length_le, Nat.le_refl, Nat.sub_zero, splice_all, row_u8, splice_u8, wrap_u64c, ha, hb] | refine AW.seq ?_ | refine AW.block ?_ | refine AW.scope ?_ | refine AW.cond_tt rfl ?_ | refine AW.cond_ff rfl ?_ | refine AW.label ?_ | refine AW.skip ?_ | refine AW.ret ?_ | refine AW.exit ?_ | refine AW.region ?_ | refine AW.draw (by kernel_rfl) (by kernel_rfl) ?_ | ((with_reducible refine And.intro ?_ ?_); (focus ((repeat' (with_reducible apply And.intro)) <;> first | trivial | omega | rfl | (unfold inI; omega)))))
  refine CallXE.flat (f19 a ha i hi) (by simp only [List.map_cons, List.map_nil, frz_sl, frz_agg8, frz_vv]) rfl (by rfl) ?_
  repeat (first | simp only [go_sem, Nat.reduceLT, Nat.reduceEqDiff, reduceIte, Int.reduceEq, Int.reduceLE, Int.reduceLT, Nat.reduceMul, Nat.reduceAdd, Nat.reduceSub, Int.reduceNeg, Int.reduceAdd, Int.reduceMul, Int.reduceSub, Int.reduceToNat, Nat.reduceLeDiff, Nat.reduceDiv, Int.reduceDiv, reduceCtorEq, List.length_map, List.length_set, List.length_replicate, List.length_drop, List.length_take, List.length_append, List.drop_zero, List.take_of_length_le, Nat.le_refl, Nat.sub_zero, splice_all, row_u8, splice_u8, wrap_u64c, ha, hb, bit2S_eq, eq_self] | refine AW.seq ?_ | refine AW.block ?_ | refine AW.scope ?_ | refine AW.cond_tt rfl ?_ | refine AW.cond_ff rfl ?_ | refine AW.label ?_ | refine AW.skip ?_ | refine AW.ret ?_ | refine AW.exit ?_ | refine AW.region ?_ | refine AW.draw (by kernel_rfl) (by kernel_rfl) ?_ | ((with_reducible refine And.intro ?_ ?_); (focus ((repeat' (with_reducible apply And.intro)) <;> first | trivial | omega | rfl | (unfold inI; omega)))))
  refine CallXE.flat (f20 a ha i hi) (by simp only [List.map_cons, List.map_nil, frz_sl, frz_agg8, frz_vv]) (flat_agg8 _) (by rfl) ?_
  repeat (first | simp only [go_sem, Nat.reduceLT, Nat.reduceEqDiff, reduceIte, Int.reduceEq, Int.reduceLE, Int.reduceLT, Nat.reduceMul, Nat.reduceAdd, Nat.reduceSub, Int.reduceNeg, Int.reduceAdd, Int.reduceMul, Int.reduceSub, Int.reduceToNat, Nat.reduceLeDiff, Nat.reduceDiv, Int.reduceDiv, reduceCtorEq, List.length_map, List.length_set, List.length_replicate, List.length_drop, List.length_take, List.length_append, List.drop_zero, List.take_of_length_le, Nat.le_refl, Nat.sub_zero, splice_all, row_u8, splice_u8, wrap_u64c, ha, hb] | refine AW.seq ?_ | refine AW.block ?_ | refine AW.scope ?_ | refine AW.cond_tt rfl ?_ | refine AW.cond_ff rfl ?_ | refine AW.label ?_ | refine AW.skip ?_ | refine AW.ret ?_ | refine AW.exit ?_ | refine AW.region ?_ | refine AW.draw (by kernel_rfl) (by kernel_rfl) ?_ | ((with_reducible refine And.intro ?_ ?_); (focus ((repeat' (with_reducible apply And.intro)) <;> first | trivial | omega | rfl | (unfold inI; omega)))))
  refine CallXE.flat (f21 a ha i hi) (by simp only [List.map_cons, List.map_nil, frz_sl, frz_agg8, frz_vv]) (flat_agg8 _) (by rfl) ?_
  repeat (first | simp only [go_sem, Nat.reduceLT, Nat.reduceEqDiff, reduceIte, Int.reduceEq, Int.reduceLE, Int.reduceLT, Nat.reduceMul, Nat.reduceAdd, Nat.reduceSub, Int.reduceNeg, Int.reduceAdd, Int.reduceMul, Int.reduceSub, Int.reduceToNat, Nat.reduceLeDiff, Nat.reduceDiv, Int.reduceDiv, reduceCtorEq, List.length_map, List.length_set, List.length_replicate, List.length_drop, List.length_take, List.length_append, List.drop_zero, List.take_of_length_le, Nat.le_refl, Nat.sub_zero, splice_all, row_u8, splice_u8, wrap_u64c, ha, hb, turn2S_eq, eq_self, turnS_length] | refine AW.seq ?_ | refine AW.block ?_ | refine AW.scope ?_ | refine AW.cond_tt rfl ?_ | refine AW.cond_ff rfl ?_ | refine AW.label ?_ | refine AW.skip ?_ | refine AW.ret ?_ | refine AW.exit ?_ | refine AW.region ?_ | refine AW.draw (by kernel_rfl) (by kernel_rfl) ?_ | ((with_reducible refine And.intro ?_ ?_); (focus ((repeat' (with_reducible apply And.intro)) <;> first | trivial | omega | rfl | (unfold inI; omega)))))
  refine CallXE.flat (f22 a b ha hb) (by simp only [List.map_cons, List.map_nil, frz_sl, frz_agg8, frz_vv]) rfl (by rfl) ?_
  repeat (first | simp only [go_sem, Nat.reduceLT, Nat.reduceEqDiff, reduceIte, Int.reduceEq, Int.reduceLE, Int.reduceLT, Nat.reduceMul, Nat.reduceAdd, Nat.reduceSub, Int.reduceNeg, Int.reduceAdd, Int.reduceMul, Int.reduceSub, Int.reduceToNat, Nat.reduceLeDiff, Nat.reduceDiv, Int.reduceDiv, reduceCtorEq, List.length_map, List.length_set, List.length_replicate, List.length_drop, List.length_take, List.length_append, List.drop_zero, List.take_of_length_le, Nat.le_refl, Nat.sub_zero, splice_all, row_u8, splice_u8, wrap_u64c, ha, hb] | refine AW.seq ?_ | refine AW.block ?_ | refine AW.scope ?_ | refine AW.cond_tt rfl ?_ | refine AW.cond_ff rfl ?_ | refine AW.label ?_ | refine AW.skip ?_ | refine AW.ret ?_ | refine AW.exit ?_ | refine AW.region ?_ | refine AW.draw (by kernel_rfl) (by kernel_rfl) ?_ | ((with_reducible refine And.intro ?_ ?_); (focus ((repeat' (with_reducible apply And.intro)) <;> first | trivial | omega | rfl | (unfold inI; omega)))))
  refine CallXE.flat (f23 a b ha hb) (by simp only [List.map_cons, List.map_nil, frz_sl, frz_agg8, frz_vv]) rfl (by rfl) ?_
  repeat (first | simp only [go_sem, Nat.reduceLT, Nat.reduceEqDiff, reduceIte, Int.reduceEq, Int.reduceLE, Int.reduceLT, Nat.reduceMul, Nat.reduceAdd, Nat.reduceSub, Int.reduceNeg, Int.reduceAdd, Int.reduceMul, Int.reduceSub, Int.reduceToNat, Nat.reduceLeDiff, Nat.reduceDiv, Int.reduceDiv, reduceCtorEq, List.length_map, List.length_set, List.length_replicate, List.length_drop, List.length_take, List.length_append, List.drop_zero, List.take_of_length_le, Nat.le_refl, Nat.sub_zero, splice_all, row_u8, splice_u8, wrap_u64c, ha, hb, eq_self] | refine AW.seq ?_ | refine AW.block ?_ | refine AW.scope ?_ | refine AW.cond_tt rfl ?_ | refine AW.cond_ff rfl ?_ | refine AW.label ?_ | refine AW.skip ?_ | refine AW.ret ?_ | refine AW.exit ?_ | refine AW.region ?_ | refine AW.draw (by kernel_rfl) (by kernel_rfl) ?_ | ((with_reducible refine And.intro ?_ ?_); (focus ((repeat' (with_reducible apply And.intro)) <;> first | trivial | omega | rfl | (unfold inI; omega)))))
  exact Wk.refl _
end Go.Proofs.Ytapjkdmdckfjbaa
