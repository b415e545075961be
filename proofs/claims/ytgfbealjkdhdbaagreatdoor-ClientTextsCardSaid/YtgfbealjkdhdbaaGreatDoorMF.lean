/- Merged by program from smaller texts; what is proved stands in the last text of the claim. -/
import Derived.Test.YtgfbealjkdhdbaaGreatDoorME
import Derived.Test.YtgfbealjkdhdbaaGreatDoorMD
set_option linter.all false
/-
  parse: a statement.
-/
set_option maxRecDepth 100000
namespace Go.Proofs.YtgfbealjkdhdbaaGreatDoor
open Go Go.Av
def txG : List (List UInt8) → Nat → List Tok → Option (Stm × List Tok)
  | [], _, _ => none
  | w :: r, j, l => match (if 0 < j then isF [w] l else none) with
    | some l1 => some (.tx j, l1)
    | none => txG r (j + 1) l
def words4 : List (List UInt8) := [[], w_begin, w_commit, w_rollback]
def plain {α : Type} (p : Stm × α) : (Stm × List Int) × α := ((p.1, []), p.2)
def stm7 (l : List Tok) : Option ((Stm × List Int) × List Tok) := (txG words4 0 l).map plain
def stm6 (l : List Tok) : Option ((Stm × List Int) × List Tok) :=
  match isF [w_select] l with
  | some l1 => (selF l1).map fun p => ((.sel p.1.1, p.1.2), p.2)
  | none => stm7 l
def stm5 (l : List Tok) : Option ((Stm × List Int) × List Tok) :=
  match isF [w_update] l with
  | some l1 => (updateF l1).map plain
  | none => stm6 l
def stm4 (l : List Tok) : Option ((Stm × List Int) × List Tok) :=
  match isF [w_delete, w_from] l with
  | some l1 => (nameF l1).bind fun p => (whereF p.2).map fun q => ((.delete p.1 q.1, []), q.2)
  | none => stm5 l
def stm3 (l : List Tok) : Option ((Stm × List Int) × List Tok) :=
  match isF [w_insert, w_into] l with
  | some l1 => (insertionF l1).map plain
  | none => stm4 l
def stm2 (l : List Tok) : Option ((Stm × List Int) × List Tok) :=
  match isF [w_drop, w_table] l with
  | some l1 => (nameF l1).map fun p => ((.drop p.1, []), p.2)
  | none => stm3 l
def stmF (l : List Tok) : Option ((Stm × List Int) × List Tok) :=
  match isF [w_create, w_table] l with
  | some l1 => (creationF l1).map plain
  | none => stm2 l
theorem rep4 {x : AV} : List.replicate 4 x = [x, x, x, x] := rfl
theorem words_agg : (AV.agg [.v (.string ⟨#[]⟩), .v (.string ⟨#[98, 101, 103, 105, 110]⟩), .v (.string ⟨#[99, 111, 109, 109, 105, 116]⟩), .v (.string ⟨#[114, 111, 108, 108, 98, 97, 99, 107]⟩)]) = .agg (words4.map strV) := rfl
theorem statement_spec (lt ll : Nat) (l : List Tok) (xs0 : List Int) (s0 s : Hp) (hl : l.length ≤ 100000) (hx0 : xs0 = []) (h : TK lt l s0 s) (hL : LK ll xs0 s0 s) (dl : ll ≠ lt) :
    ACp Tryz.prog 31 [.ptr lt 0, .ptr ll 0] s (fun r s' => ∃ x ys l', stmF l = some ((x, ys), l') ∧ stmR x r ∧ TK lt l' s0 s' ∧ LK ll ys s0 s') (up (fun r s' => stmF l = none ∧ Stop s0 2 r s')) := by
  refine ACp_run hm prep31 (by simp) ?_
  simp (dsimp := false) (implicitDefEqProofs := false) (disch := first | omega | assumption | (simp only [rL, Nat.reduceAdd]; try omega)) only [↓rA, rZ, List.drop_succ_cons, ne_eq, not_true_eq_false, not_false_eq_true, List.getElem?_cons_zero, List.getElem?_cons_succ, ev, ofConst, ofCell, ↓reduceIte, Nat.reduceEqDiff, Nat.reduceAdd, Nat.reduceSub, Nat.reduceMul, Nat.reduceLeDiff, Nat.reduceLT, Int.reduceNeg, Int.reduceToNat, Int.reduceAdd, Int.reduceSub, Int.reduceMul, Int.reduceLT, Int.reduceLE, Int.reduceEq, Int.reduceNe]
  refine bsl_own (s0 := _) Hp.sub_refl (allLen_strs (ws := [w_create, w_table])) fun o1 s1 h1 => ?_
  simp (dsimp := false) (implicitDefEqProofs := false) (disch := first | omega | assumption | (simp only [rL, Nat.reduceAdd]; try omega)) only [↓rA, rZ, List.drop_succ_cons, ne_eq, not_true_eq_false, not_false_eq_true, List.getElem?_cons_zero, List.getElem?_cons_succ, ev, ofConst, ofCell, ↓reduceIte, Nat.reduceEqDiff, Nat.reduceAdd, Nat.reduceSub, Nat.reduceMul, Nat.reduceLeDiff, Nat.reduceLT, Int.reduceNeg, Int.reduceToNat, Int.reduceAdd, Int.reduceSub, Int.reduceMul, Int.reduceLT, Int.reduceLE, Int.reduceEq, Int.reduceNe]
  have t1 := h.mono h1.sub
  have L1 := hL.mono h1.sub
  refine call_intro (is_spec lt [w_create, w_table] o1 l _ s1 t1.all (by simp)) ?_
  rintro _ s2 ⟨rfl, h2⟩
  have t2 := t1.back h2
  have L2 := L1.step t1 dl h2
  cases e1 : isF [w_create, w_table] l with
  | some m1 =>
    rw [e1] at t2
    simp only [Option.getD_some] at t2
    have q1 := isF_le e1
    have hF : stmF l = (creationF m1).map plain := by simp [stmF,  e1]
    rw [hF]
    simp (dsimp := false) (implicitDefEqProofs := false) (disch := first | omega | assumption | (simp only [rL, Nat.reduceAdd]; try omega)) only [↓rA, rZ, List.drop_succ_cons, ne_eq, not_true_eq_false, not_false_eq_true, List.getElem?_cons_zero, List.getElem?_cons_succ, ev, ofConst, ofCell, ↓reduceIte, Nat.reduceEqDiff, Nat.reduceAdd, Nat.reduceSub, Nat.reduceMul, Nat.reduceLeDiff, Nat.reduceLT, Int.reduceNeg, Int.reduceToNat, Int.reduceAdd, Int.reduceSub, Int.reduceMul, Int.reduceLT, Int.reduceLE, Int.reduceEq, Int.reduceNe, Option.isSome_some]
    refine callp_intro (creation_spec lt m1 _ s2 (by omega) t2.all) ?_ ?_
    · rintro _ sR ⟨x, lR, eR, hR, kR⟩
      simp (dsimp := false) (implicitDefEqProofs := false) (disch := first | omega | assumption | (simp only [rL, Nat.reduceAdd]; try omega)) only [↓rA, rZ, List.drop_succ_cons, ne_eq, not_true_eq_false, not_false_eq_true, List.getElem?_cons_zero, List.getElem?_cons_succ, ev, ofConst, ofCell, ↓reduceIte, Nat.reduceEqDiff, Nat.reduceAdd, Nat.reduceSub, Nat.reduceMul, Nat.reduceLeDiff, Nat.reduceLT, Int.reduceNeg, Int.reduceToNat, Int.reduceAdd, Int.reduceSub, Int.reduceMul, Int.reduceLT, Int.reduceLE, Int.reduceEq, Int.reduceNe]
      exact ⟨_, Hp.sub_refl, x, [], lR, by simp [eR, plain], hR, t2.back kR, by rw [← hx0]; exact L2.step t2 dl kR⟩
    · rintro r sR ⟨eR, kR⟩
      exact ⟨by simp [eR], t2.stop kR⟩
  | none =>
  rw [e1] at t2
  simp only [Option.getD_none] at t2
  simp (dsimp := false) (implicitDefEqProofs := false) (disch := first | omega | assumption | (simp only [rL, Nat.reduceAdd]; try omega)) only [↓rA, rZ, List.drop_succ_cons, ne_eq, not_true_eq_false, not_false_eq_true, List.getElem?_cons_zero, List.getElem?_cons_succ, ev, ofConst, ofCell, ↓reduceIte, Nat.reduceEqDiff, Nat.reduceAdd, Nat.reduceSub, Nat.reduceMul, Nat.reduceLeDiff, Nat.reduceLT, Int.reduceNeg, Int.reduceToNat, Int.reduceAdd, Int.reduceSub, Int.reduceMul, Int.reduceLT, Int.reduceLE, Int.reduceEq, Int.reduceNe, Option.isSome_none]
  refine bsl_own (s0 := _) Hp.sub_refl (allLen_strs (ws := [w_drop, w_table])) fun o3 s3 h3 => ?_
  simp (dsimp := false) (implicitDefEqProofs := false) (disch := first | omega | assumption | (simp only [rL, Nat.reduceAdd]; try omega)) only [↓rA, rZ, List.drop_succ_cons, ne_eq, not_true_eq_false, not_false_eq_true, List.getElem?_cons_zero, List.getElem?_cons_succ, ev, ofConst, ofCell, ↓reduceIte, Nat.reduceEqDiff, Nat.reduceAdd, Nat.reduceSub, Nat.reduceMul, Nat.reduceLeDiff, Nat.reduceLT, Int.reduceNeg, Int.reduceToNat, Int.reduceAdd, Int.reduceSub, Int.reduceMul, Int.reduceLT, Int.reduceLE, Int.reduceEq, Int.reduceNe]
  have t3 := t2.mono h3.sub
  have L3 := L2.mono h3.sub
  refine call_intro (is_spec lt [w_drop, w_table] o3 l _ s3 t3.all (by simp)) ?_
  rintro _ s4 ⟨rfl, h4⟩
  have t4 := t3.back h4
  have L4 := L3.step t3 dl h4
  cases e3 : isF [w_drop, w_table] l with
  | some m3 =>
    rw [e3] at t4
    simp only [Option.getD_some] at t4
    have q3 := isF_le e3
    have hF : stmF l = (nameF m3).map fun p => ((.drop p.1, []), p.2) := by simp [stmF, e1, stm2, e3]
    rw [hF]
    simp (dsimp := false) (implicitDefEqProofs := false) (disch := first | omega | assumption | (simp only [rL, Nat.reduceAdd]; try omega)) only [↓rA, rZ, List.drop_succ_cons, ne_eq, not_true_eq_false, not_false_eq_true, List.getElem?_cons_zero, List.getElem?_cons_succ, ev, ofConst, ofCell, ↓reduceIte, Nat.reduceEqDiff, Nat.reduceAdd, Nat.reduceSub, Nat.reduceMul, Nat.reduceLeDiff, Nat.reduceLT, Int.reduceNeg, Int.reduceToNat, Int.reduceAdd, Int.reduceSub, Int.reduceMul, Int.reduceLT, Int.reduceLE, Int.reduceEq, Int.reduceNe, Option.isSome_some]
    refine callp_intro (name_spec lt m3 _ s4 t4.all) ?_ ?_
    · rintro _ sR ⟨c, lR, eR, rfl, kR⟩
      simp (dsimp := false) (implicitDefEqProofs := false) (disch := first | omega | assumption | (simp only [rL, Nat.reduceAdd]; try omega)) only [↓rA, rZ, List.drop_succ_cons, ne_eq, not_true_eq_false, not_false_eq_true, List.getElem?_cons_zero, List.getElem?_cons_succ, ev, ofConst, ofCell, ↓reduceIte, Nat.reduceEqDiff, Nat.reduceAdd, Nat.reduceSub, Nat.reduceMul, Nat.reduceLeDiff, Nat.reduceLT, Int.reduceNeg, Int.reduceToNat, Int.reduceAdd, Int.reduceSub, Int.reduceMul, Int.reduceLT, Int.reduceLE, Int.reduceEq, Int.reduceNe, strV, putAt_z1]
      exact ⟨_, Hp.sub_refl, .drop c, [], lR, by simp [eR], rfl, t4.back kR, by rw [← hx0]; exact L4.step t4 dl kR⟩
    · rintro r sR ⟨eR, kR⟩
      exact ⟨by simp [eR], t4.stop kR⟩
  | none =>
  rw [e3] at t4
  simp only [Option.getD_none] at t4
  simp (dsimp := false) (implicitDefEqProofs := false) (disch := first | omega | assumption | (simp only [rL, Nat.reduceAdd]; try omega)) only [↓rA, rZ, List.drop_succ_cons, ne_eq, not_true_eq_false, not_false_eq_true, List.getElem?_cons_zero, List.getElem?_cons_succ, ev, ofConst, ofCell, ↓reduceIte, Nat.reduceEqDiff, Nat.reduceAdd, Nat.reduceSub, Nat.reduceMul, Nat.reduceLeDiff, Nat.reduceLT, Int.reduceNeg, Int.reduceToNat, Int.reduceAdd, Int.reduceSub, Int.reduceMul, Int.reduceLT, Int.reduceLE, Int.reduceEq, Int.reduceNe, Option.isSome_none]
  refine bsl_own (s0 := _) Hp.sub_refl (allLen_strs (ws := [w_insert, w_into])) fun o5 s5 h5 => ?_
  simp (dsimp := false) (implicitDefEqProofs := false) (disch := first | omega | assumption | (simp only [rL, Nat.reduceAdd]; try omega)) only [↓rA, rZ, List.drop_succ_cons, ne_eq, not_true_eq_false, not_false_eq_true, List.getElem?_cons_zero, List.getElem?_cons_succ, ev, ofConst, ofCell, ↓reduceIte, Nat.reduceEqDiff, Nat.reduceAdd, Nat.reduceSub, Nat.reduceMul, Nat.reduceLeDiff, Nat.reduceLT, Int.reduceNeg, Int.reduceToNat, Int.reduceAdd, Int.reduceSub, Int.reduceMul, Int.reduceLT, Int.reduceLE, Int.reduceEq, Int.reduceNe]
  have t5 := t4.mono h5.sub
  have L5 := L4.mono h5.sub
  refine call_intro (is_spec lt [w_insert, w_into] o5 l _ s5 t5.all (by simp)) ?_
  rintro _ s6 ⟨rfl, h6⟩
  have t6 := t5.back h6
  have L6 := L5.step t5 dl h6
  cases e5 : isF [w_insert, w_into] l with
  | some m5 =>
    rw [e5] at t6
    simp only [Option.getD_some] at t6
    have q5 := isF_le e5
    have hF : stmF l = (insertionF m5).map plain := by simp [stmF, e1, stm2, e3, stm3, e5]
    rw [hF]
    simp (dsimp := false) (implicitDefEqProofs := false) (disch := first | omega | assumption | (simp only [rL, Nat.reduceAdd]; try omega)) only [↓rA, rZ, List.drop_succ_cons, ne_eq, not_true_eq_false, not_false_eq_true, List.getElem?_cons_zero, List.getElem?_cons_succ, ev, ofConst, ofCell, ↓reduceIte, Nat.reduceEqDiff, Nat.reduceAdd, Nat.reduceSub, Nat.reduceMul, Nat.reduceLeDiff, Nat.reduceLT, Int.reduceNeg, Int.reduceToNat, Int.reduceAdd, Int.reduceSub, Int.reduceMul, Int.reduceLT, Int.reduceLE, Int.reduceEq, Int.reduceNe, Option.isSome_some]
    refine callp_intro (insertion_spec lt m5 _ s6 (by omega) t6.all) ?_ ?_
    · rintro _ sR ⟨x, lR, eR, hR, kR⟩
      simp (dsimp := false) (implicitDefEqProofs := false) (disch := first | omega | assumption | (simp only [rL, Nat.reduceAdd]; try omega)) only [↓rA, rZ, List.drop_succ_cons, ne_eq, not_true_eq_false, not_false_eq_true, List.getElem?_cons_zero, List.getElem?_cons_succ, ev, ofConst, ofCell, ↓reduceIte, Nat.reduceEqDiff, Nat.reduceAdd, Nat.reduceSub, Nat.reduceMul, Nat.reduceLeDiff, Nat.reduceLT, Int.reduceNeg, Int.reduceToNat, Int.reduceAdd, Int.reduceSub, Int.reduceMul, Int.reduceLT, Int.reduceLE, Int.reduceEq, Int.reduceNe]
      exact ⟨_, Hp.sub_refl, x, [], lR, by simp [eR, plain], hR, t6.back kR, by rw [← hx0]; exact L6.step t6 dl kR⟩
    · rintro r sR ⟨eR, kR⟩
      exact ⟨by simp [eR], t6.stop kR⟩
  | none =>
  rw [e5] at t6
  simp only [Option.getD_none] at t6
  simp (dsimp := false) (implicitDefEqProofs := false) (disch := first | omega | assumption | (simp only [rL, Nat.reduceAdd]; try omega)) only [↓rA, rZ, List.drop_succ_cons, ne_eq, not_true_eq_false, not_false_eq_true, List.getElem?_cons_zero, List.getElem?_cons_succ, ev, ofConst, ofCell, ↓reduceIte, Nat.reduceEqDiff, Nat.reduceAdd, Nat.reduceSub, Nat.reduceMul, Nat.reduceLeDiff, Nat.reduceLT, Int.reduceNeg, Int.reduceToNat, Int.reduceAdd, Int.reduceSub, Int.reduceMul, Int.reduceLT, Int.reduceLE, Int.reduceEq, Int.reduceNe, Option.isSome_none]
  refine bsl_own (s0 := _) Hp.sub_refl (allLen_strs (ws := [w_delete, w_from])) fun o7 s7 h7 => ?_
  simp (dsimp := false) (implicitDefEqProofs := false) (disch := first | omega | assumption | (simp only [rL, Nat.reduceAdd]; try omega)) only [↓rA, rZ, List.drop_succ_cons, ne_eq, not_true_eq_false, not_false_eq_true, List.getElem?_cons_zero, List.getElem?_cons_succ, ev, ofConst, ofCell, ↓reduceIte, Nat.reduceEqDiff, Nat.reduceAdd, Nat.reduceSub, Nat.reduceMul, Nat.reduceLeDiff, Nat.reduceLT, Int.reduceNeg, Int.reduceToNat, Int.reduceAdd, Int.reduceSub, Int.reduceMul, Int.reduceLT, Int.reduceLE, Int.reduceEq, Int.reduceNe]
  have t7 := t6.mono h7.sub
  have L7 := L6.mono h7.sub
  refine call_intro (is_spec lt [w_delete, w_from] o7 l _ s7 t7.all (by simp)) ?_
  rintro _ s8 ⟨rfl, h8⟩
  have t8 := t7.back h8
  have L8 := L7.step t7 dl h8
  cases e7 : isF [w_delete, w_from] l with
  | some m7 =>
    rw [e7] at t8
    simp only [Option.getD_some] at t8
    have q7 := isF_le e7
    have hF : stmF l = (nameF m7).bind fun p => (whereF p.2).map fun q => ((.delete p.1 q.1, []), q.2) := by simp [stmF, e1, stm2, e3, stm3, e5, stm4, e7]
    rw [hF]
    simp (dsimp := false) (implicitDefEqProofs := false) (disch := first | omega | assumption | (simp only [rL, Nat.reduceAdd]; try omega)) only [↓rA, rZ, List.drop_succ_cons, ne_eq, not_true_eq_false, not_false_eq_true, List.getElem?_cons_zero, List.getElem?_cons_succ, ev, ofConst, ofCell, ↓reduceIte, Nat.reduceEqDiff, Nat.reduceAdd, Nat.reduceSub, Nat.reduceMul, Nat.reduceLeDiff, Nat.reduceLT, Int.reduceNeg, Int.reduceToNat, Int.reduceAdd, Int.reduceSub, Int.reduceMul, Int.reduceLT, Int.reduceLE, Int.reduceEq, Int.reduceNe, Option.isSome_some]
    refine callp_intro (name_spec lt m7 _ s8 t8.all) ?_ ?_
    · rintro _ sQ ⟨c, lQ, eQ, rfl, kQ⟩
      have qQ := nameF_less _ _ _ eQ
      have tQ := t8.back kQ
      have LQ := L8.step t8 dl kQ
      simp (dsimp := false) (implicitDefEqProofs := false) (disch := first | omega | assumption | (simp only [rL, Nat.reduceAdd]; try omega)) only [↓rA, rZ, List.drop_succ_cons, ne_eq, not_true_eq_false, not_false_eq_true, List.getElem?_cons_zero, List.getElem?_cons_succ, ev, ofConst, ofCell, ↓reduceIte, Nat.reduceEqDiff, Nat.reduceAdd, Nat.reduceSub, Nat.reduceMul, Nat.reduceLeDiff, Nat.reduceLT, Int.reduceNeg, Int.reduceToNat, Int.reduceAdd, Int.reduceSub, Int.reduceMul, Int.reduceLT, Int.reduceLE, Int.reduceEq, Int.reduceNe, strV, putAt_z1]
      refine newK_intro fun x5 n5 => ?_
      have d5 := tQ.ne n5
      have b5 := LQ.ne n5
      have n05 := Hp.sub_none tQ.1 n5
      simp (dsimp := false) (implicitDefEqProofs := false) (disch := first | omega | assumption | (simp only [rL, Nat.reduceAdd]; try omega)) only [↓rA, rZ, List.drop_succ_cons, ne_eq, not_true_eq_false, not_false_eq_true, List.getElem?_cons_zero, List.getElem?_cons_succ, ev, ofConst, ofCell, ↓reduceIte, Nat.reduceEqDiff, Nat.reduceAdd, Nat.reduceSub, Nat.reduceMul, Nat.reduceLeDiff, Nat.reduceLT, Int.reduceNeg, Int.reduceToNat, Int.reduceAdd, Int.reduceSub, Int.reduceMul, Int.reduceLT, Int.reduceLE, Int.reduceEq, Int.reduceNe, strV, putAt_z1]
      have tQ' := tQ.add n5 (ob := .cells [.v (.string ⟨c.toArray⟩), .sl [] .nil])
      have LQ' := LQ.add n5 (ob := .cells [.v (.string ⟨c.toArray⟩), .sl [] .nil])
      refine callp_intro (where_spec lt lQ _ _ (by omega) tQ'.all) ?_ ?_
      · rintro _ sR ⟨wh, lR, eR, ⟨aw, ow, hAw, rfl⟩, kR⟩
        have tR := tQ'.back kR
        have LR := LQ'.step tQ' dl kR
        have gR := kR.keep d5 (Hp.set_same _ _ _)
        simp (dsimp := false) (implicitDefEqProofs := false) (disch := first | omega | assumption | (simp only [rL, Nat.reduceAdd]; try omega)) only [↓rA, rZ, List.drop_succ_cons, ne_eq, not_true_eq_false, not_false_eq_true, List.getElem?_cons_zero, List.getElem?_cons_succ, ev, ofConst, ofCell, ↓reduceIte, Nat.reduceEqDiff, Nat.reduceAdd, Nat.reduceSub, Nat.reduceMul, Nat.reduceLeDiff, Nat.reduceLT, Int.reduceNeg, Int.reduceToNat, Int.reduceAdd, Int.reduceSub, Int.reduceMul, Int.reduceLT, Int.reduceLE, Int.reduceEq, Int.reduceNe, Hp.stA_of gR, putAt_z1, putAt_sc]
        exact ⟨_, Hp.sub_refl, .delete c wh, [], lR, by simp [eQ, eR], ⟨_, ⟨aw, ow, hAw, rfl⟩, rfl⟩, tR.write n05 d5, by rw [← hx0]; exact LR.write n05 gR (Ne.symm b5)⟩
      · rintro r sR ⟨eR, kR⟩
        exact ⟨by simp [eQ, eR], tQ'.stop kR⟩
    · rintro r sR ⟨eR, kR⟩
      exact ⟨by simp [eR], t8.stop kR⟩
  | none =>
  rw [e7] at t8
  simp only [Option.getD_none] at t8
  simp (dsimp := false) (implicitDefEqProofs := false) (disch := first | omega | assumption | (simp only [rL, Nat.reduceAdd]; try omega)) only [↓rA, rZ, List.drop_succ_cons, ne_eq, not_true_eq_false, not_false_eq_true, List.getElem?_cons_zero, List.getElem?_cons_succ, ev, ofConst, ofCell, ↓reduceIte, Nat.reduceEqDiff, Nat.reduceAdd, Nat.reduceSub, Nat.reduceMul, Nat.reduceLeDiff, Nat.reduceLT, Int.reduceNeg, Int.reduceToNat, Int.reduceAdd, Int.reduceSub, Int.reduceMul, Int.reduceLT, Int.reduceLE, Int.reduceEq, Int.reduceNe, Option.isSome_none]
  refine bsl_own (s0 := _) Hp.sub_refl (allLen_strs (ws := [w_update])) fun o9 s9 h9 => ?_
  simp (dsimp := false) (implicitDefEqProofs := false) (disch := first | omega | assumption | (simp only [rL, Nat.reduceAdd]; try omega)) only [↓rA, rZ, List.drop_succ_cons, ne_eq, not_true_eq_false, not_false_eq_true, List.getElem?_cons_zero, List.getElem?_cons_succ, ev, ofConst, ofCell, ↓reduceIte, Nat.reduceEqDiff, Nat.reduceAdd, Nat.reduceSub, Nat.reduceMul, Nat.reduceLeDiff, Nat.reduceLT, Int.reduceNeg, Int.reduceToNat, Int.reduceAdd, Int.reduceSub, Int.reduceMul, Int.reduceLT, Int.reduceLE, Int.reduceEq, Int.reduceNe]
  have t9 := t8.mono h9.sub
  have L9 := L8.mono h9.sub
  refine call_intro (is_spec lt [w_update] o9 l _ s9 t9.all (by simp)) ?_
  rintro _ s10 ⟨rfl, h10⟩
  have t10 := t9.back h10
  have L10 := L9.step t9 dl h10
  cases e9 : isF [w_update] l with
  | some m9 =>
    rw [e9] at t10
    simp only [Option.getD_some] at t10
    have q9 := isF_le e9
    have hF : stmF l = (updateF m9).map plain := by simp [stmF, e1, stm2, e3, stm3, e5, stm4, e7, stm5, e9]
    rw [hF]
    simp (dsimp := false) (implicitDefEqProofs := false) (disch := first | omega | assumption | (simp only [rL, Nat.reduceAdd]; try omega)) only [↓rA, rZ, List.drop_succ_cons, ne_eq, not_true_eq_false, not_false_eq_true, List.getElem?_cons_zero, List.getElem?_cons_succ, ev, ofConst, ofCell, ↓reduceIte, Nat.reduceEqDiff, Nat.reduceAdd, Nat.reduceSub, Nat.reduceMul, Nat.reduceLeDiff, Nat.reduceLT, Int.reduceNeg, Int.reduceToNat, Int.reduceAdd, Int.reduceSub, Int.reduceMul, Int.reduceLT, Int.reduceLE, Int.reduceEq, Int.reduceNe, Option.isSome_some]
    refine callp_intro (update_spec lt m9 _ s10 (by omega) t10.all) ?_ ?_
    · rintro _ sR ⟨x, lR, eR, hR, kR⟩
      simp (dsimp := false) (implicitDefEqProofs := false) (disch := first | omega | assumption | (simp only [rL, Nat.reduceAdd]; try omega)) only [↓rA, rZ, List.drop_succ_cons, ne_eq, not_true_eq_false, not_false_eq_true, List.getElem?_cons_zero, List.getElem?_cons_succ, ev, ofConst, ofCell, ↓reduceIte, Nat.reduceEqDiff, Nat.reduceAdd, Nat.reduceSub, Nat.reduceMul, Nat.reduceLeDiff, Nat.reduceLT, Int.reduceNeg, Int.reduceToNat, Int.reduceAdd, Int.reduceSub, Int.reduceMul, Int.reduceLT, Int.reduceLE, Int.reduceEq, Int.reduceNe]
      exact ⟨_, Hp.sub_refl, x, [], lR, by simp [eR, plain], hR, t10.back kR, by rw [← hx0]; exact L10.step t10 dl kR⟩
    · rintro r sR ⟨eR, kR⟩
      exact ⟨by simp [eR], t10.stop kR⟩
  | none =>
  rw [e9] at t10
  simp only [Option.getD_none] at t10
  simp (dsimp := false) (implicitDefEqProofs := false) (disch := first | omega | assumption | (simp only [rL, Nat.reduceAdd]; try omega)) only [↓rA, rZ, List.drop_succ_cons, ne_eq, not_true_eq_false, not_false_eq_true, List.getElem?_cons_zero, List.getElem?_cons_succ, ev, ofConst, ofCell, ↓reduceIte, Nat.reduceEqDiff, Nat.reduceAdd, Nat.reduceSub, Nat.reduceMul, Nat.reduceLeDiff, Nat.reduceLT, Int.reduceNeg, Int.reduceToNat, Int.reduceAdd, Int.reduceSub, Int.reduceMul, Int.reduceLT, Int.reduceLE, Int.reduceEq, Int.reduceNe, Option.isSome_none]
  refine bsl_own (s0 := _) Hp.sub_refl (allLen_strs (ws := [w_select])) fun oA s11 h11 => ?_
  simp (dsimp := false) (implicitDefEqProofs := false) (disch := first | omega | assumption | (simp only [rL, Nat.reduceAdd]; try omega)) only [↓rA, rZ, List.drop_succ_cons, ne_eq, not_true_eq_false, not_false_eq_true, List.getElem?_cons_zero, List.getElem?_cons_succ, ev, ofConst, ofCell, ↓reduceIte, Nat.reduceEqDiff, Nat.reduceAdd, Nat.reduceSub, Nat.reduceMul, Nat.reduceLeDiff, Nat.reduceLT, Int.reduceNeg, Int.reduceToNat, Int.reduceAdd, Int.reduceSub, Int.reduceMul, Int.reduceLT, Int.reduceLE, Int.reduceEq, Int.reduceNe]
  have t11 := t10.mono h11.sub
  have L11 := L10.mono h11.sub
  refine call_intro (is_spec lt [w_select] oA l _ s11 t11.all (by simp)) ?_
  rintro _ s12 ⟨rfl, h12⟩
  have t12 := t11.back h12
  have L12 := L11.step t11 dl h12
  cases e11 : isF [w_select] l with
  | some m11 =>
    rw [e11] at t12
    simp only [Option.getD_some] at t12
    have q11 := isF_le e11
    have hF : stmF l = (selF m11).map fun p => ((.sel p.1.1, p.1.2), p.2) := by simp [stmF, e1, stm2, e3, stm3, e5, stm4, e7, stm5, e9, stm6, e11]
    rw [hF]
    simp (dsimp := false) (implicitDefEqProofs := false) (disch := first | omega | assumption | (simp only [rL, Nat.reduceAdd]; try omega)) only [↓rA, rZ, List.drop_succ_cons, ne_eq, not_true_eq_false, not_false_eq_true, List.getElem?_cons_zero, List.getElem?_cons_succ, ev, ofConst, ofCell, ↓reduceIte, Nat.reduceEqDiff, Nat.reduceAdd, Nat.reduceSub, Nat.reduceMul, Nat.reduceLeDiff, Nat.reduceLT, Int.reduceNeg, Int.reduceToNat, Int.reduceAdd, Int.reduceSub, Int.reduceMul, Int.reduceLT, Int.reduceLE, Int.reduceEq, Int.reduceNe, Option.isSome_some]
    refine callp_intro (selection_spec lt ll m11 xs0 _ s12 (by omega) hx0 t12 L12 dl) ?_ ?_
    · rintro _ sR ⟨x, ys, lR, eR, hR, kR, LR⟩
      simp (dsimp := false) (implicitDefEqProofs := false) (disch := first | omega | assumption | (simp only [rL, Nat.reduceAdd]; try omega)) only [↓rA, rZ, List.drop_succ_cons, ne_eq, not_true_eq_false, not_false_eq_true, List.getElem?_cons_zero, List.getElem?_cons_succ, ev, ofConst, ofCell, ↓reduceIte, Nat.reduceEqDiff, Nat.reduceAdd, Nat.reduceSub, Nat.reduceMul, Nat.reduceLeDiff, Nat.reduceLT, Int.reduceNeg, Int.reduceToNat, Int.reduceAdd, Int.reduceSub, Int.reduceMul, Int.reduceLT, Int.reduceLE, Int.reduceEq, Int.reduceNe]
      exact ⟨_, Hp.sub_refl, .sel x, ys, lR, by simp [eR], hR, kR, LR⟩
    · rintro r sR ⟨eR, kR⟩
      exact ⟨by simp [eR], kR⟩
  | none =>
  rw [e11] at t12
  simp only [Option.getD_none] at t12
  simp (dsimp := false) (implicitDefEqProofs := false) (disch := first | omega | assumption | (simp only [rL, Nat.reduceAdd]; try omega)) only [↓rA, rZ, List.drop_succ_cons, ne_eq, not_true_eq_false, not_false_eq_true, List.getElem?_cons_zero, List.getElem?_cons_succ, ev, ofConst, ofCell, ↓reduceIte, Nat.reduceEqDiff, Nat.reduceAdd, Nat.reduceSub, Nat.reduceMul, Nat.reduceLeDiff, Nat.reduceLT, Int.reduceNeg, Int.reduceToNat, Int.reduceAdd, Int.reduceSub, Int.reduceMul, Int.reduceLT, Int.reduceLE, Int.reduceEq, Int.reduceNe, Option.isSome_none]
  have hF : stmF l = stm7 l := by simp [stmF, e1, stm2, e3, stm3, e5, stm4, e7, stm5, e9, stm6, e11]
  rw [hF]
  simp (dsimp := false) (implicitDefEqProofs := false) (disch := first | omega | assumption | (simp only [rL, Nat.reduceAdd]; try omega)) only [↓rA, rZ, List.drop_succ_cons, ne_eq, not_true_eq_false, not_false_eq_true, List.getElem?_cons_zero, List.getElem?_cons_succ, ev, ofConst, ofCell, ↓reduceIte, Nat.reduceEqDiff, Nat.reduceAdd, Nat.reduceSub, Nat.reduceMul, Nat.reduceLeDiff, Nat.reduceLT, Int.reduceNeg, Int.reduceToNat, Int.reduceAdd, Int.reduceSub, Int.reduceMul, Int.reduceLT, Int.reduceLE, Int.reduceEq, Int.reduceNe, rep4, putAt_z1, putAt_sc, words_agg]
  refine loop_intro (fun f s' => ∃ j : Nat, j ≤ 4 ∧ TK lt l s0 s' ∧ LK ll xs0 s0 s' ∧ f 0 = .ptr lt 0 ∧ f 53 = .agg (words4.map strV) ∧ f 54 = .v (.int .i64 j) ∧ txG words4 0 l = txG (words4.drop j) j l)
    (fun f _ => match f 54 with | .v (.int _ n) => (4 - n).toNat | _ => 0) ⟨0, by omega, t12, L12, ?_⟩ ?_
  · simp (dsimp := false) (implicitDefEqProofs := false) (disch := first | omega | assumption | (simp only [rL, Nat.reduceAdd]; try omega)) only [↓rA, rZ, List.drop_succ_cons, ne_eq, not_true_eq_false, not_false_eq_true, List.getElem?_cons_zero, List.getElem?_cons_succ, ev, ofConst, ofCell, ↓reduceIte, Nat.reduceEqDiff, Nat.reduceAdd, Nat.reduceSub, Nat.reduceMul, Nat.reduceLeDiff, Nat.reduceLT, Int.reduceNeg, Int.reduceToNat, Int.reduceAdd, Int.reduceSub, Int.reduceMul, Int.reduceLT, Int.reduceLE, Int.reduceEq, Int.reduceNe]
    rfl
  · rintro f s' ⟨j, hj, tj, Lj, f0, f53, f54, hops⟩
    have n5 : words4.length = 4 := rfl
    by_cases hlt : (j : Int) < 4
    · have hj5 : j < 4 := by omega
      have hat := str_at (ws := words4) hj5 n5
      have hdrop : words4.drop j = words4.getD j [] :: words4.drop (j + 1) := by
        rw [List.drop_eq_getElem_cons (by omega)]; simp [List.getD, show j < words4.length by omega]
      generalize words4.getD j [] = op at hat hdrop
      rw [hdrop] at hops
      simp only [txG] at hops
      by_cases hj0 : 0 < j
      · have hj0' : (0 : Int) < (j : Int) := by omega
        rw [if_pos hj0] at hops
        simp (dsimp := false) (implicitDefEqProofs := false) (disch := first | omega | assumption | (simp only [rL, Nat.reduceAdd]; try omega)) only [↓rA, rZ, List.drop_succ_cons, ne_eq, not_true_eq_false, not_false_eq_true, List.getElem?_cons_zero, List.getElem?_cons_succ, ev, ofConst, ofCell, ↓reduceIte, Nat.reduceEqDiff, Nat.reduceAdd, Nat.reduceSub, Nat.reduceMul, Nat.reduceLeDiff, Nat.reduceLT, Int.reduceNeg, Int.reduceToNat, Int.reduceAdd, Int.reduceSub, Int.reduceMul, Int.reduceLT, Int.reduceLE, Int.reduceEq, Int.reduceNe, f0, f53, f54, hlt, hat, hj0', strV]
        refine bsl_own (s0 := _) Hp.sub_refl (allLen_strs (ws := [op])) fun o8 s8' h8' => ?_
        simp (dsimp := false) (implicitDefEqProofs := false) (disch := first | omega | assumption | (simp only [rL, Nat.reduceAdd]; try omega)) only [↓rA, rZ, List.drop_succ_cons, ne_eq, not_true_eq_false, not_false_eq_true, List.getElem?_cons_zero, List.getElem?_cons_succ, ev, ofConst, ofCell, ↓reduceIte, Nat.reduceEqDiff, Nat.reduceAdd, Nat.reduceSub, Nat.reduceMul, Nat.reduceLeDiff, Nat.reduceLT, Int.reduceNeg, Int.reduceToNat, Int.reduceAdd, Int.reduceSub, Int.reduceMul, Int.reduceLT, Int.reduceLE, Int.reduceEq, Int.reduceNe, f0, f53, f54]
        have t8' := tj.mono h8'.sub
        have L8' := Lj.mono h8'.sub
        refine call_intro (is_spec lt [op] o8 l _ s8' t8'.all (by simp)) ?_
        rintro _ s9' ⟨rfl, h9'⟩
        have t9' := t8'.back h9'
        have L9' := L8'.step t8' dl h9'
        cases hq : isF [op] l with
        | some l9 =>
          rw [hq] at t9' hops
          simp only [Option.getD_some] at t9'
          simp only at hops
          have w8 : IntKind.u8.wrap (j : Int) = (j : Int) := wrap_u8 (by omega) (by omega)
          simp (dsimp := false) (implicitDefEqProofs := false) (disch := first | omega | assumption | (simp only [rL, Nat.reduceAdd]; try omega)) only [↓rA, rZ, List.drop_succ_cons, ne_eq, not_true_eq_false, not_false_eq_true, List.getElem?_cons_zero, List.getElem?_cons_succ, ev, ofConst, ofCell, ↓reduceIte, Nat.reduceEqDiff, Nat.reduceAdd, Nat.reduceSub, Nat.reduceMul, Nat.reduceLeDiff, Nat.reduceLT, Int.reduceNeg, Int.reduceToNat, Int.reduceAdd, Int.reduceSub, Int.reduceMul, Int.reduceLT, Int.reduceLE, Int.reduceEq, Int.reduceNe, f0, f53, f54, Option.isSome_some, w8, putAt_z1]
          exact ⟨_, Hp.sub_refl, .tx j, [], l9, by simp [stm7, hops, plain], rfl, t9', by rw [← hx0]; exact L9'⟩
        | none =>
          rw [hq] at t9' hops
          simp only [Option.getD_none] at t9'
          simp only at hops
          simp (dsimp := false) (implicitDefEqProofs := false) (disch := first | omega | assumption | (simp only [rL, Nat.reduceAdd]; try omega)) only [↓rA, rZ, List.drop_succ_cons, ne_eq, not_true_eq_false, not_false_eq_true, List.getElem?_cons_zero, List.getElem?_cons_succ, ev, ofConst, ofCell, ↓reduceIte, Nat.reduceEqDiff, Nat.reduceAdd, Nat.reduceSub, Nat.reduceMul, Nat.reduceLeDiff, Nat.reduceLT, Int.reduceNeg, Int.reduceToNat, Int.reduceAdd, Int.reduceSub, Int.reduceMul, Int.reduceLT, Int.reduceLE, Int.reduceEq, Int.reduceNe, f0, f53, f54, Option.isSome_none]
          exact ⟨⟨j + 1, by omega, t9', L9', by simp, hops⟩, by omega⟩
      · have hj0' : ¬ (0 : Int) < (j : Int) := by omega
        rw [if_neg hj0] at hops
        simp (dsimp := false) (implicitDefEqProofs := false) (disch := first | omega | assumption | (simp only [rL, Nat.reduceAdd]; try omega)) only [↓rA, rZ, List.drop_succ_cons, ne_eq, not_true_eq_false, not_false_eq_true, List.getElem?_cons_zero, List.getElem?_cons_succ, ev, ofConst, ofCell, ↓reduceIte, Nat.reduceEqDiff, Nat.reduceAdd, Nat.reduceSub, Nat.reduceMul, Nat.reduceLeDiff, Nat.reduceLT, Int.reduceNeg, Int.reduceToNat, Int.reduceAdd, Int.reduceSub, Int.reduceMul, Int.reduceLT, Int.reduceLE, Int.reduceEq, Int.reduceNe, f0, f53, f54, hlt, hat, hj0', strV]
        exact ⟨⟨j + 1, by omega, tj, Lj, by simp, hops⟩, by omega⟩
    · obtain rfl : j = 4 := by omega
      simp (dsimp := false) (implicitDefEqProofs := false) (disch := first | omega | assumption | (simp only [rL, Nat.reduceAdd]; try omega)) only [↓rA, rZ, List.drop_succ_cons, ne_eq, not_true_eq_false, not_false_eq_true, List.getElem?_cons_zero, List.getElem?_cons_succ, ev, ofConst, ofCell, ↓reduceIte, Nat.reduceEqDiff, Nat.reduceAdd, Nat.reduceSub, Nat.reduceMul, Nat.reduceLeDiff, Nat.reduceLT, Int.reduceNeg, Int.reduceToNat, Int.reduceAdd, Int.reduceSub, Int.reduceMul, Int.reduceLT, Int.reduceLE, Int.reduceEq, Int.reduceNe, f0, f53, f54, hlt]
      refine callp_intro (fail_spec _) (fun _ _ h => h.elim) ?_
      rintro r s' ⟨rfl, hs⟩
      exact ⟨by rw [stm7, hops]; rfl, rfl, Hp.sub_trans tj.1 hs⟩
end Go.Proofs.YtgfbealjkdhdbaaGreatDoor
/-
  parse.Parse.
-/
set_option maxRecDepth 100000
namespace Go.Proofs.YtgfbealjkdhdbaaGreatDoor
open Go Go.Av
theorem neg_spec (v : Int) (s : Hp) : AC Tryz.prog 34 [.v (.int .i64 v)] s fun r s' => s' = s ∧ r = .v (.bool (decide (v < 0))) := by
  refine AC_run hm prep34 (by simp) ?_
  simp (dsimp := false) (implicitDefEqProofs := false) (disch := first | omega | assumption | (simp only [rL, Nat.reduceAdd]; try omega)) only [↓rA, rZ, List.drop_succ_cons, ne_eq, not_true_eq_false, not_false_eq_true, List.getElem?_cons_zero, List.getElem?_cons_succ, ev, ofConst, ofCell, ↓reduceIte, Nat.reduceEqDiff, Nat.reduceAdd, Nat.reduceSub, Nat.reduceMul, Nat.reduceLeDiff, Nat.reduceLT, Int.reduceNeg, Int.reduceToNat, Int.reduceAdd, Int.reduceSub, Int.reduceMul, Int.reduceLT, Int.reduceLE, Int.reduceEq, Int.reduceNe]
  exact ⟨_, Hp.sub_refl, rfl⟩
theorem AllV_int : ∀ {xs : List Int} {av : List AV}, AllV intR xs av → av = xs.map fun v => .v (.int .i64 v)
  | [], [], _ => rfl
  | x :: r, a :: q, h => by
    have h1 : a = .v (.int .i64 x) := h.1
    rw [h1, AllV_int h.2]; rfl
  | [], _ :: _, h => h.elim
  | _ :: _, [], h => h.elim
def intsV (xs : List Int) : List AV := xs.map fun v => .v (.int .i64 v)
theorem iaSA_ints {xs : List Int} {o : Own} {i : Nat} {v : Int} (h : xs[i]? = some v) : iaSA 1 (.sl (intsV xs) o) (.v (.int .i64 (i : Int))) = some (.rptr [.v (.int .i64 v)]) := by
  have h0 : (0 : Int) ≤ (i : Int) := by omega
  have hel : (intsV xs)[i]? = some (.v (.int .i64 v)) := by simp [intsV, h]
  simp only [iaSA, h0, if_true, Int.toNat_natCast, hel]
  rw [elA_some (e := .v (.int .i64 v)) (k := 1) rfl]; rfl
theorem indexN_spec (xs : List Int) (o : Own) (s : Hp) (hn : xs.length ≤ 1000000) :
    AC Tryz.prog 53 [.sl (intsV xs) o, .clo 34 [] []] s fun r s' => s' = s ∧ ∃ k : Int, r = .v (.int .i64 k) ∧ (0 ≤ k ↔ ∃ v ∈ xs, v < 0) := by
  refine AC_run hm prep53 (by simp) ?_
  have hlen : (intsV xs).length = xs.length := by simp [intsV]
  simp (dsimp := false) (implicitDefEqProofs := false) (disch := first | omega | assumption | (simp only [rL, Nat.reduceAdd]; try omega)) only [↓rA, rZ, List.drop_succ_cons, ne_eq, not_true_eq_false, not_false_eq_true, List.getElem?_cons_zero, List.getElem?_cons_succ, ev, ofConst, ofCell, ↓reduceIte, Nat.reduceEqDiff, Nat.reduceAdd, Nat.reduceSub, Nat.reduceMul, Nat.reduceLeDiff, Nat.reduceLT, Int.reduceNeg, Int.reduceToNat, Int.reduceAdd, Int.reduceSub, Int.reduceMul, Int.reduceLT, Int.reduceLE, Int.reduceEq, Int.reduceNe, hlen]
  refine loop_intro (fun f s' => ∃ i : Nat, i ≤ xs.length ∧ s' = s ∧ f 0 = .sl (intsV xs) o ∧ f 1 = .clo 34 [] [] ∧ f 7 = .v (.int .i64 xs.length) ∧ f 8 = .v (.int .i64 i) ∧ ¬ ∃ v ∈ xs.take i, v < 0)
    (fun f _ => match f 8 with | .v (.int _ n) => xs.length - n.toNat | _ => 0) ⟨0, by omega, rfl, ?_⟩ ?_
  · simp (dsimp := false) (implicitDefEqProofs := false) (disch := first | omega | assumption | (simp only [rL, Nat.reduceAdd]; try omega)) only [↓rA, rZ, List.drop_succ_cons, ne_eq, not_true_eq_false, not_false_eq_true, List.getElem?_cons_zero, List.getElem?_cons_succ, ev, ofConst, ofCell, ↓reduceIte, Nat.reduceEqDiff, Nat.reduceAdd, Nat.reduceSub, Nat.reduceMul, Nat.reduceLeDiff, Nat.reduceLT, Int.reduceNeg, Int.reduceToNat, Int.reduceAdd, Int.reduceSub, Int.reduceMul, Int.reduceLT, Int.reduceLE, Int.reduceEq, Int.reduceNe, hlen]
    simp
  · rintro f s' ⟨i, hi, rfl, f0, f1, f7, f8, hni⟩
    by_cases hlt : (i : Int) < (xs.length : Int)
    · have hi' : i < xs.length := by omega
      have hw1 : xs[i]? = some xs[i] := List.getElem?_eq_getElem hi'
      have hwi : xs[i] ∈ xs := List.getElem_mem _
      have htk : xs.take (i + 1) = xs.take i ++ [xs[i]] := by rw [List.take_succ, hw1]; rfl
      generalize xs[i] = v at hw1 hwi htk
      simp (dsimp := false) (implicitDefEqProofs := false) (disch := first | omega | assumption | (simp only [rL, Nat.reduceAdd]; try omega)) only [↓rA, rZ, List.drop_succ_cons, ne_eq, not_true_eq_false, not_false_eq_true, List.getElem?_cons_zero, List.getElem?_cons_succ, ev, ofConst, ofCell, ↓reduceIte, Nat.reduceEqDiff, Nat.reduceAdd, Nat.reduceSub, Nat.reduceMul, Nat.reduceLeDiff, Nat.reduceLT, Int.reduceNeg, Int.reduceToNat, Int.reduceAdd, Int.reduceSub, Int.reduceMul, Int.reduceLT, Int.reduceLE, Int.reduceEq, Int.reduceNe, f0, f1, f7, f8, hlt, iaSA_ints hw1]
      refine callV_intro (by kernel_rfl) (neg_spec v s') ?_
      rintro _ _ ⟨rfl, rfl⟩
      by_cases hv : v < 0
      · simp (dsimp := false) (implicitDefEqProofs := false) (disch := first | omega | assumption | (simp only [rL, Nat.reduceAdd]; try omega)) only [↓rA, rZ, List.drop_succ_cons, ne_eq, not_true_eq_false, not_false_eq_true, List.getElem?_cons_zero, List.getElem?_cons_succ, ev, ofConst, ofCell, ↓reduceIte, Nat.reduceEqDiff, Nat.reduceAdd, Nat.reduceSub, Nat.reduceMul, Nat.reduceLeDiff, Nat.reduceLT, Int.reduceNeg, Int.reduceToNat, Int.reduceAdd, Int.reduceSub, Int.reduceMul, Int.reduceLT, Int.reduceLE, Int.reduceEq, Int.reduceNe, f0, f1, f7, f8, hv, decide_true]
        refine ⟨_, Hp.sub_refl, rfl, _, rfl, ?_⟩
        exact ⟨fun _ => ⟨v, hwi, hv⟩, fun _ => by omega⟩
      · simp (dsimp := false) (implicitDefEqProofs := false) (disch := first | omega | assumption | (simp only [rL, Nat.reduceAdd]; try omega)) only [↓rA, rZ, List.drop_succ_cons, ne_eq, not_true_eq_false, not_false_eq_true, List.getElem?_cons_zero, List.getElem?_cons_succ, ev, ofConst, ofCell, ↓reduceIte, Nat.reduceEqDiff, Nat.reduceAdd, Nat.reduceSub, Nat.reduceMul, Nat.reduceLeDiff, Nat.reduceLT, Int.reduceNeg, Int.reduceToNat, Int.reduceAdd, Int.reduceSub, Int.reduceMul, Int.reduceLT, Int.reduceLE, Int.reduceEq, Int.reduceNe, f0, f1, f7, f8, hv, decide_false]
        refine ⟨⟨i + 1, by omega, by simp, ?_⟩, by omega⟩
        rw [htk]
        rintro ⟨w, hw, hw0⟩
        rcases List.mem_append.1 hw with h | h
        · exact hni ⟨w, h, hw0⟩
        · simp only [List.mem_singleton] at h; subst h; exact hv hw0
    · obtain rfl : i = xs.length := by omega
      simp (dsimp := false) (implicitDefEqProofs := false) (disch := first | omega | assumption | (simp only [rL, Nat.reduceAdd]; try omega)) only [↓rA, rZ, List.drop_succ_cons, ne_eq, not_true_eq_false, not_false_eq_true, List.getElem?_cons_zero, List.getElem?_cons_succ, ev, ofConst, ofCell, ↓reduceIte, Nat.reduceEqDiff, Nat.reduceAdd, Nat.reduceSub, Nat.reduceMul, Nat.reduceLeDiff, Nat.reduceLT, Int.reduceNeg, Int.reduceToNat, Int.reduceAdd, Int.reduceSub, Int.reduceMul, Int.reduceLT, Int.reduceLE, Int.reduceEq, Int.reduceNe, f0, f1, f7, f8, hlt]
      refine ⟨_, Hp.sub_refl, rfl, _, rfl, ?_⟩
      rw [List.take_length] at hni
      exact ⟨fun h => absurd h (by omega), fun h => absurd h hni⟩
def anyNeg (xs : List Int) : Bool := xs.any fun v => decide (v < 0)
theorem anyNeg_iff {xs : List Int} : (∃ v ∈ xs, v < 0) ↔ anyNeg xs = true := by simp [anyNeg]
theorem containsN_spec (xs : List Int) (o : Own) (s : Hp) (hn : xs.length ≤ 1000000) :
    AC Tryz.prog 33 [.sl (intsV xs) o, .clo 34 [] []] s fun r s' => s' = s ∧ r = .v (.bool (anyNeg xs)) := by
  refine AC_run hm prep33 (by simp) ?_
  simp (dsimp := false) (implicitDefEqProofs := false) (disch := first | omega | assumption | (simp only [rL, Nat.reduceAdd]; try omega)) only [↓rA, rZ, List.drop_succ_cons, ne_eq, not_true_eq_false, not_false_eq_true, List.getElem?_cons_zero, List.getElem?_cons_succ, ev, ofConst, ofCell, ↓reduceIte, Nat.reduceEqDiff, Nat.reduceAdd, Nat.reduceSub, Nat.reduceMul, Nat.reduceLeDiff, Nat.reduceLT, Int.reduceNeg, Int.reduceToNat, Int.reduceAdd, Int.reduceSub, Int.reduceMul, Int.reduceLT, Int.reduceLE, Int.reduceEq, Int.reduceNe]
  refine call_intro (indexN_spec xs o s hn) ?_
  rintro _ _ ⟨rfl, k, rfl, hk⟩
  rw [anyNeg_iff] at hk
  cases h : anyNeg xs with
  | true =>
    have h0 := hk.2 h
    simp (dsimp := false) (implicitDefEqProofs := false) (disch := first | omega | assumption | (simp only [rL, Nat.reduceAdd]; try omega)) only [↓rA, rZ, List.drop_succ_cons, ne_eq, not_true_eq_false, not_false_eq_true, List.getElem?_cons_zero, List.getElem?_cons_succ, ev, ofConst, ofCell, ↓reduceIte, Nat.reduceEqDiff, Nat.reduceAdd, Nat.reduceSub, Nat.reduceMul, Nat.reduceLeDiff, Nat.reduceLT, Int.reduceNeg, Int.reduceToNat, Int.reduceAdd, Int.reduceSub, Int.reduceMul, Int.reduceLT, Int.reduceLE, Int.reduceEq, Int.reduceNe, h0]
    exact ⟨_, Hp.sub_refl, rfl⟩
  | false =>
    have h0 : ¬ 0 ≤ k := fun h' => by have := hk.1 h'; rw [h] at this; cases this
    simp (dsimp := false) (implicitDefEqProofs := false) (disch := first | omega | assumption | (simp only [rL, Nat.reduceAdd]; try omega)) only [↓rA, rZ, List.drop_succ_cons, ne_eq, not_true_eq_false, not_false_eq_true, List.getElem?_cons_zero, List.getElem?_cons_succ, ev, ofConst, ofCell, ↓reduceIte, Nat.reduceEqDiff, Nat.reduceAdd, Nat.reduceSub, Nat.reduceMul, Nat.reduceLeDiff, Nat.reduceLT, Int.reduceNeg, Int.reduceToNat, Int.reduceAdd, Int.reduceSub, Int.reduceMul, Int.reduceLT, Int.reduceLE, Int.reduceEq, Int.reduceNe, h0]
    exact ⟨_, Hp.sub_refl, rfl⟩
/-! ### the deferred closure -/
theorem parse1_ret (l2 l3 : Nat) (s : Hp) (Q : Hp → Prop) (hQ : Q s) : ACret Tryz.prog 30 [.ptr l2 0, .ptr l3 0] s Q := by
  refine ACret_run hm prep30 (by simp) ?_
  simp (dsimp := false) (implicitDefEqProofs := false) (disch := first | omega | assumption | (simp only [rL, Nat.reduceAdd]; try omega)) only [↓rA, rZ, List.drop_succ_cons, ne_eq, not_true_eq_false, not_false_eq_true, List.getElem?_cons_zero, List.getElem?_cons_succ, ev, ofConst, ofCell, ↓reduceIte, Nat.reduceEqDiff, Nat.reduceAdd, Nat.reduceSub, Nat.reduceMul, Nat.reduceLeDiff, Nat.reduceLT, Int.reduceNeg, Int.reduceToNat, Int.reduceAdd, Int.reduceSub, Int.reduceMul, Int.reduceLT, Int.reduceLE, Int.reduceEq, Int.reduceNe, ↓rR]
  exact ⟨_, Hp.sub_refl, hQ⟩
theorem parse1_rec (l2 l3 : Nat) (n : Int) (s : Hp) (a b : AV) (h2 : s l2 = some (.cells [a])) (h3 : s l3 = some (.cells [b])) (d : l2 ≠ l3) (Q : Hp → Prop) (hQ : ∀ s', (∀ l o, l ≠ l2 → l ≠ l3 → s l = some o → s' l = some o) → s' l2 = some (.cells [.v .nilIface]) → s' l3 = some (.cells [.v (.int .i64 n)]) → Q s') :
    ACrec Tryz.prog 30 [.ptr l2 0, .ptr l3 0] (stopV n) s Q := by
  refine ACrec_run hm prep30 (by simp) ?_
  have e : stopV n = .iface 74 (.agg [.v (.int .i64 n)]) := rfl
  rw [e]
  simp (dsimp := false) (implicitDefEqProofs := false) (disch := first | omega | assumption | (simp only [rL, Nat.reduceAdd]; try omega)) only [↓rA, rZ, List.drop_succ_cons, ne_eq, not_true_eq_false, not_false_eq_true, List.getElem?_cons_zero, List.getElem?_cons_succ, ev, ofConst, ofCell, ↓reduceIte, Nat.reduceEqDiff, Nat.reduceAdd, Nat.reduceSub, Nat.reduceMul, Nat.reduceLeDiff, Nat.reduceLT, Int.reduceNeg, Int.reduceToNat, Int.reduceAdd, Int.reduceSub, Int.reduceMul, Int.reduceLT, Int.reduceLE, Int.reduceEq, Int.reduceNe, ↓rR]
  refine newK_intro fun l4 n4 => ?_
  have d24 : l2 ≠ l4 := by rintro rfl; rw [n4] at h2; cases h2
  have d34 : l3 ≠ l4 := by rintro rfl; rw [n4] at h3; cases h3
  have d42 := Ne.symm d24
  have d43 := Ne.symm d34
  have d' := Ne.symm d
  simp (dsimp := false) (implicitDefEqProofs := false) (disch := first | omega | assumption | (simp only [rL, Nat.reduceAdd]; try omega)) only [↓rA, rZ, List.drop_succ_cons, ne_eq, not_true_eq_false, not_false_eq_true, List.getElem?_cons_zero, List.getElem?_cons_succ, ev, ofConst, ofCell, ↓reduceIte, Nat.reduceEqDiff, Nat.reduceAdd, Nat.reduceSub, Nat.reduceMul, Nat.reduceLeDiff, Nat.reduceLT, Int.reduceNeg, Int.reduceToNat, Int.reduceAdd, Int.reduceSub, Int.reduceMul, Int.reduceLT, Int.reduceLE, Int.reduceEq, Int.reduceNe, ↓rR, putAt_z1, Hp.stA_of h2, Hp.stA_of h3, Hp.set_ne, d, d', d24, d34, d42, d43, h2, h3]
  refine ⟨_, Hp.sub_refl, hQ _ (fun l o h2' h3' ho => ?_) ?_ (Hp.set_same _ _ _)⟩
  · have h4' : l ≠ l4 := by rintro rfl; rw [n4] at ho; cases ho
    rw [Hp.set_ne _ _ h3', Hp.set_ne _ _ h2', Hp.set_ne _ _ h4']; exact ho
  · rw [Hp.set_ne _ _ d, Hp.set_same]
/-! ### Parse -/
theorem lexP_count : ∀ (f N : Nat) (l : List UInt8) (ts : List (Tok × Nat)), lexP f N l = .ok ts → ts.length ≤ l.length
  | 0, N, l, ts, h => by simp only [lexP] at h; first | (cases h; simp) | cases h
  | f + 1, N, l, ts, h => by
    simp only [lexP] at h
    split at h
    · cases h; simp
    · rename_i hne
      cases ht : tokP (skip false l) with
      | error e => rw [ht] at h; cases h
      | ok x =>
        obtain ⟨t, k⟩ := x
        rw [ht] at h
        simp only at h
        have h1 := tokP_n hne ht
        have h2 := skip_le false l
        cases hr : lexP f N ((skip false l).drop k) with
        | error e => rw [hr] at h; cases h
        | ok us =>
          rw [hr] at h
          have := lexP_count f N _ us hr
          rw [List.length_drop] at this
          cases h
          simp only [List.length_cons]
          omega
theorem lexT_count {l : List UInt8} {ts : List (Tok × Nat)} (h : lexT l = .ok ts) : ts.length ≤ 1000 := by
  unfold lexT at h
  split at h
  · cases h
  · have := lexP_count _ _ _ _ h; omega
theorem lexP_err : ∀ (f N : Nat) (l : List UInt8) (e : Nat), lexP f N l = .error e → e = 2 ∨ e = 7
  | 0, N, l, e, h => by simp only [lexP] at h; cases h
  | f + 1, N, l, e, h => by
    simp only [lexP] at h
    split at h
    · cases h
    · cases ht : tokP (skip false l) with
      | error e' => rw [ht] at h; cases h; exact tokP_err ht
      | ok x =>
        obtain ⟨t, k⟩ := x
        rw [ht] at h
        simp only at h
        cases hr : lexP f N ((skip false l).drop k) with
        | error e' => rw [hr] at h; cases h; exact lexP_err f N _ _ hr
        | ok us => rw [hr] at h; cases h
theorem lexT_err {l : List UInt8} {e : Nat} (h : lexT l = .error e) : e = 10 ∨ e = 2 ∨ e = 7 := by
  unfold lexT at h
  split at h
  · cases h; exact .inl rfl
  · exact .inr (lexP_err _ _ _ _ h)
theorem numOr_ys {ws : List (List UInt8)} {l l' : List Tok} {v : Int} {ys : List Int} (h : numOr ws l = some ((v, ys), l')) : ys.length ≤ 1 := by
  unfold numOr at h
  split at h
  · simp only [Option.map_eq_some_iff, Prod.mk.injEq] at h
    obtain ⟨p, _, ⟨_, h2⟩, _⟩ := h
    rw [← h2]; simp
  · simp only [Option.some.injEq, Prod.mk.injEq] at h
    rw [← h.1.2]; simp
theorem selF_ys {l l' : List Tok} {x : Sel} {ys : List Int} (h : selF l = some ((x, ys), l')) : ys.length ≤ 2 := by
  unfold selF at h
  simp only [Option.bind_eq_some_iff] at h
  obtain ⟨p1, _, l2, _, p2, _, p3, h3, p4, _, h5⟩ := h
  obtain ⟨⟨v3, y3⟩, l3⟩ := p3
  have q3 := numOr_ys h3
  split at h5
  · simp only [Option.some.injEq, Prod.mk.injEq] at h5
    rw [← h5.1.2]; omega
  · simp only [Option.bind_eq_some_iff, Option.map_eq_some_iff, Prod.mk.injEq] at h5
    obtain ⟨p5, _, p6, h6, ⟨_, h7⟩, _⟩ := h5
    obtain ⟨⟨v6, y6⟩, l6⟩ := p6
    have q6 := numOr_ys h6
    rw [← h7]; simp only [List.length_append]; omega
theorem plain_ys {α : Type} {o : Option (Stm × α)} {x : Stm} {ys : List Int} {l' : α} (h : o.map plain = some ((x, ys), l')) : ys.length ≤ 2 := by
  simp only [Option.map_eq_some_iff, plain, Prod.mk.injEq] at h
  obtain ⟨p, _, ⟨_, h2⟩, _⟩ := h
  rw [← h2]; simp
theorem stmF_ys {l l' : List Tok} {x : Stm} {ys : List Int} (h : stmF l = some ((x, ys), l')) : ys.length ≤ 2 := by
  unfold stmF at h
  split at h
  · exact plain_ys h
  unfold stm2 at h
  split at h
  · simp only [Option.map_eq_some_iff, Prod.mk.injEq] at h
    obtain ⟨p, _, ⟨_, h2⟩, _⟩ := h
    rw [← h2]; simp
  unfold stm3 at h
  split at h
  · exact plain_ys h
  unfold stm4 at h
  split at h
  · simp only [Option.bind_eq_some_iff, Option.map_eq_some_iff, Prod.mk.injEq] at h
    obtain ⟨p, _, q, _, ⟨_, h2⟩, _⟩ := h
    rw [← h2]; simp
  unfold stm5 at h
  split at h
  · exact plain_ys h
  unfold stm6 at h
  split at h
  · simp only [Option.map_eq_some_iff, Prod.mk.injEq] at h
    obtain ⟨⟨⟨a, b⟩, c⟩, h1, ⟨_, h2⟩, _⟩ := h
    rw [← h2]; exact selF_ys h1
  unfold stm7 at h
  exact plain_ys h
def parseL (l : List Tok) : Except Nat Stm :=
  match stmF l with
  | none => .error 2
  | some ((x, ys), l') => if l' = [] then (if anyNeg ys = true then .error 7 else .ok x) else .error 2
def parseT (l : List UInt8) : Except Nat Stm :=
  match lexT l with
  | .error e => .error e
  | .ok ts => parseL (ts.map Prod.fst)
def PRes (r : AV) : Except Nat Stm → Prop
  | .error e => r = .tup [.v .nilIface, .v (.int .i64 e)]
  | .ok x => ∃ a, stmR x a ∧ r = .tup [a, .v (.int .i64 0)]
theorem stm_cells {x : Stm} {a : AV} (h : stmR x a) : a.cells = [a] := by
  cases x with
  | create t c => obtain ⟨_, _, rfl⟩ := h; rfl
  | drop t => obtain rfl := h; rfl
  | insert t c => obtain ⟨_, _, rfl⟩ := h; rfl
  | delete t c => obtain ⟨_, _, rfl⟩ := h; rfl
  | update t c d => obtain ⟨_, _, _, _, rfl⟩ := h; rfl
  | sel x => obtain ⟨_, _, _, _, rfl⟩ := h; rfl
  | tx k => obtain rfl := h; rfl
theorem dfer_cut {f : Fr} {s : Hp} {p : Program} {post : ACode} {rs : List (Nat × Option (Bool × Nat))} {R : AV → Hp → Prop} {n : FuncId} {ds cs : List AV} (hok : callOk p n = true)
    (h : ∀ f' Kp, f' = f → Kp = (fun r s' => ACrec p n (ds ++ cs) r s' (resK rs R f')) → awp ⟨p, Kp⟩ post (dretK p n (ds ++ cs) rs R) f' s) : dferV p post rs R (.clo n ds cs) f s :=
  dfer_intro hok fun Kp hKp => h f Kp rfl hKp
theorem set_self {s : Hp} {l : Nat} {ob : Ob} (h : s l = some ob) : s.set l ob = s := by
  funext x
  by_cases e : x = l
  · subst e; rw [Hp.set_same, h]
  · rw [Hp.set_ne _ _ e]
theorem resK_two {f : Fr} {s : Hp} {R : AV → Hp → Prop} {l2 l3 : Nat} {a b : AV} (f2 : f 2 = .ptr l2 0) (f3 : f 3 = .ptr l3 0) (h2 : s l2 = some (.cells [a])) (h3 : s l3 = some (.cells [b])) (h : R (.tup [a, b]) s) :
    resK [(2, some (false, 1)), (3, some (false, 1))] R f s := by
  refine ⟨.tup [a, b], s, resAll_two ?_ ?_, Hp.sub_refl, h⟩
  · simp only [resG, f2, Hp.read_of h2]; rfl
  · simp only [resG, f3, Hp.read_of h3]; rfl
theorem Parse_spec (l : List UInt8) (s : Hp) (hT : Tabs s) :
    AC Tryz.prog 12 [strV l] s fun r s' => s.sub s' ∧ PRes r (parseT l) := by
  refine AC_drun hm prep12 (by simp) ?_
  simp (dsimp := false) (implicitDefEqProofs := false) (disch := first | omega | assumption | (simp only [rL, Nat.reduceAdd]; try omega)) only [↓rA, rZ, List.drop_succ_cons, ne_eq, not_true_eq_false, not_false_eq_true, List.getElem?_cons_zero, List.getElem?_cons_succ, ev, ofConst, ofCell, ↓reduceIte, Nat.reduceEqDiff, Nat.reduceAdd, Nat.reduceSub, Nat.reduceMul, Nat.reduceLeDiff, Nat.reduceLT, Int.reduceNeg, Int.reduceToNat, Int.reduceAdd, Int.reduceSub, Int.reduceMul, Int.reduceLT, Int.reduceLE, Int.reduceEq, Int.reduceNe, ↓rR]
  refine newK_intro fun l2 n2 => ?_
  simp (dsimp := false) (implicitDefEqProofs := false) (disch := first | omega | assumption | (simp only [rL, Nat.reduceAdd]; try omega)) only [↓rA, rZ, List.drop_succ_cons, ne_eq, not_true_eq_false, not_false_eq_true, List.getElem?_cons_zero, List.getElem?_cons_succ, ev, ofConst, ofCell, ↓reduceIte, Nat.reduceEqDiff, Nat.reduceAdd, Nat.reduceSub, Nat.reduceMul, Nat.reduceLeDiff, Nat.reduceLT, Int.reduceNeg, Int.reduceToNat, Int.reduceAdd, Int.reduceSub, Int.reduceMul, Int.reduceLT, Int.reduceLE, Int.reduceEq, Int.reduceNe, ↓rR]
  refine newK_intro fun l3 n3 => ?_
  have d23 : l2 ≠ l3 := by rintro rfl; rw [Hp.set_same] at n3; cases n3
  have d32 := Ne.symm d23
  have n3s : s l3 = none := by rw [Hp.set_ne _ _ d32] at n3; exact n3
  have hs2 : s.sub ((s.set l2 (.cells [.v .nilIface])).set l3 (.cells [.v (.int .i64 0)])) := Hp.sub_new (Hp.sub_new Hp.sub_refl n2) n3s
  simp (dsimp := false) (implicitDefEqProofs := false) (disch := first | omega | assumption | (simp only [rL, Nat.reduceAdd]; try omega)) only [↓rA, rZ, List.drop_succ_cons, ne_eq, not_true_eq_false, not_false_eq_true, List.getElem?_cons_zero, List.getElem?_cons_succ, ev, ofConst, ofCell, ↓reduceIte, Nat.reduceEqDiff, Nat.reduceAdd, Nat.reduceSub, Nat.reduceMul, Nat.reduceLeDiff, Nat.reduceLT, Int.reduceNeg, Int.reduceToNat, Int.reduceAdd, Int.reduceSub, Int.reduceMul, Int.reduceLT, Int.reduceLE, Int.reduceEq, Int.reduceNe, ↓rR]
  refine call_intro (Lex_spec l _ (hT.mono hs2)) ?_
  intro r s4 h4
  cases hlx : lexT l with
  | error e =>
    rw [hlx] at h4
    obtain ⟨h4, rfl⟩ := h4
    have g2 := h4 l2 (.cells [.v .nilIface]) (by rw [Hp.set_ne _ _ d23, Hp.set_same])
    have g3 := h4 l3 _ (Hp.set_same _ _ _)
    have he : ¬ ((e : Nat) : Int) = 0 := by
      rcases lexT_err hlx with h | h | h <;> omega
    simp (dsimp := false) (implicitDefEqProofs := false) (disch := first | omega | assumption | (simp only [rL, Nat.reduceAdd]; try omega)) only [↓rA, rZ, List.drop_succ_cons, ne_eq, not_true_eq_false, not_false_eq_true, List.getElem?_cons_zero, List.getElem?_cons_succ, ev, ofConst, ofCell, ↓reduceIte, Nat.reduceEqDiff, Nat.reduceAdd, Nat.reduceSub, Nat.reduceMul, Nat.reduceLeDiff, Nat.reduceLT, Int.reduceNeg, Int.reduceToNat, Int.reduceAdd, Int.reduceSub, Int.reduceMul, Int.reduceLT, Int.reduceLE, Int.reduceEq, Int.reduceNe, ↓rR, Hp.stA_of g3, Hp.stA_of g2, putAt_z1, he, Hp.set_ne, d23, d32]
    refine ⟨_, Hp.sub_refl, fun x ob hx => ?_, by rw [parseT, hlx]; rfl⟩
    have x2 : x ≠ l2 := by rintro rfl; rw [n2] at hx; cases hx
    have x3 : x ≠ l3 := by rintro rfl; rw [n3s] at hx; cases hx
    rw [Hp.set_ne _ _ x2, Hp.set_ne _ _ x3]
    exact h4 _ _ (hs2 _ _ hx)
  | ok ts =>
    rw [hlx] at h4
    obtain ⟨o, h4, rfl⟩ := h4
    have g2 := h4.sub l2 (.cells [.v .nilIface]) (by rw [Hp.set_ne _ _ d23, Hp.set_same])
    have g3 := h4.sub l3 _ (Hp.set_same _ _ _)
    have hs4 : s.sub s4 := Hp.sub_trans hs2 h4.sub
    have hpT : parseT l = parseL (ts.map Prod.fst) := by rw [parseT, hlx]
    have hcnt := lexT_count hlx
    have hcnt' : (ts.map Prod.fst).length ≤ 100000 := by rw [List.length_map]; omega
    have hToks : Toks (TL ts) (ts.map Prod.fst) := ⟨ts, rfl, rfl⟩
    rw [hpT]
    generalize ts.map Prod.fst = l0 at hToks hcnt'
    have hset := set_self g3
    simp (dsimp := false) (implicitDefEqProofs := false) (disch := first | omega | assumption | (simp only [rL, Nat.reduceAdd]; try omega)) only [↓rA, rZ, List.drop_succ_cons, ne_eq, not_true_eq_false, not_false_eq_true, List.getElem?_cons_zero, List.getElem?_cons_succ, ev, ofConst, ofCell, ↓reduceIte, Nat.reduceEqDiff, Nat.reduceAdd, Nat.reduceSub, Nat.reduceMul, Nat.reduceLeDiff, Nat.reduceLT, Int.reduceNeg, Int.reduceToNat, Int.reduceAdd, Int.reduceSub, Int.reduceMul, Int.reduceLT, Int.reduceLE, Int.reduceEq, Int.reduceNe, ↓rR, hset, Hp.read_of g3, Hp.stA_of g3, Hp.stA_of g2, putAt_z1, Hp.set_ne, d23, d32]
    refine dfer_cut (by kernel_rfl) fun f' Kp hf hKp => ?_
    have f2 : f' 2 = .ptr l2 0 := by rw [hf]; simp (dsimp := false) (implicitDefEqProofs := false) (disch := first | omega | assumption | (simp only [rL, Nat.reduceAdd]; try omega)) only [↓rA, rZ, List.drop_succ_cons, ne_eq, not_true_eq_false, not_false_eq_true, List.getElem?_cons_zero, List.getElem?_cons_succ, ev, ofConst, ofCell, ↓reduceIte, Nat.reduceEqDiff, Nat.reduceAdd, Nat.reduceSub, Nat.reduceMul, Nat.reduceLeDiff, Nat.reduceLT, Int.reduceNeg, Int.reduceToNat, Int.reduceAdd, Int.reduceSub, Int.reduceMul, Int.reduceLT, Int.reduceLE, Int.reduceEq, Int.reduceNe]
    have f3 : f' 3 = .ptr l3 0 := by rw [hf]; simp (dsimp := false) (implicitDefEqProofs := false) (disch := first | omega | assumption | (simp only [rL, Nat.reduceAdd]; try omega)) only [↓rA, rZ, List.drop_succ_cons, ne_eq, not_true_eq_false, not_false_eq_true, List.getElem?_cons_zero, List.getElem?_cons_succ, ev, ofConst, ofCell, ↓reduceIte, Nat.reduceEqDiff, Nat.reduceAdd, Nat.reduceSub, Nat.reduceMul, Nat.reduceLeDiff, Nat.reduceLT, Int.reduceNeg, Int.reduceToNat, Int.reduceAdd, Int.reduceSub, Int.reduceMul, Int.reduceLT, Int.reduceLE, Int.reduceEq, Int.reduceNe]
    have f4 : f' 4 = .sl (TL ts) o := by rw [hf]; simp (dsimp := false) (implicitDefEqProofs := false) (disch := first | omega | assumption | (simp only [rL, Nat.reduceAdd]; try omega)) only [↓rA, rZ, List.drop_succ_cons, ne_eq, not_true_eq_false, not_false_eq_true, List.getElem?_cons_zero, List.getElem?_cons_succ, ev, ofConst, ofCell, ↓reduceIte, Nat.reduceEqDiff, Nat.reduceAdd, Nat.reduceSub, Nat.reduceMul, Nat.reduceLeDiff, Nat.reduceLT, Int.reduceNeg, Int.reduceToNat, Int.reduceAdd, Int.reduceSub, Int.reduceMul, Int.reduceLT, Int.reduceLE, Int.reduceEq, Int.reduceNe]
    clear hf
    have kp : ∀ (n : Nat) (s' : Hp) (b2 b3 : AV), s.sub s' → s' l2 = some (.cells [b2]) → s' l3 = some (.cells [b3]) → parseL l0 = .error n → Kp (stopV n) s' := fun n s' b2 b3 hs hb2 hb3 hp => by
      rw [hKp]
      refine parse1_rec l2 l3 n s' _ _ hb2 hb3 d23 _ fun s'' hk k2 k3 => resK_two f2 f3 k2 k3 ⟨fun x ob hx => ?_, by rw [hp]; rfl⟩
      have x2 : x ≠ l2 := by rintro rfl; rw [n2] at hx; cases hx
      have x3 : x ≠ l3 := by rintro rfl; rw [n3s] at hx; cases hx
      exact hk _ _ x2 x3 (hs _ _ hx)
    simp (dsimp := false) (implicitDefEqProofs := false) (disch := first | omega | assumption | (simp only [rL, Nat.reduceAdd]; try omega)) only [↓rA, rZ, List.drop_succ_cons, ne_eq, not_true_eq_false, not_false_eq_true, List.getElem?_cons_zero, List.getElem?_cons_succ, ev, ofConst, ofCell, ↓reduceIte, Nat.reduceEqDiff, Nat.reduceAdd, Nat.reduceSub, Nat.reduceMul, Nat.reduceLeDiff, Nat.reduceLT, Int.reduceNeg, Int.reduceToNat, Int.reduceAdd, Int.reduceSub, Int.reduceMul, Int.reduceLT, Int.reduceLE, Int.reduceEq, Int.reduceNe, ↓rR, f2, f3, f4, putAt_z1]
    refine newK_intro fun lt nt => ?_
    simp (dsimp := false) (implicitDefEqProofs := false) (disch := first | omega | assumption | (simp only [rL, Nat.reduceAdd]; try omega)) only [↓rA, rZ, List.drop_succ_cons, ne_eq, not_true_eq_false, not_false_eq_true, List.getElem?_cons_zero, List.getElem?_cons_succ, ev, ofConst, ofCell, ↓reduceIte, Nat.reduceEqDiff, Nat.reduceAdd, Nat.reduceSub, Nat.reduceMul, Nat.reduceLeDiff, Nat.reduceLT, Int.reduceNeg, Int.reduceToNat, Int.reduceAdd, Int.reduceSub, Int.reduceMul, Int.reduceLT, Int.reduceLE, Int.reduceEq, Int.reduceNe, ↓rR, f2, f3, f4, putAt_z1]
    refine newK_intro fun ll nl => ?_
    have dlt : ll ≠ lt := by rintro rfl; rw [Hp.set_same] at nl; cases nl
    have nl4 : s4 ll = none := by rw [Hp.set_ne _ _ dlt] at nl; exact nl
    have b2t : l2 ≠ lt := by rintro rfl; rw [g2] at nt; cases nt
    have b2l : l2 ≠ ll := by rintro rfl; rw [g2] at nl4; cases nl4
    have b3t : l3 ≠ lt := by rintro rfl; rw [g3] at nt; cases nt
    have b3l : l3 ≠ ll := by rintro rfl; rw [g3] at nl4; cases nl4
    have bt2 := Ne.symm b2t
    have bl2 := Ne.symm b2l
    have bt3 := Ne.symm b3t
    have bl3 := Ne.symm b3l
    have hsub5 : s4.sub ((s4.set lt (.cells [.sl (TL ts) o])).set ll (.cells [.sl [] .nil])) := Hp.sub_new (Hp.sub_new Hp.sub_refl nt) nl4
    have hTK : TK lt l0 s4 ((s4.set lt (.cells [.sl (TL ts) o])).set ll (.cells [.sl [] .nil])) :=
      ⟨hsub5, nt, TL ts, o, hToks, by rw [Hp.set_ne _ _ (Ne.symm dlt), Hp.set_same]⟩
    have hLK : LK ll [] s4 ((s4.set lt (.cells [.sl (TL ts) o])).set ll (.cells [.sl [] .nil])) :=
      ⟨nl4, [], .nil, trivial, Owned.nil hsub5, Hp.set_same _ _ _⟩
    simp (dsimp := false) (implicitDefEqProofs := false) (disch := first | omega | assumption | (simp only [rL, Nat.reduceAdd]; try omega)) only [↓rA, rZ, List.drop_succ_cons, ne_eq, not_true_eq_false, not_false_eq_true, List.getElem?_cons_zero, List.getElem?_cons_succ, ev, ofConst, ofCell, ↓reduceIte, Nat.reduceEqDiff, Nat.reduceAdd, Nat.reduceSub, Nat.reduceMul, Nat.reduceLeDiff, Nat.reduceLT, Int.reduceNeg, Int.reduceToNat, Int.reduceAdd, Int.reduceSub, Int.reduceMul, Int.reduceLT, Int.reduceLE, Int.reduceEq, Int.reduceNe, ↓rR, f2, f3, f4, putAt_z1]
    refine callp_intro (statement_spec lt ll l0 [] s4 _ hcnt' rfl hTK hLK dlt) ?_ ?_
    rotate_left
    · rintro r s' ⟨e, rfl, hs⟩
      exact kp 2 s' _ _ (Hp.sub_trans hs4 hs) (hs _ _ g2) (hs _ _ g3) (by rw [parseL, e])
    rintro a s6 ⟨x, ys, l', e6, hR, tk, lk⟩
    have hac := stm_cells hR
    have c2 := tk.1 _ _ g2
    have c3 := tk.1 _ _ g3
    obtain ⟨k1, k2, xs, ox, hx, hx2⟩ := tk
    obtain ⟨m1, av, oa, hA, hO, hl2⟩ := lk
    have hxl := hx.len
    have hav : av = intsV ys := AllV_int hA
    subst hav
    have hys := stmF_ys e6
    have hss : s.sub (s6.set l2 (.cells [a])) := Hp.sub_new (Hp.sub_trans hs4 k1) n2
    have hss3 : (s6.set l2 (.cells [a])) l3 = some (.cells [.v (.int .i64 0)]) := by rw [Hp.set_ne _ _ d32]; exact c3
    by_cases hl' : l' = []
    · have hz : ¬ ((0 : Int) < (xs.length : Int)) := by rw [hxl, hl']; simp
      simp (dsimp := false) (implicitDefEqProofs := false) (disch := first | omega | assumption | (simp only [rL, Nat.reduceAdd]; try omega)) only [↓rA, rZ, List.drop_succ_cons, ne_eq, not_true_eq_false, not_false_eq_true, List.getElem?_cons_zero, List.getElem?_cons_succ, ev, ofConst, ofCell, ↓reduceIte, Nat.reduceEqDiff, Nat.reduceAdd, Nat.reduceSub, Nat.reduceMul, Nat.reduceLeDiff, Nat.reduceLT, Int.reduceNeg, Int.reduceToNat, Int.reduceAdd, Int.reduceSub, Int.reduceMul, Int.reduceLT, Int.reduceLE, Int.reduceEq, Int.reduceNe, ↓rR, f2, f3, f4, putAt_z1, hac, Hp.stA_of c2, Hp.set_ne, b2t, bt2, b2l, bl2, Hp.read_of hx2, hz, Hp.read_of hl2]
      refine call_intro (containsN_spec ys oa _ (by omega)) ?_
      rintro _ _ ⟨rfl, rfl⟩
      cases hneg : anyNeg ys with
      | true =>
        simp (dsimp := false) (implicitDefEqProofs := false) (disch := first | omega | assumption | (simp only [rL, Nat.reduceAdd]; try omega)) only [↓rA, rZ, List.drop_succ_cons, ne_eq, not_true_eq_false, not_false_eq_true, List.getElem?_cons_zero, List.getElem?_cons_succ, ev, ofConst, ofCell, ↓reduceIte, Nat.reduceEqDiff, Nat.reduceAdd, Nat.reduceSub, Nat.reduceMul, Nat.reduceLeDiff, Nat.reduceLT, Int.reduceNeg, Int.reduceToNat, Int.reduceAdd, Int.reduceSub, Int.reduceMul, Int.reduceLT, Int.reduceLE, Int.reduceEq, Int.reduceNe, ↓rR, f2, f3, f4, putAt_z1]
        exact pan_intro (kp 7 _ _ _ hss (Hp.set_same _ _ _) hss3 (by rw [parseL, e6]; simp [hl', hneg]))
      | false =>
        simp (dsimp := false) (implicitDefEqProofs := false) (disch := first | omega | assumption | (simp only [rL, Nat.reduceAdd]; try omega)) only [↓rA, rZ, List.drop_succ_cons, ne_eq, not_true_eq_false, not_false_eq_true, List.getElem?_cons_zero, List.getElem?_cons_succ, ev, ofConst, ofCell, ↓reduceIte, Nat.reduceEqDiff, Nat.reduceAdd, Nat.reduceSub, Nat.reduceMul, Nat.reduceLeDiff, Nat.reduceLT, Int.reduceNeg, Int.reduceToNat, Int.reduceAdd, Int.reduceSub, Int.reduceMul, Int.reduceLT, Int.reduceLE, Int.reduceEq, Int.reduceNe, ↓rR, f2, f3, f4, putAt_z1, hac, Hp.stA_of c3, Hp.set_ne, d23, d32, Hp.read_of c3, mkv_one]
        refine parse1_ret l2 l3 _ _ (resK_two (l2 := l2) (l3 := l3) (a := a) (b := .v (.int .i64 0)) ?_ ?_ ?_ (Hp.set_same _ _ _) ⟨?_, ?_⟩)
        · simp (dsimp := false) (implicitDefEqProofs := false) (disch := first | omega | assumption | (simp only [rL, Nat.reduceAdd]; try omega)) only [↓rA, rZ, List.drop_succ_cons, ne_eq, not_true_eq_false, not_false_eq_true, List.getElem?_cons_zero, List.getElem?_cons_succ, ev, ofConst, ofCell, ↓reduceIte, Nat.reduceEqDiff, Nat.reduceAdd, Nat.reduceSub, Nat.reduceMul, Nat.reduceLeDiff, Nat.reduceLT, Int.reduceNeg, Int.reduceToNat, Int.reduceAdd, Int.reduceSub, Int.reduceMul, Int.reduceLT, Int.reduceLE, Int.reduceEq, Int.reduceNe, f2]
        · simp (dsimp := false) (implicitDefEqProofs := false) (disch := first | omega | assumption | (simp only [rL, Nat.reduceAdd]; try omega)) only [↓rA, rZ, List.drop_succ_cons, ne_eq, not_true_eq_false, not_false_eq_true, List.getElem?_cons_zero, List.getElem?_cons_succ, ev, ofConst, ofCell, ↓reduceIte, Nat.reduceEqDiff, Nat.reduceAdd, Nat.reduceSub, Nat.reduceMul, Nat.reduceLeDiff, Nat.reduceLT, Int.reduceNeg, Int.reduceToNat, Int.reduceAdd, Int.reduceSub, Int.reduceMul, Int.reduceLT, Int.reduceLE, Int.reduceEq, Int.reduceNe, f3]
        · rw [Hp.set_ne _ _ d23, Hp.set_same]
        · exact Hp.sub_new hss n3s
        · rw [parseL, e6]; simp only [hl', hneg, if_true]; exact ⟨a, hR, rfl⟩
    · have hz : ((0 : Int) < (xs.length : Int)) := by
        rw [hxl]; have := List.length_pos_iff.2 hl'; omega
      simp (dsimp := false) (implicitDefEqProofs := false) (disch := first | omega | assumption | (simp only [rL, Nat.reduceAdd]; try omega)) only [↓rA, rZ, List.drop_succ_cons, ne_eq, not_true_eq_false, not_false_eq_true, List.getElem?_cons_zero, List.getElem?_cons_succ, ev, ofConst, ofCell, ↓reduceIte, Nat.reduceEqDiff, Nat.reduceAdd, Nat.reduceSub, Nat.reduceMul, Nat.reduceLeDiff, Nat.reduceLT, Int.reduceNeg, Int.reduceToNat, Int.reduceAdd, Int.reduceSub, Int.reduceMul, Int.reduceLT, Int.reduceLE, Int.reduceEq, Int.reduceNe, ↓rR, f2, f3, f4, putAt_z1, hac, Hp.stA_of c2, Hp.set_ne, b2t, bt2, b2l, bl2, Hp.read_of hx2, hz, Hp.read_of hl2]
      refine callp_intro (fail_spec _) (fun _ _ h => h.elim) ?_
      rintro r s' ⟨rfl, hs⟩
      exact kp 2 s' _ _ (Hp.sub_trans hss hs) (hs _ _ (Hp.set_same _ _ _)) (hs _ _ hss3) (by rw [parseL, e6]; simp [hl'])
end Go.Proofs.YtgfbealjkdhdbaaGreatDoor
/-
  client.query, client.IsQuery.
-/
set_option maxRecDepth 100000
namespace Go.Proofs.YtgfbealjkdhdbaaGreatDoor
open Go Go.Av
def isQ : Except Nat Stm → Bool
  | .ok (.sel _) => true
  | _ => false
def zSel : List AV := [.v (.string ⟨#[]⟩), .v (.bool false), .v (.int .i64 0), .sl [] .nil, .v (.string ⟨#[]⟩), .v (.bool false), .sl [] .nil, .v (.int .i64 0)]
theorem putAt_full {xs ys : List AV} (h : ys.length = xs.length) : putAt xs 0 ys = ys := by simp [putAt, h]
theorem stm_type {x : Stm} {a : AV} (h : stmR x a) : ∃ T c, a = .iface T c ∧ ((∃ y, x = .sel y) ∧ T = 99 ∧ (∃ cs : List AV, cs.length = 8 ∧ c = .agg cs) ∨ (∀ y, x ≠ .sel y) ∧ T ≠ 99) := by
  cases x with
  | create t c => obtain ⟨_, _, rfl⟩ := h; exact ⟨_, _, rfl, .inr ⟨(fun _ h => by cases h), by decide⟩⟩
  | drop t => obtain rfl := h; exact ⟨_, _, rfl, .inr ⟨(fun _ h => by cases h), by decide⟩⟩
  | insert t c => obtain ⟨_, _, rfl⟩ := h; exact ⟨_, _, rfl, .inr ⟨(fun _ h => by cases h), by decide⟩⟩
  | delete t c => obtain ⟨_, _, rfl⟩ := h; exact ⟨_, _, rfl, .inr ⟨(fun _ h => by cases h), by decide⟩⟩
  | update t c d => obtain ⟨_, _, _, _, rfl⟩ := h; exact ⟨_, _, rfl, .inr ⟨(fun _ h => by cases h), by decide⟩⟩
  | sel x => obtain ⟨_, _, _, _, rfl⟩ := h; exact ⟨_, _, rfl, .inl ⟨⟨_, rfl⟩, rfl, _, rfl, rfl⟩⟩
  | tx k => obtain rfl := h; exact ⟨_, _, rfl, .inr ⟨(fun _ h => by cases h), by decide⟩⟩
theorem parseT_err {l : List UInt8} {e : Nat} (h : parseT l = .error e) : e ≠ 0 := by
  unfold parseT at h
  cases hl : lexT l with
  | error e' =>
    rw [hl] at h; cases h
    rcases lexT_err hl with h | h | h <;> omega
  | ok ts =>
    rw [hl] at h
    simp only [parseL] at h
    split at h
    · cases h; decide
    · split at h
      · split at h
        · cases h; decide
        · cases h
      · cases h; decide
theorem query_spec (l : List UInt8) (s : Hp) (hT : Tabs s) :
    AC Tryz.prog 38 [strV l] s fun r s' => s.sub s' ∧ ∃ cs : List AV, cs.length = 8 ∧ r = .tup [.agg cs, .v (.bool (isQ (parseT l)))] := by
  refine AC_run hm prep38 (by simp) ?_
  simp (dsimp := false) (implicitDefEqProofs := false) (disch := first | omega | assumption | (simp only [rL, Nat.reduceAdd]; try omega)) only [↓rA, rZ, List.drop_succ_cons, ne_eq, not_true_eq_false, not_false_eq_true, List.getElem?_cons_zero, List.getElem?_cons_succ, ev, ofConst, ofCell, ↓reduceIte, Nat.reduceEqDiff, Nat.reduceAdd, Nat.reduceSub, Nat.reduceMul, Nat.reduceLeDiff, Nat.reduceLT, Int.reduceNeg, Int.reduceToNat, Int.reduceAdd, Int.reduceSub, Int.reduceMul, Int.reduceLT, Int.reduceLE, Int.reduceEq, Int.reduceNe]
  refine newK_intro fun l2 n2 => ?_
  simp (dsimp := false) (implicitDefEqProofs := false) (disch := first | omega | assumption | (simp only [rL, Nat.reduceAdd]; try omega)) only [↓rA, rZ, List.drop_succ_cons, ne_eq, not_true_eq_false, not_false_eq_true, List.getElem?_cons_zero, List.getElem?_cons_succ, ev, ofConst, ofCell, ↓reduceIte, Nat.reduceEqDiff, Nat.reduceAdd, Nat.reduceSub, Nat.reduceMul, Nat.reduceLeDiff, Nat.reduceLT, Int.reduceNeg, Int.reduceToNat, Int.reduceAdd, Int.reduceSub, Int.reduceMul, Int.reduceLT, Int.reduceLE, Int.reduceEq, Int.reduceNe]
  refine call_intro (Parse_spec l _ (hT.mono (Hp.sub_new Hp.sub_refl n2))) ?_
  rintro r s3 ⟨h3, hr⟩
  have g3 := h3 _ _ (Hp.set_same _ _ _)
  have hs3 : s.sub s3 := Hp.sub_trans (Hp.sub_new Hp.sub_refl n2) h3
  cases hp : parseT l with
  | error e =>
    rw [hp] at hr
    obtain rfl := hr
    have he : ¬ ((e : Nat) : Int) = 0 := by have := parseT_err hp; omega
    simp (dsimp := false) (implicitDefEqProofs := false) (disch := first | omega | assumption | (simp only [rL, Nat.reduceAdd]; try omega)) only [↓rA, rZ, List.drop_succ_cons, ne_eq, not_true_eq_false, not_false_eq_true, List.getElem?_cons_zero, List.getElem?_cons_succ, ev, ofConst, ofCell, ↓reduceIte, Nat.reduceEqDiff, Nat.reduceAdd, Nat.reduceSub, Nat.reduceMul, Nat.reduceLeDiff, Nat.reduceLT, Int.reduceNeg, Int.reduceToNat, Int.reduceAdd, Int.reduceSub, Int.reduceMul, Int.reduceLT, Int.reduceLE, Int.reduceEq, Int.reduceNe, he, Hp.stA_of g3]
    exact ⟨_, Hp.sub_refl, Hp.sub_new hs3 n2, _, rfl, rfl⟩
  | ok x =>
    rw [hp] at hr
    obtain ⟨a, ha, rfl⟩ := hr
    obtain ⟨T, c, rfl, ⟨⟨y, rfl⟩, rfl, cs, hcs, rfl⟩ | ⟨hne, hT2⟩⟩ := stm_type ha
    · simp (dsimp := false) (implicitDefEqProofs := false) (disch := first | omega | assumption | (simp only [rL, Nat.reduceAdd]; try omega)) only [↓rA, rZ, List.drop_succ_cons, ne_eq, not_true_eq_false, not_false_eq_true, List.getElem?_cons_zero, List.getElem?_cons_succ, ev, ofConst, ofCell, ↓reduceIte, Nat.reduceEqDiff, Nat.reduceAdd, Nat.reduceSub, Nat.reduceMul, Nat.reduceLeDiff, Nat.reduceLT, Int.reduceNeg, Int.reduceToNat, Int.reduceAdd, Int.reduceSub, Int.reduceMul, Int.reduceLT, Int.reduceLE, Int.reduceEq, Int.reduceNe, asrtA_yes]
      refine newK_intro fun l4 n4 => ?_
      have d : l2 ≠ l4 := by rintro rfl; rw [n4] at g3; cases g3
      have d' := Ne.symm d
      simp (dsimp := false) (implicitDefEqProofs := false) (disch := first | omega | assumption | (simp only [rL, Nat.reduceAdd]; try omega)) only [↓rA, rZ, List.drop_succ_cons, ne_eq, not_true_eq_false, not_false_eq_true, List.getElem?_cons_zero, List.getElem?_cons_succ, ev, ofConst, ofCell, ↓reduceIte, Nat.reduceEqDiff, Nat.reduceAdd, Nat.reduceSub, Nat.reduceMul, Nat.reduceLeDiff, Nat.reduceLT, Int.reduceNeg, Int.reduceToNat, Int.reduceAdd, Int.reduceSub, Int.reduceMul, Int.reduceLT, Int.reduceLE, Int.reduceEq, Int.reduceNe, Hp.stA_of g3, putAt_full, hcs, Hp.set_ne, d, d']
      have ht : cs.take 8 = cs := List.take_of_length_le (by omega)
      refine ⟨_, Hp.sub_refl, ?_, cs, hcs, by rw [ht, ht]; rfl⟩
      exact Hp.sub_new (Hp.sub_new hs3 (Hp.sub_none hs3 n4)) n2
    · have hq : isQ (.ok x) = false := by
        cases x with
        | sel y => exact absurd rfl (hne y)
        | _ => rfl
      rw [hq]
      simp (dsimp := false) (implicitDefEqProofs := false) (disch := first | omega | assumption | (simp only [rL, Nat.reduceAdd]; try omega)) only [↓rA, rZ, List.drop_succ_cons, ne_eq, not_true_eq_false, not_false_eq_true, List.getElem?_cons_zero, List.getElem?_cons_succ, ev, ofConst, ofCell, ↓reduceIte, Nat.reduceEqDiff, Nat.reduceAdd, Nat.reduceSub, Nat.reduceMul, Nat.reduceLeDiff, Nat.reduceLT, Int.reduceNeg, Int.reduceToNat, Int.reduceAdd, Int.reduceSub, Int.reduceMul, Int.reduceLT, Int.reduceLE, Int.reduceEq, Int.reduceNe, asrtA_no hT2]
      refine newK_intro fun l4 n4 => ?_
      have d : l2 ≠ l4 := by rintro rfl; rw [n4] at g3; cases g3
      have d' := Ne.symm d
      simp (dsimp := false) (implicitDefEqProofs := false) (disch := first | omega | assumption | (simp only [rL, Nat.reduceAdd]; try omega)) only [↓rA, rZ, List.drop_succ_cons, ne_eq, not_true_eq_false, not_false_eq_true, List.getElem?_cons_zero, List.getElem?_cons_succ, ev, ofConst, ofCell, ↓reduceIte, Nat.reduceEqDiff, Nat.reduceAdd, Nat.reduceSub, Nat.reduceMul, Nat.reduceLeDiff, Nat.reduceLT, Int.reduceNeg, Int.reduceToNat, Int.reduceAdd, Int.reduceSub, Int.reduceMul, Int.reduceLT, Int.reduceLE, Int.reduceEq, Int.reduceNe, Hp.stA_of g3, Hp.set_ne, d, d']
      exact ⟨_, Hp.sub_refl, Hp.sub_new (Hp.sub_new hs3 (Hp.sub_none hs3 n4)) n2, _, rfl, rfl⟩
theorem IsQuery_spec (l : List UInt8) (s : Hp) (hT : Tabs s) :
    AC Tryz.prog 17 [strV l] s fun r s' => s.sub s' ∧ r = .v (.bool (isQ (parseT l))) := by
  refine AC_run hm prep17 (by simp) ?_
  simp (dsimp := false) (implicitDefEqProofs := false) (disch := first | omega | assumption | (simp only [rL, Nat.reduceAdd]; try omega)) only [↓rA, rZ, List.drop_succ_cons, ne_eq, not_true_eq_false, not_false_eq_true, List.getElem?_cons_zero, List.getElem?_cons_succ, ev, ofConst, ofCell, ↓reduceIte, Nat.reduceEqDiff, Nat.reduceAdd, Nat.reduceSub, Nat.reduceMul, Nat.reduceLeDiff, Nat.reduceLT, Int.reduceNeg, Int.reduceToNat, Int.reduceAdd, Int.reduceSub, Int.reduceMul, Int.reduceLT, Int.reduceLE, Int.reduceEq, Int.reduceNe]
  refine call_intro (query_spec l s hT) ?_
  rintro _ s2 ⟨h2, cs, hcs, rfl⟩
  simp (dsimp := false) (implicitDefEqProofs := false) (disch := first | omega | assumption | (simp only [rL, Nat.reduceAdd]; try omega)) only [↓rA, rZ, List.drop_succ_cons, ne_eq, not_true_eq_false, not_false_eq_true, List.getElem?_cons_zero, List.getElem?_cons_succ, ev, ofConst, ofCell, ↓reduceIte, Nat.reduceEqDiff, Nat.reduceAdd, Nat.reduceSub, Nat.reduceMul, Nat.reduceLeDiff, Nat.reduceLT, Int.reduceNeg, Int.reduceToNat, Int.reduceAdd, Int.reduceSub, Int.reduceMul, Int.reduceLT, Int.reduceLE, Int.reduceEq, Int.reduceNe]
  refine newK_intro fun l3 n3 => ?_
  simp (dsimp := false) (implicitDefEqProofs := false) (disch := first | omega | assumption | (simp only [rL, Nat.reduceAdd]; try omega)) only [↓rA, rZ, List.drop_succ_cons, ne_eq, not_true_eq_false, not_false_eq_true, List.getElem?_cons_zero, List.getElem?_cons_succ, ev, ofConst, ofCell, ↓reduceIte, Nat.reduceEqDiff, Nat.reduceAdd, Nat.reduceSub, Nat.reduceMul, Nat.reduceLeDiff, Nat.reduceLT, Int.reduceNeg, Int.reduceToNat, Int.reduceAdd, Int.reduceSub, Int.reduceMul, Int.reduceLT, Int.reduceLE, Int.reduceEq, Int.reduceNe, hcs]
  exact ⟨_, Hp.sub_refl, Hp.sub_new h2 (Hp.sub_none h2 n3)⟩
theorem q1 : isQ (parseT [115, 101, 108, 101, 99, 116, 32, 42, 32, 102, 114, 111, 109, 32, 116]) = true := by kernel_rfl
theorem q2 : isQ (parseT [98, 101, 103, 105, 110]) = false := by kernel_rfl
theorem q3 : isQ (parseT [120]) = false := by kernel_rfl
end Go.Proofs.YtgfbealjkdhdbaaGreatDoor
/-
  strings.Builder's methods.
-/
set_option maxRecDepth 100000
namespace Go.Proofs.YtgfbealjkdhdbaaGreatDoor
open Go Go.Av
def BD (l : Nat) (bs : List UInt8) (s0 s : Hp) : Prop :=
  s0.sub s ∧ s0 l = none ∧
    ((bs = [] ∧ (s l = some (.tc 56 [.v (.pointer none), .sl [] .nil]) ∨ s l = some (.tc 56 [.ptr l 0, .sl [] .nil]))) ∨
     (0 < bs.length ∧ ∃ g cap cs, g ≠ l ∧ s0 g = none ∧ s l = some (.tc 56 [.ptr l 0, .mb g bs.length cap 1]) ∧ s g = some (.tc 5 cs) ∧ cs.length = cap ∧ cs.take bs.length = bs.map byteAV ∧ bs.length ≤ cap ∧ cap ≤ maxLen))
theorem BD.new {l l5 : Nat} {bs : List UInt8} {s0 s : Hp} {ob : Ob} (h : BD l bs s0 s) (hl : s l5 = none) : BD l bs (s0.set l5 ob) (s.set l5 ob) := by
  obtain ⟨h1, h2, h3⟩ := h
  have hl5 : l ≠ l5 := by
    rintro rfl
    rcases h3 with ⟨_, h | h⟩ | ⟨_, g, cap, cs, _, _, h, _⟩ <;> rw [hl] at h <;> cases h
  refine ⟨Hp.sub_set h1, by rw [Hp.set_ne _ _ hl5]; exact h2, ?_⟩
  rcases h3 with ⟨hb, h⟩ | ⟨hb, g, cap, cs, hg, g1, g2, g3, g4⟩
  · exact .inl ⟨hb, by rw [Hp.set_ne _ _ hl5]; exact h⟩
  · have hg5 : g ≠ l5 := by rintro rfl; rw [hl] at g3; cases g3
    exact .inr ⟨hb, g, cap, cs, hg, by rw [Hp.set_ne _ _ hg5]; exact g1, by rw [Hp.set_ne _ _ hl5]; exact g2, by rw [Hp.set_ne _ _ hg5]; exact g3, g4⟩
theorem BD.base {l : Nat} {bs : List UInt8} {s1 s0 s : Hp} (h : BD l bs s0 s) (hs : s1.sub s0) : BD l bs s1 s := by
  obtain ⟨h1, h2, h3⟩ := h
  refine ⟨Hp.sub_trans hs h1, Hp.sub_none hs h2, ?_⟩
  rcases h3 with h | ⟨hb, g, cap, cs, hg, g1, g2⟩
  · exact .inl h
  · exact .inr ⟨hb, g, cap, cs, hg, Hp.sub_none hs g1, g2⟩
def BU (l : Nat) (bs : List UInt8) (s0 s : Hp) : Prop :=
  s0.sub s ∧ s0 l = none ∧
    ((bs = [] ∧ s l = some (.tc 56 [.ptr l 0, .sl [] .nil])) ∨
     (0 < bs.length ∧ ∃ g cap cs, g ≠ l ∧ s0 g = none ∧ s l = some (.tc 56 [.ptr l 0, .mb g bs.length cap 1]) ∧ s g = some (.tc 5 cs) ∧ cs.length = cap ∧ cs.take bs.length = bs.map byteAV ∧ bs.length ≤ cap ∧ cap ≤ maxLen))
theorem BU.bd {l : Nat} {bs : List UInt8} {s0 s : Hp} (h : BU l bs s0 s) : BD l bs s0 s := by
  obtain ⟨h1, h2, h3⟩ := h
  exact ⟨h1, h2, h3.imp (fun h => ⟨h.1, .inr h.2⟩) id⟩
theorem copyCheck_spec (l : Nat) (bs : List UInt8) (s0 s : Hp) (h : BD l bs s0 s) :
    AC Tryz.prog 40 [.ptr l 0] s fun _ s' => BU l bs s0 s' := by
  obtain ⟨h1, h2, h3⟩ := h
  refine AC_run hm prep40 (by simp) ?_
  rcases h3 with ⟨rfl, hl | hl⟩ | ⟨hb, g, cap, cs, hg, g1, g2, g3⟩
  · simp (dsimp := false) (implicitDefEqProofs := false) (disch := first | omega | assumption | (simp only [rL, Nat.reduceAdd]; try omega)) only [↓rD, rU, ev, ofConst, ofCell, ↓reduceIte, Nat.reduceEqDiff, Nat.reduceAdd, Nat.reduceSub, Nat.reduceMul, Nat.reduceLeDiff, Nat.reduceLT, Int.reduceNeg, Int.reduceToNat, Int.reduceAdd, Int.reduceSub, Int.reduceMul, Int.reduceLT, Int.reduceLE, Int.reduceEq, rX, List.drop_succ_cons, ↓rF, rG, ne_eq, not_true_eq_false, not_false_eq_true, Int.reduceNe, List.getElem?_cons_zero, List.getElem?_cons_succ, ↓rK, rM, Hp.read_ofT hl, mkv_one]
    refine toU_ptr (Hp.read_ofT hl) (by simp) ?_
    simp (dsimp := false) (implicitDefEqProofs := false) (disch := first | omega | assumption | (simp only [rL, Nat.reduceAdd]; try omega)) only [↓rD, rU, ev, ofConst, ofCell, ↓reduceIte, Nat.reduceEqDiff, Nat.reduceAdd, Nat.reduceSub, Nat.reduceMul, Nat.reduceLeDiff, Nat.reduceLT, Int.reduceNeg, Int.reduceToNat, Int.reduceAdd, Int.reduceSub, Int.reduceMul, Int.reduceLT, Int.reduceLE, Int.reduceEq, rX, List.drop_succ_cons, ↓rF, rG, ne_eq, not_true_eq_false, not_false_eq_true, Int.reduceNe, List.getElem?_cons_zero, List.getElem?_cons_succ, ↓rK, rM]
    refine frU_ptr hl (by simp) ?_
    simp (dsimp := false) (implicitDefEqProofs := false) (disch := first | omega | assumption | (simp only [rL, Nat.reduceAdd]; try omega)) only [↓rD, rU, ev, ofConst, ofCell, ↓reduceIte, Nat.reduceEqDiff, Nat.reduceAdd, Nat.reduceSub, Nat.reduceMul, Nat.reduceLeDiff, Nat.reduceLT, Int.reduceNeg, Int.reduceToNat, Int.reduceAdd, Int.reduceSub, Int.reduceMul, Int.reduceLT, Int.reduceLE, Int.reduceEq, rX, List.drop_succ_cons, ↓rF, rG, ne_eq, not_true_eq_false, not_false_eq_true, Int.reduceNe, List.getElem?_cons_zero, List.getElem?_cons_succ, ↓rK, rM]
    refine storeX_t hl (by simp) (by simp) ?_
    simp (dsimp := false) (implicitDefEqProofs := false) (disch := first | omega | assumption | (simp only [rL, Nat.reduceAdd]; try omega)) only [↓rD, rU, ev, ofConst, ofCell, ↓reduceIte, Nat.reduceEqDiff, Nat.reduceAdd, Nat.reduceSub, Nat.reduceMul, Nat.reduceLeDiff, Nat.reduceLT, Int.reduceNeg, Int.reduceToNat, Int.reduceAdd, Int.reduceSub, Int.reduceMul, Int.reduceLT, Int.reduceLE, Int.reduceEq, rX, List.drop_succ_cons, ↓rF, rG, ne_eq, not_true_eq_false, not_false_eq_true, Int.reduceNe, List.getElem?_cons_zero, List.getElem?_cons_succ, ↓rK, rM]
    refine ⟨_, Hp.sub_refl, Hp.sub_new h1 h2, h2, .inl ⟨rfl, ?_⟩⟩
    rw [Hp.set_same]; rfl
  · have hc : isCells s l = true := by simp [isCells, hl]
    simp (dsimp := false) (implicitDefEqProofs := false) (disch := first | omega | assumption | (simp only [rL, Nat.reduceAdd]; try omega)) only [↓rD, rU, ev, ofConst, ofCell, ↓reduceIte, Nat.reduceEqDiff, Nat.reduceAdd, Nat.reduceSub, Nat.reduceMul, Nat.reduceLeDiff, Nat.reduceLT, Int.reduceNeg, Int.reduceToNat, Int.reduceAdd, Int.reduceSub, Int.reduceMul, Int.reduceLT, Int.reduceLE, Int.reduceEq, rX, List.drop_succ_cons, ↓rF, rG, ne_eq, not_true_eq_false, not_false_eq_true, Int.reduceNe, List.getElem?_cons_zero, List.getElem?_cons_succ, ↓rK, rM, Hp.read_ofT hl, mkv_one, eqppA_same hc]
    exact ⟨_, Hp.sub_refl, h1, h2, .inl ⟨rfl, hl⟩⟩
  · have hc : isCells s l = true := by simp [isCells, g2]
    simp (dsimp := false) (implicitDefEqProofs := false) (disch := first | omega | assumption | (simp only [rL, Nat.reduceAdd]; try omega)) only [↓rD, rU, ev, ofConst, ofCell, ↓reduceIte, Nat.reduceEqDiff, Nat.reduceAdd, Nat.reduceSub, Nat.reduceMul, Nat.reduceLeDiff, Nat.reduceLT, Int.reduceNeg, Int.reduceToNat, Int.reduceAdd, Int.reduceSub, Int.reduceMul, Int.reduceLT, Int.reduceLE, Int.reduceEq, rX, List.drop_succ_cons, ↓rF, rG, ne_eq, not_true_eq_false, not_false_eq_true, Int.reduceNe, List.getElem?_cons_zero, List.getElem?_cons_succ, ↓rK, rM, Hp.read_ofT g2, mkv_one, eqppA_same hc]
    exact ⟨_, Hp.sub_refl, h1, h2, .inr ⟨hb, g, cap, cs, hg, g1, g2, g3⟩⟩
theorem appT_intro {l : Nat} {bs : List UInt8} {s0 s : Hp} {y : AV} {m : Nat} {ys : List UInt8} {C : AV → Hp → Prop} {d : Dep C} (h : BU l bs s0 s) (hs : srcS s 1 y = some (m, ys.map byteAV)) (hm : m = ys.length) (hle : bs.length + ys.length ≤ 1000000000)
    {x : AV} (hx : s l = some (.tc 56 [.ptr l 0, x])) (hC : ∀ x' s', x'.cells = [x'] → s' l = some (.tc 56 [.ptr l 0, x]) → BU l (bs ++ ys) s0 (s'.set l (.tc 56 [.ptr l 0, x'])) → C x' s') :
    appTK 5 s x y (hid2 C d) := by
  obtain ⟨h1, h2, h3⟩ := h
  unfold appTK
  rw [hs]
  subst hm
  simp only [hid2]
  rcases h3 with ⟨rfl, hl⟩ | ⟨hb, g, cap, cs, hg, g1, g2, g3, g4, g5, g6, g7⟩
  · rw [hl] at hx
    obtain rfl : AV.sl [] .nil = x := by simpa using hx
    refine ⟨rfl, .inl rfl, by simp at hle; omega, ?_⟩
    split
    · rename_i h0
      obtain rfl : ys = [] := List.eq_nil_of_length_eq_zero h0
      refine hC _ _ rfl hl ?_
      refine ⟨Hp.sub_new h1 h2, h2, .inl ⟨rfl, Hp.set_same _ _ _⟩⟩
    · intro g cap sp hg hc hcm hsp
      have hgl : g ≠ l := by rintro rfl; rw [hg] at hl; cases hl
      refine hC _ _ rfl (by rw [Hp.set_ne _ _ (Ne.symm hgl)]; exact hl) ?_
      refine ⟨Hp.sub_new (Hp.sub_new h1 (Hp.sub_none h1 hg)) h2, h2, .inr ⟨by simp; omega, g, cap, ys.map byteAV ++ sp, hgl, Hp.sub_none h1 hg, by rw [Hp.set_same]; simp, by rw [Hp.set_ne _ _ hgl, Hp.set_same], by simp; omega, by simp, by simp; omega, hcm⟩⟩
  · rw [g2] at hx
    obtain rfl : AV.mb g bs.length cap 1 = x := by simpa using hx
    have hgl := hg
    simp only [g3]
    refine ⟨trivial, trivial, by omega, by omega, ?_⟩
    split
    · rename_i hroom
      refine hC _ _ rfl (by rw [Hp.set_ne _ _ (Ne.symm hgl)]; exact g2) ?_
      refine ⟨Hp.sub_new (Hp.sub_new h1 g1) h2, h2, .inr ⟨by simp; omega, g, cap, putAt cs (bs.length * 1) (ys.map byteAV), hgl, g1, by rw [Hp.set_same]; simp, by rw [Hp.set_ne _ _ hgl, Hp.set_same], ?_, ?_, by simp; omega, g7⟩⟩
      · rw [putAt_length _ _ _ (by simp; omega), g4]
      · have e1 : (cs.take (bs.length * 1) ++ ys.map byteAV).length = (bs ++ ys).length := by simp; omega
        rw [putAt, ← e1, List.take_left, Nat.mul_one, g5, List.map_append]
    · intro g' cap' sp hg' hc hcm hsp
      have hgl' : g' ≠ l := by rintro rfl; rw [hg'] at g2; cases g2
      refine hC _ _ rfl (by rw [Hp.set_ne _ _ (Ne.symm hgl')]; exact g2) ?_
      refine ⟨Hp.sub_new (Hp.sub_new h1 (Hp.sub_none h1 hg')) h2, h2, .inr ⟨by simp; omega, g', cap', cs.take (bs.length * 1) ++ ys.map byteAV ++ sp, hgl', Hp.sub_none h1 hg', by rw [Hp.set_same]; simp, by rw [Hp.set_ne _ _ hgl', Hp.set_same], ?_, ?_, by simp; omega, hcm⟩⟩
      · simp; omega
      · have e1 : (cs.take (bs.length * 1) ++ ys.map byteAV).length = (bs ++ ys).length := by simp; omega
        rw [← e1, List.take_left, Nat.mul_one, g5, List.map_append]
theorem BU.mono {l : Nat} {bs : List UInt8} {s0 s s2 : Hp} (h : BU l bs s0 s) (hs : s.sub s2) : BU l bs s0 s2 := by
  obtain ⟨h1, h2, h3⟩ := h
  refine ⟨Hp.sub_trans h1 hs, h2, ?_⟩
  rcases h3 with ⟨hb, h⟩ | ⟨hb, g, cap, cs, hg, g1, g2, g3, g4⟩
  · exact .inl ⟨hb, hs _ _ h⟩
  · exact .inr ⟨hb, g, cap, cs, hg, g1, hs _ _ g2, hs _ _ g3, g4⟩
theorem BU.cell {l : Nat} {bs : List UInt8} {s0 s : Hp} (h : BU l bs s0 s) : ∃ x, s l = some (.tc 56 [.ptr l 0, x]) := by
  obtain ⟨_, _, h3⟩ := h
  rcases h3 with ⟨_, h⟩ | ⟨_, g, cap, cs, _, _, h, _⟩
  · exact ⟨_, h⟩
  · exact ⟨_, h⟩
theorem writeByte_spec (l : Nat) (bs : List UInt8) (c : UInt8) (s0 s : Hp) (h : BD l bs s0 s) (hle : bs.length + 1 ≤ 1000000000) :
    AC Tryz.prog 20 [.ptr l 0, .v (.int .u8 c.toNat)] s fun _ s' => BD l (bs ++ [c]) s0 s' := by
  refine AC_run hm prep20 (by simp) ?_
  simp (dsimp := false) (implicitDefEqProofs := false) (disch := first | omega | assumption | (simp only [rL, Nat.reduceAdd]; try omega)) only [↓rD, rU, ev, ofConst, ofCell, ↓reduceIte, Nat.reduceEqDiff, Nat.reduceAdd, Nat.reduceSub, Nat.reduceMul, Nat.reduceLeDiff, Nat.reduceLT, Int.reduceNeg, Int.reduceToNat, Int.reduceAdd, Int.reduceSub, Int.reduceMul, Int.reduceLT, Int.reduceLE, Int.reduceEq, rX, List.drop_succ_cons, ↓rF, rG, ne_eq, not_true_eq_false, not_false_eq_true, Int.reduceNe, List.getElem?_cons_zero, List.getElem?_cons_succ, ↓rK, rM]
  refine call_intro (copyCheck_spec l bs s0 s h) ?_
  intro r s1 h1
  obtain ⟨x, hx⟩ := h1.cell
  simp (dsimp := false) (implicitDefEqProofs := false) (disch := first | omega | assumption | (simp only [rL, Nat.reduceAdd]; try omega)) only [↓rD, rU, ev, ofConst, ofCell, ↓reduceIte, Nat.reduceEqDiff, Nat.reduceAdd, Nat.reduceSub, Nat.reduceMul, Nat.reduceLeDiff, Nat.reduceLT, Int.reduceNeg, Int.reduceToNat, Int.reduceAdd, Int.reduceSub, Int.reduceMul, Int.reduceLT, Int.reduceLE, Int.reduceEq, rX, List.drop_succ_cons, ↓rF, rG, ne_eq, not_true_eq_false, not_false_eq_true, Int.reduceNe, List.getElem?_cons_zero, List.getElem?_cons_succ, ↓rK, rM, Hp.read_ofT hx, mkv_one]
  refine bsl_byte Hp.sub_refl fun o1 s2 h2 => ?_
  have hx2 := h2.sub _ _ hx
  simp (dsimp := false) (implicitDefEqProofs := false) (disch := first | omega | assumption | (simp only [rL, Nat.reduceAdd]; try omega)) only [↓rD, rU, ev, ofConst, ofCell, ↓reduceIte, Nat.reduceEqDiff, Nat.reduceAdd, Nat.reduceSub, Nat.reduceMul, Nat.reduceLeDiff, Nat.reduceLT, Int.reduceNeg, Int.reduceToNat, Int.reduceAdd, Int.reduceSub, Int.reduceMul, Int.reduceLT, Int.reduceLE, Int.reduceEq, rX, List.drop_succ_cons, ↓rF, rG, ne_eq, not_true_eq_false, not_false_eq_true, Int.reduceNe, List.getElem?_cons_zero, List.getElem?_cons_succ, ↓rK, rM]
  refine appT_intro (ys := [c]) (h1.mono h2.sub) (srcS_of (srcF_bytes (bs := [c]))) rfl (by simpa using hle) hx2 fun x' s3 hc hx3 h3 => ?_
  simp (dsimp := false) (implicitDefEqProofs := false) (disch := first | omega | assumption | (simp only [rL, Nat.reduceAdd]; try omega)) only [↓rD, rU, ev, ofConst, ofCell, ↓reduceIte, Nat.reduceEqDiff, Nat.reduceAdd, Nat.reduceSub, Nat.reduceMul, Nat.reduceLeDiff, Nat.reduceLT, Int.reduceNeg, Int.reduceToNat, Int.reduceAdd, Int.reduceSub, Int.reduceMul, Int.reduceLT, Int.reduceLE, Int.reduceEq, rX, List.drop_succ_cons, ↓rF, rG, ne_eq, not_true_eq_false, not_false_eq_true, Int.reduceNe, List.getElem?_cons_zero, List.getElem?_cons_succ, ↓rK, rM]
  refine storeX_t hx3 (by rw [hc]; rfl) (by simp) ?_
  rw [hc]
  simp (dsimp := false) (implicitDefEqProofs := false) (disch := first | omega | assumption | (simp only [rL, Nat.reduceAdd]; try omega)) only [↓rD, rU, ev, ofConst, ofCell, ↓reduceIte, Nat.reduceEqDiff, Nat.reduceAdd, Nat.reduceSub, Nat.reduceMul, Nat.reduceLeDiff, Nat.reduceLT, Int.reduceNeg, Int.reduceToNat, Int.reduceAdd, Int.reduceSub, Int.reduceMul, Int.reduceLT, Int.reduceLE, Int.reduceEq, rX, List.drop_succ_cons, ↓rF, rG, ne_eq, not_true_eq_false, not_false_eq_true, Int.reduceNe, List.getElem?_cons_zero, List.getElem?_cons_succ, ↓rK, rM]
  exact ⟨_, Hp.sub_refl, h3.bd⟩
theorem writeString_spec (l : Nat) (bs cs : List UInt8) (s0 s : Hp) (h : BD l bs s0 s) (hle : bs.length + cs.length ≤ 1000000000) :
    AC Tryz.prog 19 [.ptr l 0, strV cs] s fun _ s' => BD l (bs ++ cs) s0 s' := by
  refine AC_run hm prep19 (by simp) ?_
  simp (dsimp := false) (implicitDefEqProofs := false) (disch := first | omega | assumption | (simp only [rL, Nat.reduceAdd]; try omega)) only [↓rD, rU, ev, ofConst, ofCell, ↓reduceIte, Nat.reduceEqDiff, Nat.reduceAdd, Nat.reduceSub, Nat.reduceMul, Nat.reduceLeDiff, Nat.reduceLT, Int.reduceNeg, Int.reduceToNat, Int.reduceAdd, Int.reduceSub, Int.reduceMul, Int.reduceLT, Int.reduceLE, Int.reduceEq, rX, List.drop_succ_cons, ↓rF, rG, ne_eq, not_true_eq_false, not_false_eq_true, Int.reduceNe, List.getElem?_cons_zero, List.getElem?_cons_succ, ↓rK, rM, strV]
  refine call_intro (copyCheck_spec l bs s0 s h) ?_
  intro r s1 h1
  obtain ⟨x, hx⟩ := h1.cell
  simp (dsimp := false) (implicitDefEqProofs := false) (disch := first | omega | assumption | (simp only [rL, Nat.reduceAdd]; try omega)) only [↓rD, rU, ev, ofConst, ofCell, ↓reduceIte, Nat.reduceEqDiff, Nat.reduceAdd, Nat.reduceSub, Nat.reduceMul, Nat.reduceLeDiff, Nat.reduceLT, Int.reduceNeg, Int.reduceToNat, Int.reduceAdd, Int.reduceSub, Int.reduceMul, Int.reduceLT, Int.reduceLE, Int.reduceEq, rX, List.drop_succ_cons, ↓rF, rG, ne_eq, not_true_eq_false, not_false_eq_true, Int.reduceNe, List.getElem?_cons_zero, List.getElem?_cons_succ, ↓rK, rM, Hp.read_ofT hx, mkv_one, strV]
  refine appT_intro (ys := cs) h1 (m := cs.length) (by simp [srcS, size_str]) rfl hle hx fun x' s3 hc hx3 h3 => ?_
  simp (dsimp := false) (implicitDefEqProofs := false) (disch := first | omega | assumption | (simp only [rL, Nat.reduceAdd]; try omega)) only [↓rD, rU, ev, ofConst, ofCell, ↓reduceIte, Nat.reduceEqDiff, Nat.reduceAdd, Nat.reduceSub, Nat.reduceMul, Nat.reduceLeDiff, Nat.reduceLT, Int.reduceNeg, Int.reduceToNat, Int.reduceAdd, Int.reduceSub, Int.reduceMul, Int.reduceLT, Int.reduceLE, Int.reduceEq, rX, List.drop_succ_cons, ↓rF, rG, ne_eq, not_true_eq_false, not_false_eq_true, Int.reduceNe, List.getElem?_cons_zero, List.getElem?_cons_succ, ↓rK, rM]
  refine storeX_t hx3 (by rw [hc]; rfl) (by simp) ?_
  rw [hc]
  simp (dsimp := false) (implicitDefEqProofs := false) (disch := first | omega | assumption | (simp only [rL, Nat.reduceAdd]; try omega)) only [↓rD, rU, ev, ofConst, ofCell, ↓reduceIte, Nat.reduceEqDiff, Nat.reduceAdd, Nat.reduceSub, Nat.reduceMul, Nat.reduceLeDiff, Nat.reduceLT, Int.reduceNeg, Int.reduceToNat, Int.reduceAdd, Int.reduceSub, Int.reduceMul, Int.reduceLT, Int.reduceLE, Int.reduceEq, rX, List.drop_succ_cons, ↓rF, rG, ne_eq, not_true_eq_false, not_false_eq_true, Int.reduceNe, List.getElem?_cons_zero, List.getElem?_cons_succ, ↓rK, rM, strV]
  exact ⟨_, Hp.sub_refl, h3.bd⟩
theorem builderString_spec (l : Nat) (bs : List UInt8) (s0 s : Hp) (h : BD l bs s0 s) :
    AC Tryz.prog 22 [.ptr l 0] s fun r s' => s0.sub s' ∧ r = strV bs := by
  obtain ⟨h1, h2, h3⟩ := h
  refine AC_run hm prep22 (by simp) ?_
  rcases h3 with ⟨rfl, hl | hl⟩ | ⟨hb, g, cap, cs, hg, g1, g2, g3, g4, g5, g6, g7⟩
  · simp (dsimp := false) (implicitDefEqProofs := false) (disch := first | omega | assumption | (simp only [rL, Nat.reduceAdd]; try omega)) only [↓rD, rU, ev, ofConst, ofCell, ↓reduceIte, Nat.reduceEqDiff, Nat.reduceAdd, Nat.reduceSub, Nat.reduceMul, Nat.reduceLeDiff, Nat.reduceLT, Int.reduceNeg, Int.reduceToNat, Int.reduceAdd, Int.reduceSub, Int.reduceMul, Int.reduceLT, Int.reduceLE, Int.reduceEq, rX, List.drop_succ_cons, ↓rF, rG, ne_eq, not_true_eq_false, not_false_eq_true, Int.reduceNe, List.getElem?_cons_zero, List.getElem?_cons_succ, ↓rK, rM, Hp.read_ofT hl, mkv_one]
    refine ustr_nil ?_
    simp (dsimp := false) (implicitDefEqProofs := false) (disch := first | omega | assumption | (simp only [rL, Nat.reduceAdd]; try omega)) only [↓rD, rU, ev, ofConst, ofCell, ↓reduceIte, Nat.reduceEqDiff, Nat.reduceAdd, Nat.reduceSub, Nat.reduceMul, Nat.reduceLeDiff, Nat.reduceLT, Int.reduceNeg, Int.reduceToNat, Int.reduceAdd, Int.reduceSub, Int.reduceMul, Int.reduceLT, Int.reduceLE, Int.reduceEq, rX, List.drop_succ_cons, ↓rF, rG, ne_eq, not_true_eq_false, not_false_eq_true, Int.reduceNe, List.getElem?_cons_zero, List.getElem?_cons_succ, ↓rK, rM]
    exact ⟨_, Hp.sub_refl, h1, rfl⟩
  · simp (dsimp := false) (implicitDefEqProofs := false) (disch := first | omega | assumption | (simp only [rL, Nat.reduceAdd]; try omega)) only [↓rD, rU, ev, ofConst, ofCell, ↓reduceIte, Nat.reduceEqDiff, Nat.reduceAdd, Nat.reduceSub, Nat.reduceMul, Nat.reduceLeDiff, Nat.reduceLT, Int.reduceNeg, Int.reduceToNat, Int.reduceAdd, Int.reduceSub, Int.reduceMul, Int.reduceLT, Int.reduceLE, Int.reduceEq, rX, List.drop_succ_cons, ↓rF, rG, ne_eq, not_true_eq_false, not_false_eq_true, Int.reduceNe, List.getElem?_cons_zero, List.getElem?_cons_succ, ↓rK, rM, Hp.read_ofT hl, mkv_one]
    refine ustr_nil ?_
    simp (dsimp := false) (implicitDefEqProofs := false) (disch := first | omega | assumption | (simp only [rL, Nat.reduceAdd]; try omega)) only [↓rD, rU, ev, ofConst, ofCell, ↓reduceIte, Nat.reduceEqDiff, Nat.reduceAdd, Nat.reduceSub, Nat.reduceMul, Nat.reduceLeDiff, Nat.reduceLT, Int.reduceNeg, Int.reduceToNat, Int.reduceAdd, Int.reduceSub, Int.reduceMul, Int.reduceLT, Int.reduceLE, Int.reduceEq, rX, List.drop_succ_cons, ↓rF, rG, ne_eq, not_true_eq_false, not_false_eq_true, Int.reduceNe, List.getElem?_cons_zero, List.getElem?_cons_succ, ↓rK, rM]
    exact ⟨_, Hp.sub_refl, h1, rfl⟩
  · simp (dsimp := false) (implicitDefEqProofs := false) (disch := first | omega | assumption | (simp only [rL, Nat.reduceAdd]; try omega)) only [↓rD, rU, ev, ofConst, ofCell, ↓reduceIte, Nat.reduceEqDiff, Nat.reduceAdd, Nat.reduceSub, Nat.reduceMul, Nat.reduceLeDiff, Nat.reduceLT, Int.reduceNeg, Int.reduceToNat, Int.reduceAdd, Int.reduceSub, Int.reduceMul, Int.reduceLT, Int.reduceLE, Int.reduceEq, rX, List.drop_succ_cons, ↓rF, rG, ne_eq, not_true_eq_false, not_false_eq_true, Int.reduceNe, List.getElem?_cons_zero, List.getElem?_cons_succ, ↓rK, rM, Hp.read_ofT g2, mkv_one]
    refine ustr_some g3 hb (by omega) (by unfold maxLen at g7; omega) g5 ?_
    simp (dsimp := false) (implicitDefEqProofs := false) (disch := first | omega | assumption | (simp only [rL, Nat.reduceAdd]; try omega)) only [↓rD, rU, ev, ofConst, ofCell, ↓reduceIte, Nat.reduceEqDiff, Nat.reduceAdd, Nat.reduceSub, Nat.reduceMul, Nat.reduceLeDiff, Nat.reduceLT, Int.reduceNeg, Int.reduceToNat, Int.reduceAdd, Int.reduceSub, Int.reduceMul, Int.reduceLT, Int.reduceLE, Int.reduceEq, rX, List.drop_succ_cons, ↓rF, rG, ne_eq, not_true_eq_false, not_false_eq_true, Int.reduceNe, List.getElem?_cons_zero, List.getElem?_cons_succ, ↓rK, rM]
    refine ⟨_, Hp.sub_refl, fun l' o ho => ?_, rfl⟩
    have hne : l' ≠ g := by rintro rfl; rw [g1] at ho; cases ho
    rw [Hp.del_ne _ hne]; exact h1 _ _ ho
end Go.Proofs.YtgfbealjkdhdbaaGreatDoor
/-
  client.Text.
-/
set_option maxRecDepth 100000
namespace Go.Proofs.YtgfbealjkdhdbaaGreatDoor
open Go Go.Av
theorem Itoa_spec (n : Int) (h0 : -9223372036854775808 ≤ n) (h1 : n ≤ 9223372036854775807) (s : Hp) (hT : Tabs s) :
    AC Tryz.prog 18 [.v (.int .i64 n)] s fun r s' => s' = s ∧ r = strV (Lib.itoa n) := by
  intro vs w H hv hh
  obtain rfl : vs = #[.int .i64 n] := RVA.vals (xs := [.int .i64 n]) hv
  refine (Tryz.strconv_Itoa n h0 h1 w (pow_at hh hT)).mono ?_
  rintro e w' ⟨rfl, k, os, rfl⟩
  exact ⟨_, _, H, s, rfl, Step.below hh (below_grow k os), .v _ rfl, rfl, rfl⟩
theorem itoaS_le (v : Int) : (itoaS v).length ≤ 21 := by
  unfold itoaS
  have h1 := decF_len 20 v.natAbs
  have h2 := decF_len 20 v.toNat
  split
  · simp; omega
  · omega
/-! ### plain -/
def joinW (sep : List UInt8) : List (List UInt8) → List UInt8
  | [] => []
  | x :: r => x ++ r.flatMap fun y => sep ++ y
theorem joinW_snoc (sep : List UInt8) (a : List (List UInt8)) (x : List UInt8) : joinW sep (a ++ [x]) = (if a = [] then [] else joinW sep a ++ sep) ++ x := by
  cases a with
  | nil => simp [joinW]
  | cons y r => simp [joinW]
theorem flat_len (sep : List UInt8) (M : Nat) : ∀ l : List (List UInt8), (∀ x ∈ l, x.length ≤ M) → (l.flatMap fun y => sep ++ y).length ≤ l.length * (M + sep.length)
  | [], _ => by simp
  | x :: r, h => by
    have h1 := h x (by simp)
    have h2 := flat_len sep M r fun y hy => h y (by simp [hy])
    rw [List.flatMap_cons, List.length_append, List.length_append, List.length_cons, Nat.add_mul]; omega
theorem joinW_len (sep : List UInt8) (M : Nat) (l : List (List UInt8)) (h : ∀ x ∈ l, x.length ≤ M) : (joinW sep l).length ≤ l.length * (M + sep.length) := by
  cases l with
  | nil => simp [joinW]
  | cons x r =>
    have h1 := h x (by simp)
    have h2 := flat_len sep M r fun y hy => h y (by simp [hy])
    rw [joinW, List.length_append, List.length_cons, Nat.add_mul]; omega
def rowT (r : List Int) : List UInt8 := joinW [32] (r.map itoaS)
def textB (rows : List (List Int)) : List UInt8 := joinW [59, 32] (rows.map rowT)
structure RowsOk (rows : List (List Int)) : Prop where
  n : rows.length ≤ 100
  r : ∀ r ∈ rows, r.length ≤ 50 ∧ ∀ v ∈ r, -9223372036854775808 ≤ v ∧ v ≤ 9223372036854775807
theorem rowT_len {r : List Int} (h : r.length ≤ 50) : (rowT r).length ≤ 1100 := by
  have := joinW_len [32] 21 (r.map itoaS) (by intro x hx; obtain ⟨v, _, rfl⟩ := List.mem_map.1 hx; exact itoaS_le v)
  simp only [List.length_map, List.length_singleton] at this
  unfold rowT; omega
def preW (sep : List UInt8) (l : List (List UInt8)) (i : Nat) : List UInt8 := if i = 0 then [] else joinW sep (l.take i) ++ sep
theorem joinW_step {sep : List UInt8} {l : List (List UInt8)} {i : Nat} {x : List UInt8} (h : l[i]? = some x) : joinW sep (l.take (i + 1)) = preW sep l i ++ x := by
  have hi : i < l.length := (List.getElem?_eq_some_iff.1 h).1
  have e : l.take (i + 1) = l.take i ++ [x] := by rw [List.take_succ, h]; rfl
  rw [e, joinW_snoc, preW]
  by_cases h0 : i = 0
  · subst h0; simp
  · have : ¬ l.take i = [] := by
      intro h'; have := congrArg List.length h'; simp only [List.length_take, List.length_nil] at this; omega
    rw [if_neg this, if_neg h0]
theorem preW_len {sep : List UInt8} {l : List (List UInt8)} {i M : Nat} (h : ∀ x ∈ l, x.length ≤ M) (hi : i ≤ l.length) : (preW sep l i).length ≤ i * (M + sep.length) + sep.length := by
  unfold preW; split
  · simp
  · have := joinW_len sep M (l.take i) fun x hx => h x (List.mem_of_mem_take hx)
    rw [List.length_take, Nat.min_eq_left hi] at this
    rw [List.length_append]; omega
theorem AllV.get {α : Type} {V : α → AV → Prop} : ∀ {xs : List α} {av : List AV} {i : Nat} {x : α}, AllV V xs av → xs[i]? = some x → ∃ a, av[i]? = some a ∧ V x a
  | [], [], _, _, _, h => by simp at h
  | x :: r, a :: q, 0, y, h, hi => by
    simp only [List.getElem?_cons_zero, Option.some.injEq] at hi; subst hi
    exact ⟨a, rfl, h.1⟩
  | x :: r, a :: q, i + 1, y, h, hi => by
    rw [List.getElem?_cons_succ] at hi
    obtain ⟨b, h1, h2⟩ := AllV.get h.2 hi
    exact ⟨b, by rw [List.getElem?_cons_succ]; exact h1, h2⟩
  | [], _ :: _, _, _, h, _ => h.elim
  | _ :: _, [], _, _, h, _ => h.elim
theorem iaSA_row {rows : List (List Int)} {av : List AV} {o : Own} {i : Nat} {r : List Int} (hA : AllV rowR rows av) (hi : rows[i]? = some r) : ∃ o2, iaSA 1 (.sl av o) (.v (.int .i64 (i : Int))) = some (.rptr [.sl (intsV r) o2]) := by
  obtain ⟨a, h1, ⟨av2, o2, h2, rfl⟩⟩ := hA.get hi
  refine ⟨o2, ?_⟩
  have h0 : (0 : Int) ≤ (i : Int) := by omega
  simp only [iaSA, h0, if_true, Int.toNat_natCast, h1]
  rw [elA_some (e := .sl av2 o2) (k := 1) rfl, AllV_int h2]; rfl
theorem Text_spec (rows : List (List Int)) (hR : RowsOk rows) (av : List AV) (o : Own) (c : Int) (s : Hp) (hT : Tabs s) (hA : AllV rowR rows av) :
    AC Tryz.prog 7 [.agg [.sl av o, .v (.int .i64 c)], .v (.bool false)] s fun r s' => s.sub s' ∧ r = strV (textB rows) := by
  refine AC_run hm prep7 (by simp) ?_
  have hlen := hA.len
  have hRn := hR.n
  have hM : ∀ x ∈ rows.map rowT, x.length ≤ 1100 := by
    intro x hx
    obtain ⟨r, hr, rfl⟩ := List.mem_map.1 hx
    exact rowT_len (hR.r r hr).1
  simp (dsimp := false) (implicitDefEqProofs := false) (disch := first | omega | assumption | (simp only [rL, Nat.reduceAdd]; try omega)) only [↓rA, rZ, List.drop_succ_cons, ne_eq, not_true_eq_false, not_false_eq_true, List.getElem?_cons_zero, List.getElem?_cons_succ, ev, ofConst, ofCell, ↓reduceIte, Nat.reduceEqDiff, Nat.reduceAdd, Nat.reduceSub, Nat.reduceMul, Nat.reduceLeDiff, Nat.reduceLT, Int.reduceNeg, Int.reduceToNat, Int.reduceAdd, Int.reduceSub, Int.reduceMul, Int.reduceLT, Int.reduceLE, Int.reduceEq, Int.reduceNe]
  refine newK_intro fun l2 n2 => ?_
  simp (dsimp := false) (implicitDefEqProofs := false) (disch := first | omega | assumption | (simp only [rL, Nat.reduceAdd]; try omega)) only [↓rA, rZ, List.drop_succ_cons, ne_eq, not_true_eq_false, not_false_eq_true, List.getElem?_cons_zero, List.getElem?_cons_succ, ev, ofConst, ofCell, ↓reduceIte, Nat.reduceEqDiff, Nat.reduceAdd, Nat.reduceSub, Nat.reduceMul, Nat.reduceLeDiff, Nat.reduceLT, Int.reduceNeg, Int.reduceToNat, Int.reduceAdd, Int.reduceSub, Int.reduceMul, Int.reduceLT, Int.reduceLE, Int.reduceEq, Int.reduceNe]
  refine newK_intro fun l n5 => ?_
  have dl2 : l2 ≠ l := by rintro rfl; rw [Hp.set_same] at n5; cases n5
  have nl : s l = none := by rw [Hp.set_ne _ _ (Ne.symm dl2)] at n5; exact n5
  simp (dsimp := false) (implicitDefEqProofs := false) (disch := first | omega | assumption | (simp only [rL, Nat.reduceAdd]; try omega)) only [↓rA, rZ, List.drop_succ_cons, ne_eq, not_true_eq_false, not_false_eq_true, List.getElem?_cons_zero, List.getElem?_cons_succ, ev, ofConst, ofCell, ↓reduceIte, Nat.reduceEqDiff, Nat.reduceAdd, Nat.reduceSub, Nat.reduceMul, Nat.reduceLeDiff, Nat.reduceLT, Int.reduceNeg, Int.reduceToNat, Int.reduceAdd, Int.reduceSub, Int.reduceMul, Int.reduceLT, Int.reduceLE, Int.reduceEq, Int.reduceNe, dl2]
  refine loop_intro (fun f s' => ∃ i : Nat, i ≤ rows.length ∧ BD l (joinW [59, 32] ((rows.map rowT).take i)) s s' ∧ f 5 = .ptr l 0 ∧ f 15 = .sl av o ∧ f 16 = .v (.int .i64 rows.length) ∧ f 17 = .v (.int .i64 i))
    (fun f _ => match f 17 with | .v (.int _ n) => rows.length - n.toNat | _ => 0) ⟨0, by omega, ⟨Hp.sub_new (Hp.sub_new Hp.sub_refl n2) nl, nl, .inl ⟨rfl, .inl (Hp.set_same _ _ _)⟩⟩, ?_⟩ ?_
  · simp (dsimp := false) (implicitDefEqProofs := false) (disch := first | omega | assumption | (simp only [rL, Nat.reduceAdd]; try omega)) only [↓rA, rZ, List.drop_succ_cons, ne_eq, not_true_eq_false, not_false_eq_true, List.getElem?_cons_zero, List.getElem?_cons_succ, ev, ofConst, ofCell, ↓reduceIte, Nat.reduceEqDiff, Nat.reduceAdd, Nat.reduceSub, Nat.reduceMul, Nat.reduceLeDiff, Nat.reduceLT, Int.reduceNeg, Int.reduceToNat, Int.reduceAdd, Int.reduceSub, Int.reduceMul, Int.reduceLT, Int.reduceLE, Int.reduceEq, Int.reduceNe, hlen]
  · rintro f s' ⟨i, hi, hb, f5, f15, f16, f17⟩
    by_cases hlt : (i : Int) < (rows.length : Int)
    · have hi' : i < rows.length := by omega
      have hel : rows[i]? = some rows[i] := List.getElem?_eq_getElem hi'
      have hmem : rows[i] ∈ rows := List.getElem_mem _
      generalize rows[i] = r at hel hmem
      obtain ⟨hr50, hrv⟩ := hR.r r hmem
      obtain ⟨o2, hia⟩ := iaSA_row (o := o) hA hel
      have hstep := joinW_step (sep := [59, 32]) (l := rows.map rowT) (i := i) (x := rowT r) (by rw [List.getElem?_map, hel]; rfl)
      have hpl := preW_len (sep := [59, 32]) (i := i) hM (by rw [List.length_map]; omega)
      have hpl2 : (preW [59, 32] (rows.map rowT) i).length ≤ 120000 := by
        simp only [List.length_cons, List.length_nil] at hpl
        have : i * (1100 + (0 + 1 + 1)) ≤ 100 * 1102 := Nat.mul_le_mul (by omega) (by omega)
        omega
      simp (dsimp := false) (implicitDefEqProofs := false) (disch := first | omega | assumption | (simp only [rL, Nat.reduceAdd]; try omega)) only [↓rA, rZ, List.drop_succ_cons, ne_eq, not_true_eq_false, not_false_eq_true, List.getElem?_cons_zero, List.getElem?_cons_succ, ev, ofConst, ofCell, ↓reduceIte, Nat.reduceEqDiff, Nat.reduceAdd, Nat.reduceSub, Nat.reduceMul, Nat.reduceLeDiff, Nat.reduceLT, Int.reduceNeg, Int.reduceToNat, Int.reduceAdd, Int.reduceSub, Int.reduceMul, Int.reduceLT, Int.reduceLE, Int.reduceEq, Int.reduceNe, f5, f15, f16, f17, hlt, hia]
      refine cond_join (fun f s' => BD l (preW [59, 32] (rows.map rowT) i) s s' ∧ f 5 = .ptr l 0 ∧ f 15 = .sl av o ∧ f 16 = .v (.int .i64 rows.length) ∧ f 17 = .v (.int .i64 i) ∧ f 7 = .sl (intsV r) o2) ?_ ?_ ?_
      · intro hc
        have hc' : ¬ i = 0 := by rw [decide_eq_true_eq] at hc; omega
        have e : preW [59, 32] (rows.map rowT) i = joinW [59, 32] ((rows.map rowT).take i) ++ [59, 32] := by rw [preW, if_neg hc']
        rw [e] at hpl2 ⊢
        rw [List.length_append] at hpl2
        simp (dsimp := false) (implicitDefEqProofs := false) (disch := first | omega | assumption | (simp only [rL, Nat.reduceAdd]; try omega)) only [↓rA, rZ, List.drop_succ_cons, ne_eq, not_true_eq_false, not_false_eq_true, List.getElem?_cons_zero, List.getElem?_cons_succ, ev, ofConst, ofCell, ↓reduceIte, Nat.reduceEqDiff, Nat.reduceAdd, Nat.reduceSub, Nat.reduceMul, Nat.reduceLeDiff, Nat.reduceLT, Int.reduceNeg, Int.reduceToNat, Int.reduceAdd, Int.reduceSub, Int.reduceMul, Int.reduceLT, Int.reduceLE, Int.reduceEq, Int.reduceNe, f5, f15, f16, f17]
        refine call_intro (writeString_spec l _ [59, 32] _ _ hb (by omega)) ?_
        intro x s3 hb3
        simp (dsimp := false) (implicitDefEqProofs := false) (disch := first | omega | assumption | (simp only [rL, Nat.reduceAdd]; try omega)) only [↓rA, rZ, List.drop_succ_cons, ne_eq, not_true_eq_false, not_false_eq_true, List.getElem?_cons_zero, List.getElem?_cons_succ, ev, ofConst, ofCell, ↓reduceIte, Nat.reduceEqDiff, Nat.reduceAdd, Nat.reduceSub, Nat.reduceMul, Nat.reduceLeDiff, Nat.reduceLT, Int.reduceNeg, Int.reduceToNat, Int.reduceAdd, Int.reduceSub, Int.reduceMul, Int.reduceLT, Int.reduceLE, Int.reduceEq, Int.reduceNe, f5, f15, f16, f17]
        exact hb3
      · intro hc
        have hc' : i = 0 := by rw [decide_eq_false_iff_not] at hc; omega
        have e : preW [59, 32] (rows.map rowT) i = joinW [59, 32] ((rows.map rowT).take i) := by rw [preW, if_pos hc']; subst hc'; rfl
        rw [e]
        simp (dsimp := false) (implicitDefEqProofs := false) (disch := first | omega | assumption | (simp only [rL, Nat.reduceAdd]; try omega)) only [↓rA, rZ, List.drop_succ_cons, ne_eq, not_true_eq_false, not_false_eq_true, List.getElem?_cons_zero, List.getElem?_cons_succ, ev, ofConst, ofCell, ↓reduceIte, Nat.reduceEqDiff, Nat.reduceAdd, Nat.reduceSub, Nat.reduceMul, Nat.reduceLeDiff, Nat.reduceLT, Int.reduceNeg, Int.reduceToNat, Int.reduceAdd, Int.reduceSub, Int.reduceMul, Int.reduceLT, Int.reduceLE, Int.reduceEq, Int.reduceNe, f5, f15, f16, f17]
        exact hb
      have g17 := f17
      clear hb f5 f15 f16 f17
      generalize preW [59, 32] (rows.map rowT) i = pre at hstep hpl2
      rintro f s2 ⟨hb, f5, f15, f16, f17, f7⟩
      have hil : (intsV r).length = r.length := by simp [intsV]
      simp (dsimp := false) (implicitDefEqProofs := false) (disch := first | omega | assumption | (simp only [rL, Nat.reduceAdd]; try omega)) only [↓rA, rZ, List.drop_succ_cons, ne_eq, not_true_eq_false, not_false_eq_true, List.getElem?_cons_zero, List.getElem?_cons_succ, ev, ofConst, ofCell, ↓reduceIte, Nat.reduceEqDiff, Nat.reduceAdd, Nat.reduceSub, Nat.reduceMul, Nat.reduceLeDiff, Nat.reduceLT, Int.reduceNeg, Int.reduceToNat, Int.reduceAdd, Int.reduceSub, Int.reduceMul, Int.reduceLT, Int.reduceLE, Int.reduceEq, Int.reduceNe, f5, f15, f16, f17, f7]
      refine loop_intro (fun f s' => ∃ k : Nat, k ≤ r.length ∧ BD l (pre ++ joinW [32] ((r.map itoaS).take k)) s s' ∧ f 5 = .ptr l 0 ∧ f 15 = .sl av o ∧ f 16 = .v (.int .i64 rows.length) ∧ f 17 = .v (.int .i64 i) ∧ f 25 = .sl (intsV r) o2 ∧ f 26 = .v (.int .i64 r.length) ∧ f 27 = .v (.int .i64 k))
        (fun f _ => match f 27 with | .v (.int _ n) => r.length - n.toNat | _ => 0) ⟨0, by omega, by simpa [joinW] using hb, ?_⟩ ?_
      · simp (dsimp := false) (implicitDefEqProofs := false) (disch := first | omega | assumption | (simp only [rL, Nat.reduceAdd]; try omega)) only [↓rA, rZ, List.drop_succ_cons, ne_eq, not_true_eq_false, not_false_eq_true, List.getElem?_cons_zero, List.getElem?_cons_succ, ev, ofConst, ofCell, ↓reduceIte, Nat.reduceEqDiff, Nat.reduceAdd, Nat.reduceSub, Nat.reduceMul, Nat.reduceLeDiff, Nat.reduceLT, Int.reduceNeg, Int.reduceToNat, Int.reduceAdd, Int.reduceSub, Int.reduceMul, Int.reduceLT, Int.reduceLE, Int.reduceEq, Int.reduceNe, f5, f15, f16, f17, f7, hil]
      · clear hb f5 f15 f16 f17 f7
        rintro f s3 ⟨k, hk, hb, f5, f15, f16, f17, f25, f26, f27⟩
        by_cases hkt : (k : Int) < (r.length : Int)
        · have hk' : k < r.length := by omega
          have hev : r[k]? = some r[k] := List.getElem?_eq_getElem hk'
          have hvm : r[k] ∈ r := List.getElem_mem _
          generalize r[k] = v at hev hvm
          obtain ⟨v0, v1⟩ := hrv v hvm
          have hst := joinW_step (sep := [32]) (l := r.map itoaS) (i := k) (x := itoaS v) (by rw [List.getElem?_map, hev]; rfl)
          have hM2 : ∀ x ∈ r.map itoaS, x.length ≤ 21 := by intro x hx; obtain ⟨v, _, rfl⟩ := List.mem_map.1 hx; exact itoaS_le v
          have hpk := preW_len (sep := [32]) (i := k) hM2 (by rw [List.length_map]; omega)
          simp only [List.length_singleton] at hpk
          simp (dsimp := false) (implicitDefEqProofs := false) (disch := first | omega | assumption | (simp only [rL, Nat.reduceAdd]; try omega)) only [↓rA, rZ, List.drop_succ_cons, ne_eq, not_true_eq_false, not_false_eq_true, List.getElem?_cons_zero, List.getElem?_cons_succ, ev, ofConst, ofCell, ↓reduceIte, Nat.reduceEqDiff, Nat.reduceAdd, Nat.reduceSub, Nat.reduceMul, Nat.reduceLeDiff, Nat.reduceLT, Int.reduceNeg, Int.reduceToNat, Int.reduceAdd, Int.reduceSub, Int.reduceMul, Int.reduceLT, Int.reduceLE, Int.reduceEq, Int.reduceNe, f5, f15, f16, f17, f25, f26, f27, hkt, iaSA_ints hev]
          refine cond_join (fun f s' => BD l (pre ++ preW [32] (r.map itoaS) k) s s' ∧ f 5 = .ptr l 0 ∧ f 15 = .sl av o ∧ f 16 = .v (.int .i64 rows.length) ∧ f 17 = .v (.int .i64 i) ∧ f 25 = .sl (intsV r) o2 ∧ f 26 = .v (.int .i64 r.length) ∧ f 27 = .v (.int .i64 k) ∧ f 9 = .v (.int .i64 v)) ?_ ?_ ?_
          · intro hc
            have hc' : ¬ k = 0 := by rw [decide_eq_true_eq] at hc; omega
            have e : preW [32] (r.map itoaS) k = joinW [32] ((r.map itoaS).take k) ++ [32] := by rw [preW, if_neg hc']
            rw [e] at hpk ⊢
            rw [List.length_append] at hpk
            rw [← List.append_assoc]
            simp (dsimp := false) (implicitDefEqProofs := false) (disch := first | omega | assumption | (simp only [rL, Nat.reduceAdd]; try omega)) only [↓rA, rZ, List.drop_succ_cons, ne_eq, not_true_eq_false, not_false_eq_true, List.getElem?_cons_zero, List.getElem?_cons_succ, ev, ofConst, ofCell, ↓reduceIte, Nat.reduceEqDiff, Nat.reduceAdd, Nat.reduceSub, Nat.reduceMul, Nat.reduceLeDiff, Nat.reduceLT, Int.reduceNeg, Int.reduceToNat, Int.reduceAdd, Int.reduceSub, Int.reduceMul, Int.reduceLT, Int.reduceLE, Int.reduceEq, Int.reduceNe, f5, f15, f16, f17, f25, f26, f27]
            refine call_intro (writeByte_spec l _ 32 _ _ hb (by rw [List.length_append]; omega)) ?_
            intro x s4 hb4
            simp (dsimp := false) (implicitDefEqProofs := false) (disch := first | omega | assumption | (simp only [rL, Nat.reduceAdd]; try omega)) only [↓rA, rZ, List.drop_succ_cons, ne_eq, not_true_eq_false, not_false_eq_true, List.getElem?_cons_zero, List.getElem?_cons_succ, ev, ofConst, ofCell, ↓reduceIte, Nat.reduceEqDiff, Nat.reduceAdd, Nat.reduceSub, Nat.reduceMul, Nat.reduceLeDiff, Nat.reduceLT, Int.reduceNeg, Int.reduceToNat, Int.reduceAdd, Int.reduceSub, Int.reduceMul, Int.reduceLT, Int.reduceLE, Int.reduceEq, Int.reduceNe, f5, f15, f16, f17, f25, f26, f27]
            exact hb4
          · intro hc
            have hc' : k = 0 := by rw [decide_eq_false_iff_not] at hc; omega
            have e : preW [32] (r.map itoaS) k = joinW [32] ((r.map itoaS).take k) := by rw [preW, if_pos hc']; subst hc'; rfl
            rw [e]
            simp (dsimp := false) (implicitDefEqProofs := false) (disch := first | omega | assumption | (simp only [rL, Nat.reduceAdd]; try omega)) only [↓rA, rZ, List.drop_succ_cons, ne_eq, not_true_eq_false, not_false_eq_true, List.getElem?_cons_zero, List.getElem?_cons_succ, ev, ofConst, ofCell, ↓reduceIte, Nat.reduceEqDiff, Nat.reduceAdd, Nat.reduceSub, Nat.reduceMul, Nat.reduceLeDiff, Nat.reduceLT, Int.reduceNeg, Int.reduceToNat, Int.reduceAdd, Int.reduceSub, Int.reduceMul, Int.reduceLT, Int.reduceLE, Int.reduceEq, Int.reduceNe, f5, f15, f16, f17, f25, f26, f27]
            exact hb
          have g27 := f27
          clear hb f5 f15 f16 f17 f25 f26 f27
          generalize preW [32] (r.map itoaS) k = pk at hst hpk
          rintro f s4 ⟨hb, f5, f15, f16, f17, f25, f26, f27, f9⟩
          simp (dsimp := false) (implicitDefEqProofs := false) (disch := first | omega | assumption | (simp only [rL, Nat.reduceAdd]; try omega)) only [↓rA, rZ, List.drop_succ_cons, ne_eq, not_true_eq_false, not_false_eq_true, List.getElem?_cons_zero, List.getElem?_cons_succ, ev, ofConst, ofCell, ↓reduceIte, Nat.reduceEqDiff, Nat.reduceAdd, Nat.reduceSub, Nat.reduceMul, Nat.reduceLeDiff, Nat.reduceLT, Int.reduceNeg, Int.reduceToNat, Int.reduceAdd, Int.reduceSub, Int.reduceMul, Int.reduceLT, Int.reduceLE, Int.reduceEq, Int.reduceNe, f5, f15, f16, f17, f25, f26, f27, f9]
          refine call_intro (formatInt_spec v v0 v1 s4 (hT.mono hb.1)) ?_
          rintro _ _ ⟨rfl, rfl⟩
          rw [itoaS_eq v v0 v1]
          have hiv := itoaS_le v
          simp (dsimp := false) (implicitDefEqProofs := false) (disch := first | omega | assumption | (simp only [rL, Nat.reduceAdd]; try omega)) only [↓rA, rZ, List.drop_succ_cons, ne_eq, not_true_eq_false, not_false_eq_true, List.getElem?_cons_zero, List.getElem?_cons_succ, ev, ofConst, ofCell, ↓reduceIte, Nat.reduceEqDiff, Nat.reduceAdd, Nat.reduceSub, Nat.reduceMul, Nat.reduceLeDiff, Nat.reduceLT, Int.reduceNeg, Int.reduceToNat, Int.reduceAdd, Int.reduceSub, Int.reduceMul, Int.reduceLT, Int.reduceLE, Int.reduceEq, Int.reduceNe, f5, f15, f16, f17, f25, f26, f27, f9]
          refine call_intro (writeString_spec l _ (itoaS v) _ _ hb (by rw [List.length_append]; omega)) ?_
          intro x s5 hb5
          simp (dsimp := false) (implicitDefEqProofs := false) (disch := first | omega | assumption | (simp only [rL, Nat.reduceAdd]; try omega)) only [↓rA, rZ, List.drop_succ_cons, ne_eq, not_true_eq_false, not_false_eq_true, List.getElem?_cons_zero, List.getElem?_cons_succ, ev, ofConst, ofCell, ↓reduceIte, Nat.reduceEqDiff, Nat.reduceAdd, Nat.reduceSub, Nat.reduceMul, Nat.reduceLeDiff, Nat.reduceLT, Int.reduceNeg, Int.reduceToNat, Int.reduceAdd, Int.reduceSub, Int.reduceMul, Int.reduceLT, Int.reduceLE, Int.reduceEq, Int.reduceNe, f5, f15, f16, f17, f25, f26, f27, f9]
          refine ⟨⟨k + 1, by omega, ?_, by simp⟩, by simp only [g27]; omega⟩
          rw [hst, ← List.append_assoc]; exact hb5
        · obtain rfl : k = r.length := by omega
          have hfull : joinW [32] ((r.map itoaS).take r.length) = rowT r := by
            rw [List.take_of_length_le (by simp)]; rfl
          rw [hfull] at hb
          simp (dsimp := false) (implicitDefEqProofs := false) (disch := first | omega | assumption | (simp only [rL, Nat.reduceAdd]; try omega)) only [↓rA, rZ, List.drop_succ_cons, ne_eq, not_true_eq_false, not_false_eq_true, List.getElem?_cons_zero, List.getElem?_cons_succ, ev, ofConst, ofCell, ↓reduceIte, Nat.reduceEqDiff, Nat.reduceAdd, Nat.reduceSub, Nat.reduceMul, Nat.reduceLeDiff, Nat.reduceLT, Int.reduceNeg, Int.reduceToNat, Int.reduceAdd, Int.reduceSub, Int.reduceMul, Int.reduceLT, Int.reduceLE, Int.reduceEq, Int.reduceNe, f5, f15, f16, f17, f25, f26, f27, hkt]
          refine ⟨⟨i + 1, by omega, ?_, by simp⟩, by simp only [g17]; omega⟩
          rw [hstep]; exact hb
    · obtain rfl : i = rows.length := by omega
      simp (dsimp := false) (implicitDefEqProofs := false) (disch := first | omega | assumption | (simp only [rL, Nat.reduceAdd]; try omega)) only [↓rA, rZ, List.drop_succ_cons, ne_eq, not_true_eq_false, not_false_eq_true, List.getElem?_cons_zero, List.getElem?_cons_succ, ev, ofConst, ofCell, ↓reduceIte, Nat.reduceEqDiff, Nat.reduceAdd, Nat.reduceSub, Nat.reduceMul, Nat.reduceLeDiff, Nat.reduceLT, Int.reduceNeg, Int.reduceToNat, Int.reduceAdd, Int.reduceSub, Int.reduceMul, Int.reduceLT, Int.reduceLE, Int.reduceEq, Int.reduceNe, f5, f15, f16, f17, hlt]
      refine call_intro (builderString_spec l _ s s' hb) ?_
      rintro _ s2 ⟨h2, rfl⟩
      simp (dsimp := false) (implicitDefEqProofs := false) (disch := first | omega | assumption | (simp only [rL, Nat.reduceAdd]; try omega)) only [↓rA, rZ, List.drop_succ_cons, ne_eq, not_true_eq_false, not_false_eq_true, List.getElem?_cons_zero, List.getElem?_cons_succ, ev, ofConst, ofCell, ↓reduceIte, Nat.reduceEqDiff, Nat.reduceAdd, Nat.reduceSub, Nat.reduceMul, Nat.reduceLeDiff, Nat.reduceLT, Int.reduceNeg, Int.reduceToNat, Int.reduceAdd, Int.reduceSub, Int.reduceMul, Int.reduceLT, Int.reduceLE, Int.reduceEq, Int.reduceNe]
      refine ⟨_, Hp.sub_refl, h2, ?_⟩
      rw [List.take_of_length_le (by simp)]; rfl
theorem TextCount_spec (av : List AV) (o : Own) (c : Int) (h0 : -9223372036854775808 ≤ c) (h1 : c ≤ 9223372036854775807) (s : Hp) (hT : Tabs s) :
    AC Tryz.prog 7 [.agg [.sl av o, .v (.int .i64 c)], .v (.bool true)] s fun r s' => s.sub s' ∧ r = strV (itoaS c) := by
  refine AC_run hm prep7 (by simp) ?_
  simp (dsimp := false) (implicitDefEqProofs := false) (disch := first | omega | assumption | (simp only [rL, Nat.reduceAdd]; try omega)) only [↓rA, rZ, List.drop_succ_cons, ne_eq, not_true_eq_false, not_false_eq_true, List.getElem?_cons_zero, List.getElem?_cons_succ, ev, ofConst, ofCell, ↓reduceIte, Nat.reduceEqDiff, Nat.reduceAdd, Nat.reduceSub, Nat.reduceMul, Nat.reduceLeDiff, Nat.reduceLT, Int.reduceNeg, Int.reduceToNat, Int.reduceAdd, Int.reduceSub, Int.reduceMul, Int.reduceLT, Int.reduceLE, Int.reduceEq, Int.reduceNe]
  refine newK_intro fun l2 n2 => ?_
  simp (dsimp := false) (implicitDefEqProofs := false) (disch := first | omega | assumption | (simp only [rL, Nat.reduceAdd]; try omega)) only [↓rA, rZ, List.drop_succ_cons, ne_eq, not_true_eq_false, not_false_eq_true, List.getElem?_cons_zero, List.getElem?_cons_succ, ev, ofConst, ofCell, ↓reduceIte, Nat.reduceEqDiff, Nat.reduceAdd, Nat.reduceSub, Nat.reduceMul, Nat.reduceLeDiff, Nat.reduceLT, Int.reduceNeg, Int.reduceToNat, Int.reduceAdd, Int.reduceSub, Int.reduceMul, Int.reduceLT, Int.reduceLE, Int.reduceEq, Int.reduceNe]
  refine call_intro (Itoa_spec c h0 h1 _ (hT.mono (Hp.sub_new Hp.sub_refl n2))) ?_
  rintro _ _ ⟨rfl, rfl⟩
  simp (dsimp := false) (implicitDefEqProofs := false) (disch := first | omega | assumption | (simp only [rL, Nat.reduceAdd]; try omega)) only [↓rA, rZ, List.drop_succ_cons, ne_eq, not_true_eq_false, not_false_eq_true, List.getElem?_cons_zero, List.getElem?_cons_succ, ev, ofConst, ofCell, ↓reduceIte, Nat.reduceEqDiff, Nat.reduceAdd, Nat.reduceSub, Nat.reduceMul, Nat.reduceLeDiff, Nat.reduceLT, Int.reduceNeg, Int.reduceToNat, Int.reduceAdd, Int.reduceSub, Int.reduceMul, Int.reduceLT, Int.reduceLE, Int.reduceEq, Int.reduceNe]
  exact ⟨_, Hp.sub_refl, Hp.sub_new Hp.sub_refl n2, by rw [itoaS_eq c h0 h1]⟩
end Go.Proofs.YtgfbealjkdhdbaaGreatDoor
/-
  ref23: blank, letter, digit, word, Digits.
-/
set_option maxRecDepth 100000
namespace Go.Proofs.YtgfbealjkdhdbaaGreatDoor
open Go Go.Av
theorem rletter_spec (c : Int) (s : Hp) : AC Tryz.prog 26 [.v (.int .u8 c)] s fun r s' => s' = s ∧ r = .v (.bool (letterR c)) := by
  refine AC_run hm prep26 (by simp) ?_
  by_cases h1 : 97 ≤ c
  · by_cases h2 : c ≤ 122
    · simp (dsimp := false) (implicitDefEqProofs := false) (disch := first | omega | assumption | (simp only [rL, Nat.reduceAdd]; try omega)) only [↓rD, rU, ev, ofConst, ofCell, ↓reduceIte, Nat.reduceEqDiff, Nat.reduceAdd, Nat.reduceSub, Nat.reduceMul, Nat.reduceLeDiff, Nat.reduceLT, Int.reduceNeg, Int.reduceToNat, Int.reduceAdd, Int.reduceSub, Int.reduceMul, Int.reduceLT, Int.reduceLE, Int.reduceEq, rX, List.drop_succ_cons, ↓rF, rG, ne_eq, not_true_eq_false, not_false_eq_true, Int.reduceNe, List.getElem?_cons_zero, List.getElem?_cons_succ, ↓rK, rM, h1, h2]
      exact ⟨_, Hp.sub_refl, rfl, by simp [letterR, h1, h2]⟩
    · have h3 : ¬ c ≤ 90 := by omega
      have h4 : 65 ≤ c := by omega
      simp (dsimp := false) (implicitDefEqProofs := false) (disch := first | omega | assumption | (simp only [rL, Nat.reduceAdd]; try omega)) only [↓rD, rU, ev, ofConst, ofCell, ↓reduceIte, Nat.reduceEqDiff, Nat.reduceAdd, Nat.reduceSub, Nat.reduceMul, Nat.reduceLeDiff, Nat.reduceLT, Int.reduceNeg, Int.reduceToNat, Int.reduceAdd, Int.reduceSub, Int.reduceMul, Int.reduceLT, Int.reduceLE, Int.reduceEq, rX, List.drop_succ_cons, ↓rF, rG, ne_eq, not_true_eq_false, not_false_eq_true, Int.reduceNe, List.getElem?_cons_zero, List.getElem?_cons_succ, ↓rK, rM, h1, h2, h3, h4]
      exact ⟨_, Hp.sub_refl, rfl, by simp [letterR, h2, h3]⟩
  · by_cases h3 : 65 ≤ c
    · by_cases h4 : c ≤ 90
      · simp (dsimp := false) (implicitDefEqProofs := false) (disch := first | omega | assumption | (simp only [rL, Nat.reduceAdd]; try omega)) only [↓rD, rU, ev, ofConst, ofCell, ↓reduceIte, Nat.reduceEqDiff, Nat.reduceAdd, Nat.reduceSub, Nat.reduceMul, Nat.reduceLeDiff, Nat.reduceLT, Int.reduceNeg, Int.reduceToNat, Int.reduceAdd, Int.reduceSub, Int.reduceMul, Int.reduceLT, Int.reduceLE, Int.reduceEq, rX, List.drop_succ_cons, ↓rF, rG, ne_eq, not_true_eq_false, not_false_eq_true, Int.reduceNe, List.getElem?_cons_zero, List.getElem?_cons_succ, ↓rK, rM, h1, h3, h4]
        exact ⟨_, Hp.sub_refl, rfl, by simp [letterR, h3, h4]⟩
      · simp (dsimp := false) (implicitDefEqProofs := false) (disch := first | omega | assumption | (simp only [rL, Nat.reduceAdd]; try omega)) only [↓rD, rU, ev, ofConst, ofCell, ↓reduceIte, Nat.reduceEqDiff, Nat.reduceAdd, Nat.reduceSub, Nat.reduceMul, Nat.reduceLeDiff, Nat.reduceLT, Int.reduceNeg, Int.reduceToNat, Int.reduceAdd, Int.reduceSub, Int.reduceMul, Int.reduceLT, Int.reduceLE, Int.reduceEq, rX, List.drop_succ_cons, ↓rF, rG, ne_eq, not_true_eq_false, not_false_eq_true, Int.reduceNe, List.getElem?_cons_zero, List.getElem?_cons_succ, ↓rK, rM, h1, h3, h4]
        exact ⟨_, Hp.sub_refl, rfl, by simp [letterR, h1, h4]⟩
    · simp (dsimp := false) (implicitDefEqProofs := false) (disch := first | omega | assumption | (simp only [rL, Nat.reduceAdd]; try omega)) only [↓rD, rU, ev, ofConst, ofCell, ↓reduceIte, Nat.reduceEqDiff, Nat.reduceAdd, Nat.reduceSub, Nat.reduceMul, Nat.reduceLeDiff, Nat.reduceLT, Int.reduceNeg, Int.reduceToNat, Int.reduceAdd, Int.reduceSub, Int.reduceMul, Int.reduceLT, Int.reduceLE, Int.reduceEq, rX, List.drop_succ_cons, ↓rF, rG, ne_eq, not_true_eq_false, not_false_eq_true, Int.reduceNe, List.getElem?_cons_zero, List.getElem?_cons_succ, ↓rK, rM, h1, h3]
      exact ⟨_, Hp.sub_refl, rfl, by simp [letterR, h1, h3]⟩
theorem rdigit_spec (c : Int) (s : Hp) : AC Tryz.prog 28 [.v (.int .u8 c)] s fun r s' => s' = s ∧ r = .v (.bool (digitR c)) := by
  refine AC_run hm prep28 (by simp) ?_
  by_cases h1 : 48 ≤ c
  · by_cases h2 : c ≤ 57
    · simp (dsimp := false) (implicitDefEqProofs := false) (disch := first | omega | assumption | (simp only [rL, Nat.reduceAdd]; try omega)) only [↓rD, rU, ev, ofConst, ofCell, ↓reduceIte, Nat.reduceEqDiff, Nat.reduceAdd, Nat.reduceSub, Nat.reduceMul, Nat.reduceLeDiff, Nat.reduceLT, Int.reduceNeg, Int.reduceToNat, Int.reduceAdd, Int.reduceSub, Int.reduceMul, Int.reduceLT, Int.reduceLE, Int.reduceEq, rX, List.drop_succ_cons, ↓rF, rG, ne_eq, not_true_eq_false, not_false_eq_true, Int.reduceNe, List.getElem?_cons_zero, List.getElem?_cons_succ, ↓rK, rM, h1, h2]
      exact ⟨_, Hp.sub_refl, rfl, by simp [digitR, h1, h2]⟩
    · simp (dsimp := false) (implicitDefEqProofs := false) (disch := first | omega | assumption | (simp only [rL, Nat.reduceAdd]; try omega)) only [↓rD, rU, ev, ofConst, ofCell, ↓reduceIte, Nat.reduceEqDiff, Nat.reduceAdd, Nat.reduceSub, Nat.reduceMul, Nat.reduceLeDiff, Nat.reduceLT, Int.reduceNeg, Int.reduceToNat, Int.reduceAdd, Int.reduceSub, Int.reduceMul, Int.reduceLT, Int.reduceLE, Int.reduceEq, rX, List.drop_succ_cons, ↓rF, rG, ne_eq, not_true_eq_false, not_false_eq_true, Int.reduceNe, List.getElem?_cons_zero, List.getElem?_cons_succ, ↓rK, rM, h1, h2]
      exact ⟨_, Hp.sub_refl, rfl, by simp [digitR, h2]⟩
  · simp (dsimp := false) (implicitDefEqProofs := false) (disch := first | omega | assumption | (simp only [rL, Nat.reduceAdd]; try omega)) only [↓rD, rU, ev, ofConst, ofCell, ↓reduceIte, Nat.reduceEqDiff, Nat.reduceAdd, Nat.reduceSub, Nat.reduceMul, Nat.reduceLeDiff, Nat.reduceLT, Int.reduceNeg, Int.reduceToNat, Int.reduceAdd, Int.reduceSub, Int.reduceMul, Int.reduceLT, Int.reduceLE, Int.reduceEq, rX, List.drop_succ_cons, ↓rF, rG, ne_eq, not_true_eq_false, not_false_eq_true, Int.reduceNe, List.getElem?_cons_zero, List.getElem?_cons_succ, ↓rK, rM, h1]
    exact ⟨_, Hp.sub_refl, rfl, by simp [digitR, h1]⟩
theorem rblank_spec (c : Int) (s : Hp) : AC Tryz.prog 25 [.v (.int .u8 c)] s fun r s' => s' = s ∧ r = .v (.bool (blankR c)) := by
  refine AC_run hm prep25 (by simp) ?_
  by_cases h1 : c = 32
  · subst h1
    simp (dsimp := false) (implicitDefEqProofs := false) (disch := first | omega | assumption | (simp only [rL, Nat.reduceAdd]; try omega)) only [↓rD, rU, ev, ofConst, ofCell, ↓reduceIte, Nat.reduceEqDiff, Nat.reduceAdd, Nat.reduceSub, Nat.reduceMul, Nat.reduceLeDiff, Nat.reduceLT, Int.reduceNeg, Int.reduceToNat, Int.reduceAdd, Int.reduceSub, Int.reduceMul, Int.reduceLT, Int.reduceLE, Int.reduceEq, rX, List.drop_succ_cons, ↓rF, rG, ne_eq, not_true_eq_false, not_false_eq_true, Int.reduceNe, List.getElem?_cons_zero, List.getElem?_cons_succ, ↓rK, rM]
    exact ⟨_, Hp.sub_refl, rfl, rfl⟩
  · by_cases h2 : c = 9
    · subst h2
      simp (dsimp := false) (implicitDefEqProofs := false) (disch := first | omega | assumption | (simp only [rL, Nat.reduceAdd]; try omega)) only [↓rD, rU, ev, ofConst, ofCell, ↓reduceIte, Nat.reduceEqDiff, Nat.reduceAdd, Nat.reduceSub, Nat.reduceMul, Nat.reduceLeDiff, Nat.reduceLT, Int.reduceNeg, Int.reduceToNat, Int.reduceAdd, Int.reduceSub, Int.reduceMul, Int.reduceLT, Int.reduceLE, Int.reduceEq, rX, List.drop_succ_cons, ↓rF, rG, ne_eq, not_true_eq_false, not_false_eq_true, Int.reduceNe, List.getElem?_cons_zero, List.getElem?_cons_succ, ↓rK, rM]
      exact ⟨_, Hp.sub_refl, rfl, rfl⟩
    · by_cases h3 : c = 10
      · subst h3
        simp (dsimp := false) (implicitDefEqProofs := false) (disch := first | omega | assumption | (simp only [rL, Nat.reduceAdd]; try omega)) only [↓rD, rU, ev, ofConst, ofCell, ↓reduceIte, Nat.reduceEqDiff, Nat.reduceAdd, Nat.reduceSub, Nat.reduceMul, Nat.reduceLeDiff, Nat.reduceLT, Int.reduceNeg, Int.reduceToNat, Int.reduceAdd, Int.reduceSub, Int.reduceMul, Int.reduceLT, Int.reduceLE, Int.reduceEq, rX, List.drop_succ_cons, ↓rF, rG, ne_eq, not_true_eq_false, not_false_eq_true, Int.reduceNe, List.getElem?_cons_zero, List.getElem?_cons_succ, ↓rK, rM]
        exact ⟨_, Hp.sub_refl, rfl, rfl⟩
      · simp (dsimp := false) (implicitDefEqProofs := false) (disch := first | omega | assumption | (simp only [rL, Nat.reduceAdd]; try omega)) only [↓rD, rU, ev, ofConst, ofCell, ↓reduceIte, Nat.reduceEqDiff, Nat.reduceAdd, Nat.reduceSub, Nat.reduceMul, Nat.reduceLeDiff, Nat.reduceLT, Int.reduceNeg, Int.reduceToNat, Int.reduceAdd, Int.reduceSub, Int.reduceMul, Int.reduceLT, Int.reduceLE, Int.reduceEq, rX, List.drop_succ_cons, ↓rF, rG, ne_eq, not_true_eq_false, not_false_eq_true, Int.reduceNe, List.getElem?_cons_zero, List.getElem?_cons_succ, ↓rK, rM, h1, h2, h3]
        exact ⟨_, Hp.sub_refl, rfl, by simp [blankR, h1, h2, h3]⟩
theorem rword_spec (c : Int) (s : Hp) : AC Tryz.prog 27 [.v (.int .u8 c)] s fun r s' => s' = s ∧ r = .v (.bool (wordR c)) := by
  refine AC_run hm prep27 (by simp) ?_
  simp (dsimp := false) (implicitDefEqProofs := false) (disch := first | omega | assumption | (simp only [rL, Nat.reduceAdd]; try omega)) only [↓rD, rU, ev, ofConst, ofCell, ↓reduceIte, Nat.reduceEqDiff, Nat.reduceAdd, Nat.reduceSub, Nat.reduceMul, Nat.reduceLeDiff, Nat.reduceLT, Int.reduceNeg, Int.reduceToNat, Int.reduceAdd, Int.reduceSub, Int.reduceMul, Int.reduceLT, Int.reduceLE, Int.reduceEq, rX, List.drop_succ_cons, ↓rF, rG, ne_eq, not_true_eq_false, not_false_eq_true, Int.reduceNe, List.getElem?_cons_zero, List.getElem?_cons_succ, ↓rK, rM]
  refine call_intro (rletter_spec c _) ?_
  rintro _ _ ⟨rfl, rfl⟩
  cases h1 : letterR c with
  | true =>
    simp (dsimp := false) (implicitDefEqProofs := false) (disch := first | omega | assumption | (simp only [rL, Nat.reduceAdd]; try omega)) only [↓rD, rU, ev, ofConst, ofCell, ↓reduceIte, Nat.reduceEqDiff, Nat.reduceAdd, Nat.reduceSub, Nat.reduceMul, Nat.reduceLeDiff, Nat.reduceLT, Int.reduceNeg, Int.reduceToNat, Int.reduceAdd, Int.reduceSub, Int.reduceMul, Int.reduceLT, Int.reduceLE, Int.reduceEq, rX, List.drop_succ_cons, ↓rF, rG, ne_eq, not_true_eq_false, not_false_eq_true, Int.reduceNe, List.getElem?_cons_zero, List.getElem?_cons_succ, ↓rK, rM, h1]
    exact ⟨_, Hp.sub_refl, rfl, by simp [wordR, h1]⟩
  | false =>
    simp (dsimp := false) (implicitDefEqProofs := false) (disch := first | omega | assumption | (simp only [rL, Nat.reduceAdd]; try omega)) only [↓rD, rU, ev, ofConst, ofCell, ↓reduceIte, Nat.reduceEqDiff, Nat.reduceAdd, Nat.reduceSub, Nat.reduceMul, Nat.reduceLeDiff, Nat.reduceLT, Int.reduceNeg, Int.reduceToNat, Int.reduceAdd, Int.reduceSub, Int.reduceMul, Int.reduceLT, Int.reduceLE, Int.reduceEq, rX, List.drop_succ_cons, ↓rF, rG, ne_eq, not_true_eq_false, not_false_eq_true, Int.reduceNe, List.getElem?_cons_zero, List.getElem?_cons_succ, ↓rK, rM, h1]
    refine call_intro (rdigit_spec c _) ?_
    rintro _ _ ⟨rfl, rfl⟩
    cases h2 : digitR c with
    | true =>
      simp (dsimp := false) (implicitDefEqProofs := false) (disch := first | omega | assumption | (simp only [rL, Nat.reduceAdd]; try omega)) only [↓rD, rU, ev, ofConst, ofCell, ↓reduceIte, Nat.reduceEqDiff, Nat.reduceAdd, Nat.reduceSub, Nat.reduceMul, Nat.reduceLeDiff, Nat.reduceLT, Int.reduceNeg, Int.reduceToNat, Int.reduceAdd, Int.reduceSub, Int.reduceMul, Int.reduceLT, Int.reduceLE, Int.reduceEq, rX, List.drop_succ_cons, ↓rF, rG, ne_eq, not_true_eq_false, not_false_eq_true, Int.reduceNe, List.getElem?_cons_zero, List.getElem?_cons_succ, ↓rK, rM, h2]
      exact ⟨_, Hp.sub_refl, rfl, by simp [wordR, h1, h2]⟩
    | false =>
      simp (dsimp := false) (implicitDefEqProofs := false) (disch := first | omega | assumption | (simp only [rL, Nat.reduceAdd]; try omega)) only [↓rD, rU, ev, ofConst, ofCell, ↓reduceIte, Nat.reduceEqDiff, Nat.reduceAdd, Nat.reduceSub, Nat.reduceMul, Nat.reduceLeDiff, Nat.reduceLT, Int.reduceNeg, Int.reduceToNat, Int.reduceAdd, Int.reduceSub, Int.reduceMul, Int.reduceLT, Int.reduceLE, Int.reduceEq, rX, List.drop_succ_cons, ↓rF, rG, ne_eq, not_true_eq_false, not_false_eq_true, Int.reduceNe, List.getElem?_cons_zero, List.getElem?_cons_succ, ↓rK, rM, h2]
      exact ⟨_, Hp.sub_refl, rfl, by simp [wordR, h1, h2]⟩
theorem binA_45S {b : List UInt8} (h : b.length + 1 ≤ 9223372036854775807) : binA .add (.v (.string ⟨#[45]⟩)) (strV b) = some (strV (45 :: b)) := binA_addS (a := [45]) (b := b) (by simp; omega)
theorem b2sA_one {b : UInt8} {o : Own} : b2sA (.sl [byteAV b] o) = some (strV [b]) := b2sA_map (bs := [b])
theorem rem_u64 {u m : Nat} (h : m ≠ 0) : binV .rem (.int .u64 (u : Int)) (.int .u64 (m : Int)) = some (.int .u64 ((u % m : Nat) : Int)) := by
  have h' : ¬ ((m : Nat) : Int) = 0 := by omega
  simp only [binV, isShift, binInt, if_neg h', Bool.false_eq_true, if_false, if_true]
  congr 2
theorem quo_u64 {u m : Nat} (h : m ≠ 0) (hu : u < 18446744073709551616) : binV .quo (.int .u64 (u : Int)) (.int .u64 (m : Int)) = some (.int .u64 ((u / m : Nat) : Int)) := by
  have h' : ¬ ((m : Nat) : Int) = 0 := by omega
  simp only [binV, isShift, binInt, if_neg h', Bool.false_eq_true, if_false, if_true]
  have e : ((u : Int)).tdiv (m : Int) = ((u / m : Nat) : Int) := rfl
  have := Nat.div_le_self u m
  rw [e]
  generalize u / m = q at this
  rw [wrap_u64 (by omega) (by omega)]
theorem Digits_spec (v : Int) (h0 : -9223372036854775808 ≤ v) (h1 : v ≤ 9223372036854775807) (s : Hp) :
    AC Tryz.prog 23 [.v (.int .i64 v)] s fun r s' => s.sub s' ∧ r = strV (itoaS v) := by
  refine AC_run hm prep23 (by simp) ?_
  have e20 : (10 : Nat) ^ 20 = 100000000000000000000 := by decide
  obtain ⟨U, hU⟩ : ∃ U : Nat, U = if v < 0 then v.natAbs else v.toNat := ⟨_, rfl⟩
  have hU1 : U ≤ 9223372036854775808 := by rw [hU]; split <;> omega
  have hI : itoaS v = if v < 0 then 45 :: decF 20 U else decF 20 U := by
    rw [hU, itoaS]; split <;> rfl
  simp (dsimp := false) (implicitDefEqProofs := false) (disch := first | omega | assumption | (simp only [rL, Nat.reduceAdd]; try omega)) only [↓rD, rU, ev, ofConst, ofCell, ↓reduceIte, Nat.reduceEqDiff, Nat.reduceAdd, Nat.reduceSub, Nat.reduceMul, Nat.reduceLeDiff, Nat.reduceLT, Int.reduceNeg, Int.reduceToNat, Int.reduceAdd, Int.reduceSub, Int.reduceMul, Int.reduceLT, Int.reduceLE, Int.reduceEq, rX, List.drop_succ_cons, ↓rF, rG, ne_eq, not_true_eq_false, not_false_eq_true, Int.reduceNe, List.getElem?_cons_zero, List.getElem?_cons_succ, ↓rK, rM]
  refine cond_join (fun f s' => s' = s ∧ f 0 = .v (.int .i64 v) ∧ f 3 = .v (.int .u64 (U : Nat))) ?_ ?_ ?_
  · intro hn
    rw [decide_eq_true_eq] at hn
    have w1 : unV .neg (.int .u64 (IntKind.u64.wrap v)) = some (.int .u64 (U : Nat)) := by
      simp only [unV]; rw [wrap_u64_mod, wrap_u64_mod, hU, if_pos hn]; congr 2; omega
    simp (dsimp := false) (implicitDefEqProofs := false) (disch := first | omega | assumption | (simp only [rL, Nat.reduceAdd]; try omega)) only [↓rD, rU, ev, ofConst, ofCell, ↓reduceIte, Nat.reduceEqDiff, Nat.reduceAdd, Nat.reduceSub, Nat.reduceMul, Nat.reduceLeDiff, Nat.reduceLT, Int.reduceNeg, Int.reduceToNat, Int.reduceAdd, Int.reduceSub, Int.reduceMul, Int.reduceLT, Int.reduceLE, Int.reduceEq, rX, List.drop_succ_cons, ↓rF, rG, ne_eq, not_true_eq_false, not_false_eq_true, Int.reduceNe, List.getElem?_cons_zero, List.getElem?_cons_succ, ↓rK, rM, w1]
  · intro hn
    rw [decide_eq_false_iff_not] at hn
    have w1 : IntKind.u64.wrap v = (U : Int) := by rw [wrap_u64_mod, hU, if_neg hn]; omega
    simp (dsimp := false) (implicitDefEqProofs := false) (disch := first | omega | assumption | (simp only [rL, Nat.reduceAdd]; try omega)) only [↓rD, rU, ev, ofConst, ofCell, ↓reduceIte, Nat.reduceEqDiff, Nat.reduceAdd, Nat.reduceSub, Nat.reduceMul, Nat.reduceLeDiff, Nat.reduceLT, Int.reduceNeg, Int.reduceToNat, Int.reduceAdd, Int.reduceSub, Int.reduceMul, Int.reduceLT, Int.reduceLE, Int.reduceEq, rX, List.drop_succ_cons, ↓rF, rG, ne_eq, not_true_eq_false, not_false_eq_true, Int.reduceNe, List.getElem?_cons_zero, List.getElem?_cons_succ, ↓rK, rM, w1]
  · rintro f s2 ⟨rfl, f0, f3⟩
    simp (dsimp := false) (implicitDefEqProofs := false) (disch := first | omega | assumption | (simp only [rL, Nat.reduceAdd]; try omega)) only [↓rD, rU, ev, ofConst, ofCell, ↓reduceIte, Nat.reduceEqDiff, Nat.reduceAdd, Nat.reduceSub, Nat.reduceMul, Nat.reduceLeDiff, Nat.reduceLT, Int.reduceNeg, Int.reduceToNat, Int.reduceAdd, Int.reduceSub, Int.reduceMul, Int.reduceLT, Int.reduceLE, Int.reduceEq, rX, List.drop_succ_cons, ↓rF, rG, ne_eq, not_true_eq_false, not_false_eq_true, Int.reduceNe, List.getElem?_cons_zero, List.getElem?_cons_succ, ↓rK, rM, f0, f3]
    refine loop_intro (fun f s' => ∃ (k u : Nat) (suf : List UInt8), s2.sub s' ∧ f 0 = .v (.int .i64 v) ∧ f 3 = .v (.int .u64 (u : Nat)) ∧ f 4 = strV suf ∧ 1 ≤ k ∧ u < 10 ^ k ∧ suf.length + k ≤ 20 ∧ decF k u ++ suf = decF 20 U ∧ u ≤ 9223372036854775808)
      (fun f _ => match f 3 with | .v (.int _ n) => n.toNat | _ => 0) ⟨20, U, [], ?_⟩ ?_
    · simp (dsimp := false) (implicitDefEqProofs := false) (disch := first | omega | assumption | (simp only [rL, Nat.reduceAdd]; try omega)) only [↓rD, rU, ev, ofConst, ofCell, ↓reduceIte, Nat.reduceEqDiff, Nat.reduceAdd, Nat.reduceSub, Nat.reduceMul, Nat.reduceLeDiff, Nat.reduceLT, Int.reduceNeg, Int.reduceToNat, Int.reduceAdd, Int.reduceSub, Int.reduceMul, Int.reduceLT, Int.reduceLE, Int.reduceEq, rX, List.drop_succ_cons, ↓rF, rG, ne_eq, not_true_eq_false, not_false_eq_true, Int.reduceNe, List.getElem?_cons_zero, List.getElem?_cons_succ, ↓rK, rM, f0, f3]
      exact ⟨Hp.sub_refl, rfl, by rw [e20]; omega, by simp, hU1⟩
    · rintro f s1 ⟨k, u, suf, h01, f0, f3, f4, hk, hlt, hlen, hd, hu0⟩
      have hu : u < 18446744073709551616 := by omega
      have g1 := rem_u64 (u := u) (m := 10) (by omega)
      have g2 := quo_u64 (u := u) (m := 10) (by omega) hu
      have g3 : IntKind.u8.wrap (48 + ((u % 10 : Nat) : Int)) = ((UInt8.ofNat (48 + u % 10)).toNat : Int) := by
        rw [ofNat_dig (by omega), wrap_u8 (by omega) (by omega)]; omega
      have e10 : ((10 : Nat) : Int) = 10 := rfl
      rw [e10] at g1 g2
      simp (dsimp := false) (implicitDefEqProofs := false) (disch := first | omega | assumption | (simp only [rL, Nat.reduceAdd]; try omega)) only [↓rD, rU, ev, ofConst, ofCell, ↓reduceIte, Nat.reduceEqDiff, Nat.reduceAdd, Nat.reduceSub, Nat.reduceMul, Nat.reduceLeDiff, Nat.reduceLT, Int.reduceNeg, Int.reduceToNat, Int.reduceAdd, Int.reduceSub, Int.reduceMul, Int.reduceLT, Int.reduceLE, Int.reduceEq, rX, List.drop_succ_cons, ↓rF, rG, ne_eq, not_true_eq_false, not_false_eq_true, Int.reduceNe, List.getElem?_cons_zero, List.getElem?_cons_succ, ↓rK, rM, f0, f3, f4, g1, g2, g3]
      refine bsl_byte h01 fun o2 s3 h3 => ?_
      have hlen1 : suf.length + 1 ≤ 9223372036854775807 := by omega
      have g4 : binA .add (strV [UInt8.ofNat (48 + u % 10)]) (strV suf) = some (strV (UInt8.ofNat (48 + u % 10) :: suf)) := binA_addS (a := [UInt8.ofNat (48 + u % 10)]) (by simp; omega)
      by_cases hz : ((u / 10 : Nat) : Int) = 0
      · have hlow : u < 10 := by omega
        have hfin : UInt8.ofNat (48 + u % 10) :: suf = decF 20 U := by
          rw [← hd]
          cases k with
          | zero => omega
          | succ k => simp only [decF, if_pos hlow]; rw [Nat.mod_eq_of_lt hlow]; rfl
        rw [hfin] at g4
        have hl20 := decF_len 20 U
        by_cases hn : v < 0
        · rw [if_pos hn] at hI
          simp (dsimp := false) (implicitDefEqProofs := false) (disch := first | omega | assumption | (simp only [rL, Nat.reduceAdd]; try omega)) only [↓rD, rU, ev, ofConst, ofCell, ↓reduceIte, Nat.reduceEqDiff, Nat.reduceAdd, Nat.reduceSub, Nat.reduceMul, Nat.reduceLeDiff, Nat.reduceLT, Int.reduceNeg, Int.reduceToNat, Int.reduceAdd, Int.reduceSub, Int.reduceMul, Int.reduceLT, Int.reduceLE, Int.reduceEq, rX, List.drop_succ_cons, ↓rF, rG, ne_eq, not_true_eq_false, not_false_eq_true, Int.reduceNe, List.getElem?_cons_zero, List.getElem?_cons_succ, ↓rK, rM, f0, f3, f4, g2, g4, hz, b2sA_one, hn, binA_45S]
          exact ⟨_, Hp.sub_refl, h3.sub, by rw [hI]⟩
        · rw [if_neg hn] at hI
          simp (dsimp := false) (implicitDefEqProofs := false) (disch := first | omega | assumption | (simp only [rL, Nat.reduceAdd]; try omega)) only [↓rD, rU, ev, ofConst, ofCell, ↓reduceIte, Nat.reduceEqDiff, Nat.reduceAdd, Nat.reduceSub, Nat.reduceMul, Nat.reduceLeDiff, Nat.reduceLT, Int.reduceNeg, Int.reduceToNat, Int.reduceAdd, Int.reduceSub, Int.reduceMul, Int.reduceLT, Int.reduceLE, Int.reduceEq, rX, List.drop_succ_cons, ↓rF, rG, ne_eq, not_true_eq_false, not_false_eq_true, Int.reduceNe, List.getElem?_cons_zero, List.getElem?_cons_succ, ↓rK, rM, f0, f3, f4, g2, g4, hz, b2sA_one, hn]
          exact ⟨_, Hp.sub_refl, h3.sub, by rw [hI]⟩
      · have hge : 10 ≤ u := by omega
        simp (dsimp := false) (implicitDefEqProofs := false) (disch := first | omega | assumption | (simp only [rL, Nat.reduceAdd]; try omega)) only [↓rD, rU, ev, ofConst, ofCell, ↓reduceIte, Nat.reduceEqDiff, Nat.reduceAdd, Nat.reduceSub, Nat.reduceMul, Nat.reduceLeDiff, Nat.reduceLT, Int.reduceNeg, Int.reduceToNat, Int.reduceAdd, Int.reduceSub, Int.reduceMul, Int.reduceLT, Int.reduceLE, Int.reduceEq, rX, List.drop_succ_cons, ↓rF, rG, ne_eq, not_true_eq_false, not_false_eq_true, Int.reduceNe, List.getElem?_cons_zero, List.getElem?_cons_succ, ↓rK, rM, f0, f3, f4, g2, g4, hz, b2sA_one]
        refine ⟨⟨k - 1, u / 10, UInt8.ofNat (48 + u % 10) :: suf, h3.sub, rfl, rfl, ?_, ?_, ?_, ?_, ?_⟩, ?_⟩
        · rcases k with _ | _ | k
          · omega
          · simp at hlt; omega
          · omega
        · rcases k with _ | k
          · omega
          · rw [Nat.pow_succ] at hlt; simp only [Nat.add_sub_cancel]; omega
        · simp; omega
        · rw [← hd]
          rcases k with _ | k
          · omega
          · simp only [Nat.add_sub_cancel, decF]; rw [if_neg (by omega)]; simp
        · omega
        · omega
end Go.Proofs.YtgfbealjkdhdbaaGreatDoor
/-
  ref27.Text.
-/
set_option maxRecDepth 100000
namespace Go.Proofs.YtgfbealjkdhdbaaGreatDoor
open Go Go.Av
theorem binA_addSep {a : List UInt8} (h : a.length + 2 ≤ 9223372036854775807) : binA .add (strV a) (.v (.string ⟨#[59, 32]⟩)) = some (strV (a ++ [59, 32])) := binA_addS (b := [59, 32]) h
theorem refTextR_spec (rows : List (List Int)) (hR : RowsOk rows) (av : List AV) (o : Own) (c : Int) (s : Hp) (hA : AllV rowR rows av) :
    AC Tryz.prog 8 [.agg [.sl av o, .v (.int .i64 c)], .v (.bool false)] s fun r s' => s.sub s' ∧ r = strV (textB rows) := by
  refine AC_run hm prep8 (by simp) ?_
  have hlen := hA.len
  have hRn := hR.n
  have hM : ∀ x ∈ rows.map rowT, x.length ≤ 1100 := by
    intro x hx
    obtain ⟨r, hr, rfl⟩ := List.mem_map.1 hx
    exact rowT_len (hR.r r hr).1
  simp (dsimp := false) (implicitDefEqProofs := false) (disch := first | omega | assumption | (simp only [rL, Nat.reduceAdd]; try omega)) only [↓rA, rZ, List.drop_succ_cons, ne_eq, not_true_eq_false, not_false_eq_true, List.getElem?_cons_zero, List.getElem?_cons_succ, ev, ofConst, ofCell, ↓reduceIte, Nat.reduceEqDiff, Nat.reduceAdd, Nat.reduceSub, Nat.reduceMul, Nat.reduceLeDiff, Nat.reduceLT, Int.reduceNeg, Int.reduceToNat, Int.reduceAdd, Int.reduceSub, Int.reduceMul, Int.reduceLT, Int.reduceLE, Int.reduceEq, Int.reduceNe]
  refine newK_intro fun l2 n2 => ?_
  have hs2 : s.sub (s.set l2 (.cells [.sl av o, .v (.int .i64 c)])) := Hp.sub_new Hp.sub_refl n2
  simp (dsimp := false) (implicitDefEqProofs := false) (disch := first | omega | assumption | (simp only [rL, Nat.reduceAdd]; try omega)) only [↓rA, rZ, List.drop_succ_cons, ne_eq, not_true_eq_false, not_false_eq_true, List.getElem?_cons_zero, List.getElem?_cons_succ, ev, ofConst, ofCell, ↓reduceIte, Nat.reduceEqDiff, Nat.reduceAdd, Nat.reduceSub, Nat.reduceMul, Nat.reduceLeDiff, Nat.reduceLT, Int.reduceNeg, Int.reduceToNat, Int.reduceAdd, Int.reduceSub, Int.reduceMul, Int.reduceLT, Int.reduceLE, Int.reduceEq, Int.reduceNe]
  refine loop_intro (fun f s' => ∃ i : Nat, i ≤ rows.length ∧ s.sub s' ∧ s' l2 = some (.cells [.sl av o, .v (.int .i64 c)]) ∧ f 2 = .ptr l2 0 ∧ f 5 = strV (joinW [59, 32] ((rows.map rowT).take i)) ∧ f 6 = .v (.int .i64 i))
    (fun f _ => match f 6 with | .v (.int _ n) => rows.length - n.toNat | _ => 0) ⟨0, by omega, hs2, Hp.set_same _ _ _, ?_⟩ ?_
  · simp (dsimp := false) (implicitDefEqProofs := false) (disch := first | omega | assumption | (simp only [rL, Nat.reduceAdd]; try omega)) only [↓rA, rZ, List.drop_succ_cons, ne_eq, not_true_eq_false, not_false_eq_true, List.getElem?_cons_zero, List.getElem?_cons_succ, ev, ofConst, ofCell, ↓reduceIte, Nat.reduceEqDiff, Nat.reduceAdd, Nat.reduceSub, Nat.reduceMul, Nat.reduceLeDiff, Nat.reduceLT, Int.reduceNeg, Int.reduceToNat, Int.reduceAdd, Int.reduceSub, Int.reduceMul, Int.reduceLT, Int.reduceLE, Int.reduceEq, Int.reduceNe]
    rfl
  · rintro f s' ⟨i, hi, hs, g2, f2, f5, f6⟩
    by_cases hlt : (i : Int) < (rows.length : Int)
    · have hi' : i < rows.length := by omega
      have hel : rows[i]? = some rows[i] := List.getElem?_eq_getElem hi'
      have hmem : rows[i] ∈ rows := List.getElem_mem _
      generalize rows[i] = r at hel hmem
      obtain ⟨hr50, hrv⟩ := hR.r r hmem
      obtain ⟨o2, hia⟩ := iaSA_row (o := o) hA hel
      have hstep := joinW_step (sep := [59, 32]) (l := rows.map rowT) (i := i) (x := rowT r) (by rw [List.getElem?_map, hel]; rfl)
      have hpl := preW_len (sep := [59, 32]) (i := i) hM (by rw [List.length_map]; omega)
      have hpl2 : (preW [59, 32] (rows.map rowT) i).length ≤ 120000 := by
        simp only [List.length_cons, List.length_nil] at hpl
        have : i * (1100 + (0 + 1 + 1)) ≤ 100 * 1102 := Nat.mul_le_mul (by omega) (by omega)
        omega
      simp (dsimp := false) (implicitDefEqProofs := false) (disch := first | omega | assumption | (simp only [rL, Nat.reduceAdd]; try omega)) only [↓rA, rZ, List.drop_succ_cons, ne_eq, not_true_eq_false, not_false_eq_true, List.getElem?_cons_zero, List.getElem?_cons_succ, ev, ofConst, ofCell, ↓reduceIte, Nat.reduceEqDiff, Nat.reduceAdd, Nat.reduceSub, Nat.reduceMul, Nat.reduceLeDiff, Nat.reduceLT, Int.reduceNeg, Int.reduceToNat, Int.reduceAdd, Int.reduceSub, Int.reduceMul, Int.reduceLT, Int.reduceLE, Int.reduceEq, Int.reduceNe, f2, f5, f6, Hp.read_of g2, hlen, hlt]
      refine cond_join (fun f s2 => s2 = s' ∧ f 5 = strV (preW [59, 32] (rows.map rowT) i) ∧ f 2 = .ptr l2 0 ∧ f 6 = .v (.int .i64 i)) ?_ ?_ ?_
      · intro hc
        have hc' : ¬ i = 0 := by rw [decide_eq_true_eq] at hc; omega
        have e : preW [59, 32] (rows.map rowT) i = joinW [59, 32] ((rows.map rowT).take i) ++ [59, 32] := by rw [preW, if_neg hc']
        rw [e] at hpl2 ⊢
        simp only [List.length_append, List.length_cons, List.length_nil] at hpl2
        simp (dsimp := false) (implicitDefEqProofs := false) (disch := first | omega | assumption | (simp only [rL, Nat.reduceAdd]; try omega)) only [↓rA, rZ, List.drop_succ_cons, ne_eq, not_true_eq_false, not_false_eq_true, List.getElem?_cons_zero, List.getElem?_cons_succ, ev, ofConst, ofCell, ↓reduceIte, Nat.reduceEqDiff, Nat.reduceAdd, Nat.reduceSub, Nat.reduceMul, Nat.reduceLeDiff, Nat.reduceLT, Int.reduceNeg, Int.reduceToNat, Int.reduceAdd, Int.reduceSub, Int.reduceMul, Int.reduceLT, Int.reduceLE, Int.reduceEq, Int.reduceNe, f2, f5, f6, binA_addSep]
      · intro hc
        have hc' : i = 0 := by rw [decide_eq_false_iff_not] at hc; omega
        have e : preW [59, 32] (rows.map rowT) i = joinW [59, 32] ((rows.map rowT).take i) := by rw [preW, if_pos hc']; subst hc'; rfl
        rw [e]
        simp (dsimp := false) (implicitDefEqProofs := false) (disch := first | omega | assumption | (simp only [rL, Nat.reduceAdd]; try omega)) only [↓rA, rZ, List.drop_succ_cons, ne_eq, not_true_eq_false, not_false_eq_true, List.getElem?_cons_zero, List.getElem?_cons_succ, ev, ofConst, ofCell, ↓reduceIte, Nat.reduceEqDiff, Nat.reduceAdd, Nat.reduceSub, Nat.reduceMul, Nat.reduceLeDiff, Nat.reduceLT, Int.reduceNeg, Int.reduceToNat, Int.reduceAdd, Int.reduceSub, Int.reduceMul, Int.reduceLT, Int.reduceLE, Int.reduceEq, Int.reduceNe, f2, f5, f6]
      have g6 := f6
      clear f2 f5 f6
      generalize preW [59, 32] (rows.map rowT) i = pre at hstep hpl2
      rintro f s2 ⟨rfl, f5, f2, f6⟩
      have hil : (intsV r).length = r.length := by simp [intsV]
      simp (dsimp := false) (implicitDefEqProofs := false) (disch := first | omega | assumption | (simp only [rL, Nat.reduceAdd]; try omega)) only [↓rA, rZ, List.drop_succ_cons, ne_eq, not_true_eq_false, not_false_eq_true, List.getElem?_cons_zero, List.getElem?_cons_succ, ev, ofConst, ofCell, ↓reduceIte, Nat.reduceEqDiff, Nat.reduceAdd, Nat.reduceSub, Nat.reduceMul, Nat.reduceLeDiff, Nat.reduceLT, Int.reduceNeg, Int.reduceToNat, Int.reduceAdd, Int.reduceSub, Int.reduceMul, Int.reduceLT, Int.reduceLE, Int.reduceEq, Int.reduceNe, f2, f5, f6]
      refine loop_intro (fun f s3 => ∃ k : Nat, k ≤ r.length ∧ s2.sub s3 ∧ f 2 = .ptr l2 0 ∧ f 5 = strV (pre ++ joinW [32] ((r.map itoaS).take k)) ∧ f 6 = .v (.int .i64 i) ∧ f 7 = .v (.int .i64 k))
        (fun f _ => match f 7 with | .v (.int _ n) => r.length - n.toNat | _ => 0) ⟨0, by omega, Hp.sub_refl, ?_⟩ ?_
      · simp (dsimp := false) (implicitDefEqProofs := false) (disch := first | omega | assumption | (simp only [rL, Nat.reduceAdd]; try omega)) only [↓rA, rZ, List.drop_succ_cons, ne_eq, not_true_eq_false, not_false_eq_true, List.getElem?_cons_zero, List.getElem?_cons_succ, ev, ofConst, ofCell, ↓reduceIte, Nat.reduceEqDiff, Nat.reduceAdd, Nat.reduceSub, Nat.reduceMul, Nat.reduceLeDiff, Nat.reduceLT, Int.reduceNeg, Int.reduceToNat, Int.reduceAdd, Int.reduceSub, Int.reduceMul, Int.reduceLT, Int.reduceLE, Int.reduceEq, Int.reduceNe, f2, f5, f6]
        simp [joinW]
      · clear f2 f5 f6
        rintro f s3 ⟨k, hk, hs3, f2, f5, f6, f7⟩
        have k2 := hs3 _ _ g2
        by_cases hkt : (k : Int) < (r.length : Int)
        · have hk' : k < r.length := by omega
          have hev : r[k]? = some r[k] := List.getElem?_eq_getElem hk'
          have hvm : r[k] ∈ r := List.getElem_mem _
          generalize r[k] = v at hev hvm
          obtain ⟨v0, v1⟩ := hrv v hvm
          have hst := joinW_step (sep := [32]) (l := r.map itoaS) (i := k) (x := itoaS v) (by rw [List.getElem?_map, hev]; rfl)
          have hM2 : ∀ x ∈ r.map itoaS, x.length ≤ 21 := by intro x hx; obtain ⟨v, _, rfl⟩ := List.mem_map.1 hx; exact itoaS_le v
          have hpk := preW_len (sep := [32]) (i := k) hM2 (by rw [List.length_map]; omega)
          simp only [List.length_singleton] at hpk
          simp (dsimp := false) (implicitDefEqProofs := false) (disch := first | omega | assumption | (simp only [rL, Nat.reduceAdd]; try omega)) only [↓rA, rZ, List.drop_succ_cons, ne_eq, not_true_eq_false, not_false_eq_true, List.getElem?_cons_zero, List.getElem?_cons_succ, ev, ofConst, ofCell, ↓reduceIte, Nat.reduceEqDiff, Nat.reduceAdd, Nat.reduceSub, Nat.reduceMul, Nat.reduceLeDiff, Nat.reduceLT, Int.reduceNeg, Int.reduceToNat, Int.reduceAdd, Int.reduceSub, Int.reduceMul, Int.reduceLT, Int.reduceLE, Int.reduceEq, Int.reduceNe, f2, f5, f6, f7, Hp.read_of k2, hia, hil, hkt]
          refine cond_join (fun f s2 => s2 = s3 ∧ f 5 = strV (pre ++ preW [32] (r.map itoaS) k) ∧ f 2 = .ptr l2 0 ∧ f 6 = .v (.int .i64 i) ∧ f 7 = .v (.int .i64 k)) ?_ ?_ ?_
          · intro hc
            have hc' : ¬ k = 0 := by rw [decide_eq_true_eq] at hc; omega
            have e : preW [32] (r.map itoaS) k = joinW [32] ((r.map itoaS).take k) ++ [32] := by rw [preW, if_neg hc']
            rw [e] at hpk ⊢
            simp only [List.length_append, List.length_cons, List.length_nil] at hpk
            have hb : (pre ++ joinW [32] ((r.map itoaS).take k)).length + 1 ≤ 9223372036854775807 := by rw [List.length_append]; omega
            rw [← List.append_assoc]
            simp (dsimp := false) (implicitDefEqProofs := false) (disch := first | omega | assumption | (simp only [rL, Nat.reduceAdd]; try omega)) only [↓rA, rZ, List.drop_succ_cons, ne_eq, not_true_eq_false, not_false_eq_true, List.getElem?_cons_zero, List.getElem?_cons_succ, ev, ofConst, ofCell, ↓reduceIte, Nat.reduceEqDiff, Nat.reduceAdd, Nat.reduceSub, Nat.reduceMul, Nat.reduceLeDiff, Nat.reduceLT, Int.reduceNeg, Int.reduceToNat, Int.reduceAdd, Int.reduceSub, Int.reduceMul, Int.reduceLT, Int.reduceLE, Int.reduceEq, Int.reduceNe, f2, f5, f6, f7, binA_addS32]
          · intro hc
            have hc' : k = 0 := by rw [decide_eq_false_iff_not] at hc; omega
            have e : preW [32] (r.map itoaS) k = joinW [32] ((r.map itoaS).take k) := by rw [preW, if_pos hc']; subst hc'; rfl
            rw [e]
            simp (dsimp := false) (implicitDefEqProofs := false) (disch := first | omega | assumption | (simp only [rL, Nat.reduceAdd]; try omega)) only [↓rA, rZ, List.drop_succ_cons, ne_eq, not_true_eq_false, not_false_eq_true, List.getElem?_cons_zero, List.getElem?_cons_succ, ev, ofConst, ofCell, ↓reduceIte, Nat.reduceEqDiff, Nat.reduceAdd, Nat.reduceSub, Nat.reduceMul, Nat.reduceLeDiff, Nat.reduceLT, Int.reduceNeg, Int.reduceToNat, Int.reduceAdd, Int.reduceSub, Int.reduceMul, Int.reduceLT, Int.reduceLE, Int.reduceEq, Int.reduceNe, f2, f5, f6, f7]
          have g7 := f7
          clear f2 f5 f6 f7
          generalize preW [32] (r.map itoaS) k = pk at hst hpk
          rintro f s4 ⟨rfl, f5, f2, f6, f7⟩
          simp (dsimp := false) (implicitDefEqProofs := false) (disch := first | omega | assumption | (simp only [rL, Nat.reduceAdd]; try omega)) only [↓rA, rZ, List.drop_succ_cons, ne_eq, not_true_eq_false, not_false_eq_true, List.getElem?_cons_zero, List.getElem?_cons_succ, ev, ofConst, ofCell, ↓reduceIte, Nat.reduceEqDiff, Nat.reduceAdd, Nat.reduceSub, Nat.reduceMul, Nat.reduceLeDiff, Nat.reduceLT, Int.reduceNeg, Int.reduceToNat, Int.reduceAdd, Int.reduceSub, Int.reduceMul, Int.reduceLT, Int.reduceLE, Int.reduceEq, Int.reduceNe, f2, f5, f6, f7, Hp.read_of k2, hia, iaSA_ints hev]
          refine call_intro (Digits_spec v v0 v1 s4) ?_
          rintro _ s5 ⟨hs5, rfl⟩
          have hiv := itoaS_le v
          have hb : (pre ++ pk).length + (itoaS v).length ≤ 9223372036854775807 := by rw [List.length_append]; omega
          simp (dsimp := false) (implicitDefEqProofs := false) (disch := first | omega | assumption | (simp only [rL, Nat.reduceAdd]; try omega)) only [↓rA, rZ, List.drop_succ_cons, ne_eq, not_true_eq_false, not_false_eq_true, List.getElem?_cons_zero, List.getElem?_cons_succ, ev, ofConst, ofCell, ↓reduceIte, Nat.reduceEqDiff, Nat.reduceAdd, Nat.reduceSub, Nat.reduceMul, Nat.reduceLeDiff, Nat.reduceLT, Int.reduceNeg, Int.reduceToNat, Int.reduceAdd, Int.reduceSub, Int.reduceMul, Int.reduceLT, Int.reduceLE, Int.reduceEq, Int.reduceNe, f2, f5, f6, f7, binA_addS]
          refine ⟨⟨k + 1, by omega, Hp.sub_trans hs3 hs5, ?_⟩, by simp only [g7]; omega⟩
          rw [hst, ← List.append_assoc]; simp
        · obtain rfl : k = r.length := by omega
          have hfull : joinW [32] ((r.map itoaS).take r.length) = rowT r := by
            rw [List.take_of_length_le (by simp)]; rfl
          rw [hfull] at f5
          simp (dsimp := false) (implicitDefEqProofs := false) (disch := first | omega | assumption | (simp only [rL, Nat.reduceAdd]; try omega)) only [↓rA, rZ, List.drop_succ_cons, ne_eq, not_true_eq_false, not_false_eq_true, List.getElem?_cons_zero, List.getElem?_cons_succ, ev, ofConst, ofCell, ↓reduceIte, Nat.reduceEqDiff, Nat.reduceAdd, Nat.reduceSub, Nat.reduceMul, Nat.reduceLeDiff, Nat.reduceLT, Int.reduceNeg, Int.reduceToNat, Int.reduceAdd, Int.reduceSub, Int.reduceMul, Int.reduceLT, Int.reduceLE, Int.reduceEq, Int.reduceNe, f2, f5, f6, f7, Hp.read_of k2, hia, hil, hkt]
          refine ⟨⟨i + 1, by omega, Hp.sub_trans hs hs3, k2, ?_⟩, by simp only [g6]; omega⟩
          rw [hstep]; simp
    · obtain rfl : i = rows.length := by omega
      simp (dsimp := false) (implicitDefEqProofs := false) (disch := first | omega | assumption | (simp only [rL, Nat.reduceAdd]; try omega)) only [↓rA, rZ, List.drop_succ_cons, ne_eq, not_true_eq_false, not_false_eq_true, List.getElem?_cons_zero, List.getElem?_cons_succ, ev, ofConst, ofCell, ↓reduceIte, Nat.reduceEqDiff, Nat.reduceAdd, Nat.reduceSub, Nat.reduceMul, Nat.reduceLeDiff, Nat.reduceLT, Int.reduceNeg, Int.reduceToNat, Int.reduceAdd, Int.reduceSub, Int.reduceMul, Int.reduceLT, Int.reduceLE, Int.reduceEq, Int.reduceNe, f2, f5, f6, Hp.read_of g2, hlen, hlt]
      refine ⟨_, Hp.sub_refl, hs, ?_⟩
      rw [List.take_of_length_le (by simp)]; rfl
theorem refTextC_spec (av : List AV) (o : Own) (c : Int) (h0 : -9223372036854775808 ≤ c) (h1 : c ≤ 9223372036854775807) (s : Hp) :
    AC Tryz.prog 8 [.agg [.sl av o, .v (.int .i64 c)], .v (.bool true)] s fun r s' => s.sub s' ∧ r = strV (itoaS c) := by
  refine AC_run hm prep8 (by simp) ?_
  simp (dsimp := false) (implicitDefEqProofs := false) (disch := first | omega | assumption | (simp only [rL, Nat.reduceAdd]; try omega)) only [↓rA, rZ, List.drop_succ_cons, ne_eq, not_true_eq_false, not_false_eq_true, List.getElem?_cons_zero, List.getElem?_cons_succ, ev, ofConst, ofCell, ↓reduceIte, Nat.reduceEqDiff, Nat.reduceAdd, Nat.reduceSub, Nat.reduceMul, Nat.reduceLeDiff, Nat.reduceLT, Int.reduceNeg, Int.reduceToNat, Int.reduceAdd, Int.reduceSub, Int.reduceMul, Int.reduceLT, Int.reduceLE, Int.reduceEq, Int.reduceNe]
  refine newK_intro fun l2 n2 => ?_
  simp (dsimp := false) (implicitDefEqProofs := false) (disch := first | omega | assumption | (simp only [rL, Nat.reduceAdd]; try omega)) only [↓rA, rZ, List.drop_succ_cons, ne_eq, not_true_eq_false, not_false_eq_true, List.getElem?_cons_zero, List.getElem?_cons_succ, ev, ofConst, ofCell, ↓reduceIte, Nat.reduceEqDiff, Nat.reduceAdd, Nat.reduceSub, Nat.reduceMul, Nat.reduceLeDiff, Nat.reduceLT, Int.reduceNeg, Int.reduceToNat, Int.reduceAdd, Int.reduceSub, Int.reduceMul, Int.reduceLT, Int.reduceLE, Int.reduceEq, Int.reduceNe]
  refine call_intro (Digits_spec c h0 h1 _) ?_
  rintro _ s3 ⟨h3, rfl⟩
  simp (dsimp := false) (implicitDefEqProofs := false) (disch := first | omega | assumption | (simp only [rL, Nat.reduceAdd]; try omega)) only [↓rA, rZ, List.drop_succ_cons, ne_eq, not_true_eq_false, not_false_eq_true, List.getElem?_cons_zero, List.getElem?_cons_succ, ev, ofConst, ofCell, ↓reduceIte, Nat.reduceEqDiff, Nat.reduceAdd, Nat.reduceSub, Nat.reduceMul, Nat.reduceLeDiff, Nat.reduceLT, Int.reduceNeg, Int.reduceToNat, Int.reduceAdd, Int.reduceSub, Int.reduceMul, Int.reduceLT, Int.reduceLE, Int.reduceEq, Int.reduceNe]
  exact ⟨_, Hp.sub_refl, Hp.sub_trans (Hp.sub_new Hp.sub_refl n2) h3⟩
/-! ### law27 -/
theorem alive27_spec (s : Hp) (hT : Tabs s) : AC Tryz.prog 6 [] s fun r s' => s.sub s' ∧ r = .v (.bool true) := by
  refine AC_run hm prep6 (by simp) ?_
  simp (dsimp := false) (implicitDefEqProofs := false) (disch := first | omega | assumption | (simp only [rL, Nat.reduceAdd]; try omega)) only [↓rA, rZ, List.drop_succ_cons, ne_eq, not_true_eq_false, not_false_eq_true, List.getElem?_cons_zero, List.getElem?_cons_succ, ev, ofConst, ofCell, ↓reduceIte, Nat.reduceEqDiff, Nat.reduceAdd, Nat.reduceSub, Nat.reduceMul, Nat.reduceLeDiff, Nat.reduceLT, Int.reduceNeg, Int.reduceToNat, Int.reduceAdd, Int.reduceSub, Int.reduceMul, Int.reduceLT, Int.reduceLE, Int.reduceEq, Int.reduceNe]
  refine bsl_own Hp.sub_refl (show allLen 1 [AV.v (.int .i64 1), .v (.int .i64 5)] from fun e he => by simp at he; rcases he with rfl | rfl <;> rfl) fun o1 s1 h1 => ?_
  simp (dsimp := false) (implicitDefEqProofs := false) (disch := first | omega | assumption | (simp only [rL, Nat.reduceAdd]; try omega)) only [↓rA, rZ, List.drop_succ_cons, ne_eq, not_true_eq_false, not_false_eq_true, List.getElem?_cons_zero, List.getElem?_cons_succ, ev, ofConst, ofCell, ↓reduceIte, Nat.reduceEqDiff, Nat.reduceAdd, Nat.reduceSub, Nat.reduceMul, Nat.reduceLeDiff, Nat.reduceLT, Int.reduceNeg, Int.reduceToNat, Int.reduceAdd, Int.reduceSub, Int.reduceMul, Int.reduceLT, Int.reduceLE, Int.reduceEq, Int.reduceNe]
  refine bsl_own Hp.sub_refl (show allLen 1 [AV.v (.int .i64 2), .v (.int .i64 (-7))] from fun e he => by simp at he; rcases he with rfl | rfl <;> rfl) fun o2 s2 h2 => ?_
  simp (dsimp := false) (implicitDefEqProofs := false) (disch := first | omega | assumption | (simp only [rL, Nat.reduceAdd]; try omega)) only [↓rA, rZ, List.drop_succ_cons, ne_eq, not_true_eq_false, not_false_eq_true, List.getElem?_cons_zero, List.getElem?_cons_succ, ev, ofConst, ofCell, ↓reduceIte, Nat.reduceEqDiff, Nat.reduceAdd, Nat.reduceSub, Nat.reduceMul, Nat.reduceLeDiff, Nat.reduceLT, Int.reduceNeg, Int.reduceToNat, Int.reduceAdd, Int.reduceSub, Int.reduceMul, Int.reduceLT, Int.reduceLE, Int.reduceEq, Int.reduceNe]
  refine bsl_own Hp.sub_refl (show allLen 1 [AV.sl [AV.v (.int .i64 1), .v (.int .i64 5)] o1, .sl [AV.v (.int .i64 2), .v (.int .i64 (-7))] o2] from fun e he => by simp at he; rcases he with rfl | rfl <;> rfl) fun o3 s3 h3 => ?_
  have hs3 := Hp.sub_trans h1.sub (Hp.sub_trans h2.sub h3.sub)
  simp (dsimp := false) (implicitDefEqProofs := false) (disch := first | omega | assumption | (simp only [rL, Nat.reduceAdd]; try omega)) only [↓rA, rZ, List.drop_succ_cons, ne_eq, not_true_eq_false, not_false_eq_true, List.getElem?_cons_zero, List.getElem?_cons_succ, ev, ofConst, ofCell, ↓reduceIte, Nat.reduceEqDiff, Nat.reduceAdd, Nat.reduceSub, Nat.reduceMul, Nat.reduceLeDiff, Nat.reduceLT, Int.reduceNeg, Int.reduceToNat, Int.reduceAdd, Int.reduceSub, Int.reduceMul, Int.reduceLT, Int.reduceLE, Int.reduceEq, Int.reduceNe, putAt_z1]
  have hok : RowsOk [[1, 5], [2, -7]] := ⟨by decide, by decide⟩
  have hA : AllV rowR [[1, 5], [2, -7]] [AV.sl [AV.v (.int .i64 1), .v (.int .i64 5)] o1, .sl [AV.v (.int .i64 2), .v (.int .i64 (-7))] o2] :=
    ⟨⟨[AV.v (.int .i64 1), .v (.int .i64 5)], o1, ⟨rfl, rfl, trivial⟩, rfl⟩, ⟨[AV.v (.int .i64 2), .v (.int .i64 (-7))], o2, ⟨rfl, rfl, trivial⟩, rfl⟩, trivial⟩
  refine call_intro (Text_spec _ hok _ o3 0 s3 (hT.mono hs3) hA) ?_
  rintro _ s4 ⟨h4, rfl⟩
  have e : textB [[1, 5], [2, -7]] = [49, 32, 53, 59, 32, 50, 32, 45, 55] := by kernel_rfl
  rw [e]
  have hs4 := Hp.sub_trans hs3 h4
  simp (dsimp := false) (implicitDefEqProofs := false) (disch := first | omega | assumption | (simp only [rL, Nat.reduceAdd]; try omega)) only [↓rA, rZ, List.drop_succ_cons, ne_eq, not_true_eq_false, not_false_eq_true, List.getElem?_cons_zero, List.getElem?_cons_succ, ev, ofConst, ofCell, ↓reduceIte, Nat.reduceEqDiff, Nat.reduceAdd, Nat.reduceSub, Nat.reduceMul, Nat.reduceLeDiff, Nat.reduceLT, Int.reduceNeg, Int.reduceToNat, Int.reduceAdd, Int.reduceSub, Int.reduceMul, Int.reduceLT, Int.reduceLE, Int.reduceEq, Int.reduceNe, strV]
  refine call_intro (IsQuery_spec _ s4 (hT.mono hs4)) ?_
  rintro _ s5 ⟨h5, rfl⟩
  rw [q1]
  have hs5 := Hp.sub_trans hs4 h5
  simp (dsimp := false) (implicitDefEqProofs := false) (disch := first | omega | assumption | (simp only [rL, Nat.reduceAdd]; try omega)) only [↓rA, rZ, List.drop_succ_cons, ne_eq, not_true_eq_false, not_false_eq_true, List.getElem?_cons_zero, List.getElem?_cons_succ, ev, ofConst, ofCell, ↓reduceIte, Nat.reduceEqDiff, Nat.reduceAdd, Nat.reduceSub, Nat.reduceMul, Nat.reduceLeDiff, Nat.reduceLT, Int.reduceNeg, Int.reduceToNat, Int.reduceAdd, Int.reduceSub, Int.reduceMul, Int.reduceLT, Int.reduceLE, Int.reduceEq, Int.reduceNe]
  refine call_intro (IsQuery_spec _ s5 (hT.mono hs5)) ?_
  rintro _ s6 ⟨h6, rfl⟩
  rw [q2]
  have hs6 := Hp.sub_trans hs5 h6
  simp (dsimp := false) (implicitDefEqProofs := false) (disch := first | omega | assumption | (simp only [rL, Nat.reduceAdd]; try omega)) only [↓rA, rZ, List.drop_succ_cons, ne_eq, not_true_eq_false, not_false_eq_true, List.getElem?_cons_zero, List.getElem?_cons_succ, ev, ofConst, ofCell, ↓reduceIte, Nat.reduceEqDiff, Nat.reduceAdd, Nat.reduceSub, Nat.reduceMul, Nat.reduceLeDiff, Nat.reduceLT, Int.reduceNeg, Int.reduceToNat, Int.reduceAdd, Int.reduceSub, Int.reduceMul, Int.reduceLT, Int.reduceLE, Int.reduceEq, Int.reduceNe]
  refine call_intro (IsQuery_spec _ s6 (hT.mono hs6)) ?_
  rintro _ s7 ⟨h7, rfl⟩
  rw [q3]
  simp (dsimp := false) (implicitDefEqProofs := false) (disch := first | omega | assumption | (simp only [rL, Nat.reduceAdd]; try omega)) only [↓rA, rZ, List.drop_succ_cons, ne_eq, not_true_eq_false, not_false_eq_true, List.getElem?_cons_zero, List.getElem?_cons_succ, ev, ofConst, ofCell, ↓reduceIte, Nat.reduceEqDiff, Nat.reduceAdd, Nat.reduceSub, Nat.reduceMul, Nat.reduceLeDiff, Nat.reduceLT, Int.reduceNeg, Int.reduceToNat, Int.reduceAdd, Int.reduceSub, Int.reduceMul, Int.reduceLT, Int.reduceLE, Int.reduceEq, Int.reduceNe]
  exact ⟨_, Hp.sub_refl, Hp.sub_trans hs6 h7⟩
end Go.Proofs.YtgfbealjkdhdbaaGreatDoor
/-
  law27.ClientTexts.
-/
set_option maxRecDepth 100000
namespace Go.Proofs.YtgfbealjkdhdbaaGreatDoor
open Go Go.Av
theorem take2 {a b : AV} : List.take 2 [a, b] = [a, b] := rfl
theorem ClientTexts_spec (rows : List (List Int)) (hv : ∀ r ∈ rows, ∀ v ∈ r, -9223372036854775808 ≤ v ∧ v ≤ 9223372036854775807) (hn : rows.length ≤ 9223372036854775807) (av : List AV) (o : Own) (c : Int) (h0 : -9223372036854775808 ≤ c) (h1 : c ≤ 9223372036854775807) (cnt : Bool) (s : Hp) (hT : Tabs s) (hA : AllV rowR rows av) :
    AC Tryz.prog 3 [.agg [.sl av o, .v (.int .i64 c)], .v (.bool cnt)] s fun r s' => r = .v (.bool true) := by
  refine AC_run hm prep3 (by simp) ?_
  have hlen := hA.len
  simp (dsimp := false) (implicitDefEqProofs := false) (disch := first | omega | assumption | (simp only [rL, Nat.reduceAdd]; try omega)) only [↓rA, rZ, List.drop_succ_cons, ne_eq, not_true_eq_false, not_false_eq_true, List.getElem?_cons_zero, List.getElem?_cons_succ, ev, ofConst, ofCell, ↓reduceIte, Nat.reduceEqDiff, Nat.reduceAdd, Nat.reduceSub, Nat.reduceMul, Nat.reduceLeDiff, Nat.reduceLT, Int.reduceNeg, Int.reduceToNat, Int.reduceAdd, Int.reduceSub, Int.reduceMul, Int.reduceLT, Int.reduceLE, Int.reduceEq, Int.reduceNe]
  refine newK_intro fun l2 n2 => ?_
  have hs2 : s.sub (s.set l2 (.cells [.sl av o, .v (.int .i64 c)])) := Hp.sub_new Hp.sub_refl n2
  simp (dsimp := false) (implicitDefEqProofs := false) (disch := first | omega | assumption | (simp only [rL, Nat.reduceAdd]; try omega)) only [↓rA, rZ, List.drop_succ_cons, ne_eq, not_true_eq_false, not_false_eq_true, List.getElem?_cons_zero, List.getElem?_cons_succ, ev, ofConst, ofCell, ↓reduceIte, Nat.reduceEqDiff, Nat.reduceAdd, Nat.reduceSub, Nat.reduceMul, Nat.reduceLeDiff, Nat.reduceLT, Int.reduceNeg, Int.reduceToNat, Int.reduceAdd, Int.reduceSub, Int.reduceMul, Int.reduceLT, Int.reduceLE, Int.reduceEq, Int.reduceNe]
  refine call_intro (alive27_spec _ (hT.mono hs2)) ?_
  rintro _ s3 ⟨h3, rfl⟩
  have g3 := h3 _ _ (Hp.set_same _ _ _)
  have hs3 := Hp.sub_trans hs2 h3
  by_cases h100 : 100 < (rows.length : Int)
  · simp (dsimp := false) (implicitDefEqProofs := false) (disch := first | omega | assumption | (simp only [rL, Nat.reduceAdd]; try omega)) only [↓rA, rZ, List.drop_succ_cons, ne_eq, not_true_eq_false, not_false_eq_true, List.getElem?_cons_zero, List.getElem?_cons_succ, ev, ofConst, ofCell, ↓reduceIte, Nat.reduceEqDiff, Nat.reduceAdd, Nat.reduceSub, Nat.reduceMul, Nat.reduceLeDiff, Nat.reduceLT, Int.reduceNeg, Int.reduceToNat, Int.reduceAdd, Int.reduceSub, Int.reduceMul, Int.reduceLT, Int.reduceLE, Int.reduceEq, Int.reduceNe, Hp.read_of g3, hlen, h100]
    exact ⟨_, Hp.sub_refl⟩
  · simp (dsimp := false) (implicitDefEqProofs := false) (disch := first | omega | assumption | (simp only [rL, Nat.reduceAdd]; try omega)) only [↓rA, rZ, List.drop_succ_cons, ne_eq, not_true_eq_false, not_false_eq_true, List.getElem?_cons_zero, List.getElem?_cons_succ, ev, ofConst, ofCell, ↓reduceIte, Nat.reduceEqDiff, Nat.reduceAdd, Nat.reduceSub, Nat.reduceMul, Nat.reduceLeDiff, Nat.reduceLT, Int.reduceNeg, Int.reduceToNat, Int.reduceAdd, Int.reduceSub, Int.reduceMul, Int.reduceLT, Int.reduceLE, Int.reduceEq, Int.reduceNe, Hp.read_of g3, hlen, h100]
    refine loop_intro (fun f s' => ∃ i : Nat, i ≤ rows.length ∧ s' = s3 ∧ f 1 = .v (.bool cnt) ∧ f 2 = .ptr l2 0 ∧ f 5 = .v (.int .i64 i) ∧ ∀ j r, j < i → rows[j]? = some r → r.length ≤ 50)
      (fun f _ => match f 5 with | .v (.int _ n) => rows.length - n.toNat | _ => 0) ⟨0, by omega, rfl, ?_⟩ ?_
    · simp (dsimp := false) (implicitDefEqProofs := false) (disch := first | omega | assumption | (simp only [rL, Nat.reduceAdd]; try omega)) only [↓rA, rZ, List.drop_succ_cons, ne_eq, not_true_eq_false, not_false_eq_true, List.getElem?_cons_zero, List.getElem?_cons_succ, ev, ofConst, ofCell, ↓reduceIte, Nat.reduceEqDiff, Nat.reduceAdd, Nat.reduceSub, Nat.reduceMul, Nat.reduceLeDiff, Nat.reduceLT, Int.reduceNeg, Int.reduceToNat, Int.reduceAdd, Int.reduceSub, Int.reduceMul, Int.reduceLT, Int.reduceLE, Int.reduceEq, Int.reduceNe]
      intro j r h; omega
    · rintro f s' ⟨i, hi, rfl, f1, f2, f5, hall⟩
      by_cases hlt : (i : Int) < (rows.length : Int)
      · have hi' : i < rows.length := by omega
        have hel : rows[i]? = some rows[i] := List.getElem?_eq_getElem hi'
        generalize rows[i] = r at hel
        obtain ⟨o2, hia⟩ := iaSA_row (o := o) hA hel
        have hil : (intsV r).length = r.length := by simp [intsV]
        by_cases h50 : 50 < (r.length : Int)
        · simp (dsimp := false) (implicitDefEqProofs := false) (disch := first | omega | assumption | (simp only [rL, Nat.reduceAdd]; try omega)) only [↓rA, rZ, List.drop_succ_cons, ne_eq, not_true_eq_false, not_false_eq_true, List.getElem?_cons_zero, List.getElem?_cons_succ, ev, ofConst, ofCell, ↓reduceIte, Nat.reduceEqDiff, Nat.reduceAdd, Nat.reduceSub, Nat.reduceMul, Nat.reduceLeDiff, Nat.reduceLT, Int.reduceNeg, Int.reduceToNat, Int.reduceAdd, Int.reduceSub, Int.reduceMul, Int.reduceLT, Int.reduceLE, Int.reduceEq, Int.reduceNe, f1, f2, f5, Hp.read_of g3, hlen, hlt, hia, hil, h50]
          exact ⟨_, Hp.sub_refl⟩
        · simp (dsimp := false) (implicitDefEqProofs := false) (disch := first | omega | assumption | (simp only [rL, Nat.reduceAdd]; try omega)) only [↓rA, rZ, List.drop_succ_cons, ne_eq, not_true_eq_false, not_false_eq_true, List.getElem?_cons_zero, List.getElem?_cons_succ, ev, ofConst, ofCell, ↓reduceIte, Nat.reduceEqDiff, Nat.reduceAdd, Nat.reduceSub, Nat.reduceMul, Nat.reduceLeDiff, Nat.reduceLT, Int.reduceNeg, Int.reduceToNat, Int.reduceAdd, Int.reduceSub, Int.reduceMul, Int.reduceLT, Int.reduceLE, Int.reduceEq, Int.reduceNe, f1, f2, f5, Hp.read_of g3, hlen, hlt, hia, hil, h50]
          refine ⟨⟨i + 1, by omega, by simp, fun j q hj hq => ?_⟩, by omega⟩
          by_cases hji : j = i
          · subst hji; rw [hel] at hq; cases hq; omega
          · exact hall j q (by omega) hq
      · obtain rfl : i = rows.length := by omega
        have hR : RowsOk rows := ⟨by omega, fun r hr => by
          obtain ⟨j, hj, rfl⟩ := List.mem_iff_getElem.1 hr
          exact ⟨hall j _ hj (List.getElem?_eq_getElem hj), hv _ hr⟩⟩
        cases cnt with
        | false =>
          simp (dsimp := false) (implicitDefEqProofs := false) (disch := first | omega | assumption | (simp only [rL, Nat.reduceAdd]; try omega)) only [↓rA, rZ, List.drop_succ_cons, ne_eq, not_true_eq_false, not_false_eq_true, List.getElem?_cons_zero, List.getElem?_cons_succ, ev, ofConst, ofCell, ↓reduceIte, Nat.reduceEqDiff, Nat.reduceAdd, Nat.reduceSub, Nat.reduceMul, Nat.reduceLeDiff, Nat.reduceLT, Int.reduceNeg, Int.reduceToNat, Int.reduceAdd, Int.reduceSub, Int.reduceMul, Int.reduceLT, Int.reduceLE, Int.reduceEq, Int.reduceNe, f1, f2, f5, Hp.read_of g3, hlen, hlt, take2]
          refine call_intro (Text_spec rows hR av o c _ (hT.mono hs3) hA) ?_
          rintro _ s4 ⟨h4, rfl⟩
          have g4 := h4 _ _ g3
          simp (dsimp := false) (implicitDefEqProofs := false) (disch := first | omega | assumption | (simp only [rL, Nat.reduceAdd]; try omega)) only [↓rA, rZ, List.drop_succ_cons, ne_eq, not_true_eq_false, not_false_eq_true, List.getElem?_cons_zero, List.getElem?_cons_succ, ev, ofConst, ofCell, ↓reduceIte, Nat.reduceEqDiff, Nat.reduceAdd, Nat.reduceSub, Nat.reduceMul, Nat.reduceLeDiff, Nat.reduceLT, Int.reduceNeg, Int.reduceToNat, Int.reduceAdd, Int.reduceSub, Int.reduceMul, Int.reduceLT, Int.reduceLE, Int.reduceEq, Int.reduceNe, f1, f2, f5, Hp.read_of g4, take2]
          refine call_intro (refTextR_spec rows hR av o c _ hA) ?_
          rintro _ s5 ⟨h5, rfl⟩
          simp (dsimp := false) (implicitDefEqProofs := false) (disch := first | omega | assumption | (simp only [rL, Nat.reduceAdd]; try omega)) only [↓rA, rZ, List.drop_succ_cons, ne_eq, not_true_eq_false, not_false_eq_true, List.getElem?_cons_zero, List.getElem?_cons_succ, ev, ofConst, ofCell, ↓reduceIte, Nat.reduceEqDiff, Nat.reduceAdd, Nat.reduceSub, Nat.reduceMul, Nat.reduceLeDiff, Nat.reduceLT, Int.reduceNeg, Int.reduceToNat, Int.reduceAdd, Int.reduceSub, Int.reduceMul, Int.reduceLT, Int.reduceLE, Int.reduceEq, Int.reduceNe, f1, f2, f5, binA_eqlS, decide_true]
          exact ⟨_, Hp.sub_refl⟩
        | true =>
          simp (dsimp := false) (implicitDefEqProofs := false) (disch := first | omega | assumption | (simp only [rL, Nat.reduceAdd]; try omega)) only [↓rA, rZ, List.drop_succ_cons, ne_eq, not_true_eq_false, not_false_eq_true, List.getElem?_cons_zero, List.getElem?_cons_succ, ev, ofConst, ofCell, ↓reduceIte, Nat.reduceEqDiff, Nat.reduceAdd, Nat.reduceSub, Nat.reduceMul, Nat.reduceLeDiff, Nat.reduceLT, Int.reduceNeg, Int.reduceToNat, Int.reduceAdd, Int.reduceSub, Int.reduceMul, Int.reduceLT, Int.reduceLE, Int.reduceEq, Int.reduceNe, f1, f2, f5, Hp.read_of g3, hlen, hlt, take2]
          refine call_intro (TextCount_spec av o c h0 h1 _ (hT.mono hs3)) ?_
          rintro _ s4 ⟨h4, rfl⟩
          have g4 := h4 _ _ g3
          simp (dsimp := false) (implicitDefEqProofs := false) (disch := first | omega | assumption | (simp only [rL, Nat.reduceAdd]; try omega)) only [↓rA, rZ, List.drop_succ_cons, ne_eq, not_true_eq_false, not_false_eq_true, List.getElem?_cons_zero, List.getElem?_cons_succ, ev, ofConst, ofCell, ↓reduceIte, Nat.reduceEqDiff, Nat.reduceAdd, Nat.reduceSub, Nat.reduceMul, Nat.reduceLeDiff, Nat.reduceLT, Int.reduceNeg, Int.reduceToNat, Int.reduceAdd, Int.reduceSub, Int.reduceMul, Int.reduceLT, Int.reduceLE, Int.reduceEq, Int.reduceNe, f1, f2, f5, Hp.read_of g4, take2]
          refine call_intro (refTextC_spec av o c h0 h1 _) ?_
          rintro _ s5 ⟨h5, rfl⟩
          simp (dsimp := false) (implicitDefEqProofs := false) (disch := first | omega | assumption | (simp only [rL, Nat.reduceAdd]; try omega)) only [↓rA, rZ, List.drop_succ_cons, ne_eq, not_true_eq_false, not_false_eq_true, List.getElem?_cons_zero, List.getElem?_cons_succ, ev, ofConst, ofCell, ↓reduceIte, Nat.reduceEqDiff, Nat.reduceAdd, Nat.reduceSub, Nat.reduceMul, Nat.reduceLeDiff, Nat.reduceLT, Int.reduceNeg, Int.reduceToNat, Int.reduceAdd, Int.reduceSub, Int.reduceMul, Int.reduceLT, Int.reduceLE, Int.reduceEq, Int.reduceNe, f1, f2, f5, binA_eqlS, decide_true]
          exact ⟨_, Hp.sub_refl⟩
end Go.Proofs.YtgfbealjkdhdbaaGreatDoor
/-
  Bytes as arguments.
-/
set_option maxRecDepth 100000
namespace Go.Av
open Go
theorem SRep_byte : ∀ (n : Nat) (us : List AV), SRep SByte n us → ∃ bs : List UInt8, bs.length = n ∧ us = bs.map byteAV
  | 0, us, h => ⟨[], rfl, h⟩
  | n + 1, us, h => by
    obtain ⟨a, b, ⟨x, rfl⟩, h2, rfl⟩ := h
    obtain ⟨bs, rfl, rfl⟩ := SRep_byte n b h2
    exact ⟨x :: bs, rfl, rfl⟩
theorem SRep_length {S : List AV → Prop} {k : Nat} (h : ∀ us, S us → us.length = k) : ∀ (n : Nat) (us : List AV), SRep S n us → us.length = n * k
  | 0, us, h => by cases h; simp
  | n + 1, us, hh => by
    obtain ⟨a, b, h1, h2, rfl⟩ := hh
    rw [List.length_append, h a h1, SRep_length h n b h2, Nat.add_mul]; omega
def pk1 (us : List AV) : AV := us.headD (.tup [])
theorem SByte_pk : Pk pk1 SByte 1 := ⟨by rintro us ⟨b, rfl⟩; rfl, by rintro us ⟨b, rfl⟩; rfl⟩
abbrev SBytes : List AV → Prop := SSlice pk1 SByte
theorem SBytes_bs {us : List AV} (h : SBytes us) : ∃ bs : List UInt8, bs.length ≤ maxLen ∧ us = [.sl (bs.map byteAV) .any] := by
  obtain ⟨l, h1, h2, h3⟩ := h
  have : ∃ m : List UInt8, m.length = l.length ∧ l.map pk1 = m.map byteAV := by
    clear h2 h3
    induction l with
    | nil => exact ⟨[], rfl, rfl⟩
    | cons e l ih =>
      obtain ⟨m, m1, m2⟩ := ih fun e he => h1 e (by simp [he])
      obtain ⟨b, rfl⟩ := h1 e (by simp)
      exact ⟨b :: m, by simp [m1], by simp [m2, pk1]⟩
  obtain ⟨m, m1, m2⟩ := this
  exact ⟨m, by omega, by rw [← m2]; exact h3⟩
theorem SBytes_pk : Pk pk1 SBytes 1 := ⟨fun us h => by obtain ⟨bs, _, rfl⟩ := SBytes_bs h; rfl, fun us h => by obtain ⟨bs, _, rfl⟩ := SBytes_bs h; rfl⟩
theorem a_bytes {av : AV} (h : ACell SBytes av) : ∃ bs : List UInt8, bs.length ≤ maxLen ∧ av = .sl (bs.map byteAV) .any := by
  obtain ⟨bs, h1, h2⟩ := SBytes_bs h
  exact ⟨bs, h1, (List.cons.inj h2).1⟩
end Go.Av
/-
  An answer as an argument.
-/
set_option maxRecDepth 100000
namespace Go.Proofs.YtgfbealjkdhdbaaGreatDoor
open Go Go.Av
theorem wf_i64 {n : Int} (h : (Lit.int .i64 n).wf = true) : -9223372036854775808 ≤ n ∧ n ≤ 9223372036854775807 := by
  have h' : IntKind.i64.min ≤ n ∧ n ≤ 9223372036854775807 := by simpa [Lit.wf] using h
  have e : IntKind.i64.min = -9223372036854775808 := by decide
  rw [e] at h'; exact h'
theorem SInt_pk : Pk pk1 (SInt .i64) 1 := ⟨by rintro us ⟨b, _, rfl⟩; rfl, by rintro us ⟨b, _, rfl⟩; rfl⟩
abbrev SInts : List AV → Prop := SSlice pk1 (SInt .i64)
theorem SInts_is {us : List AV} (h : SInts us) : ∃ xs : List Int, (∀ v ∈ xs, -9223372036854775808 ≤ v ∧ v ≤ 9223372036854775807) ∧ xs.length ≤ maxLen ∧ us = [.sl (intsV xs) .any] := by
  obtain ⟨l, h1, h2, h3⟩ := h
  have : ∃ m : List Int, (∀ v ∈ m, -9223372036854775808 ≤ v ∧ v ≤ 9223372036854775807) ∧ m.length = l.length ∧ l.map pk1 = intsV m := by
    clear h2 h3
    induction l with
    | nil => exact ⟨[], by simp, rfl, rfl⟩
    | cons e l ih =>
      obtain ⟨m, m0, m1, m2⟩ := ih fun e he => h1 e (by simp [he])
      obtain ⟨b, hb, rfl⟩ := h1 e (by simp)
      refine ⟨b :: m, ?_, by simp [m1], by simp only [List.map_cons, m2]; rfl⟩
      intro v hv
      rcases List.mem_cons.1 hv with rfl | hv
      · exact wf_i64 hb
      · exact m0 v hv
  obtain ⟨m, m0, m1, m2⟩ := this
  exact ⟨m, m0, by omega, by rw [← m2]; exact h3⟩
theorem SInts_pk : Pk pk1 SInts 1 := ⟨fun us h => by obtain ⟨bs, _, _, rfl⟩ := SInts_is h; rfl, fun us h => by obtain ⟨bs, _, _, rfl⟩ := SInts_is h; rfl⟩
theorem AllV_ints : ∀ xs : List Int, AllV intR xs (intsV xs)
  | [] => trivial
  | x :: r => ⟨rfl, AllV_ints r⟩
abbrev SRows : List AV → Prop := SSlice pk1 SInts
theorem SRows_is {us : List AV} (h : SRows us) : ∃ (rows : List (List Int)) (av : List AV), (∀ r ∈ rows, ∀ v ∈ r, -9223372036854775808 ≤ v ∧ v ≤ 9223372036854775807) ∧ rows.length ≤ maxLen ∧ AllV rowR rows av ∧ us = [.sl av .any] := by
  obtain ⟨l, h1, h2, h3⟩ := h
  have : ∃ (m : List (List Int)) (av : List AV), (∀ r ∈ m, ∀ v ∈ r, -9223372036854775808 ≤ v ∧ v ≤ 9223372036854775807) ∧ m.length = l.length ∧ AllV rowR m av ∧ l.map pk1 = av := by
    clear h2 h3
    induction l with
    | nil => exact ⟨[], [], by simp, rfl, trivial, rfl⟩
    | cons e l ih =>
      obtain ⟨m, av, m0, m1, m2, m3⟩ := ih fun e he => h1 e (by simp [he])
      obtain ⟨b, hb, _, rfl⟩ := SInts_is (h1 e (by simp))
      refine ⟨b :: m, .sl (intsV b) .any :: av, ?_, by simp [m1], ⟨⟨_, _, AllV_ints b, rfl⟩, m2⟩, by simp only [List.map_cons, m3]; rfl⟩
      intro v hv
      rcases List.mem_cons.1 hv with rfl | hv
      · exact hb
      · exact m0 v hv
  obtain ⟨m, av, m0, m1, m2, m3⟩ := this
  exact ⟨m, av, m0, by omega, m2, by rw [← m3]; exact h3⟩
abbrev SAns : List AV → Prop := SParts [SRows, SInt .i64]
theorem ro_row : RO Tryz.prog 27 SInts := RO.slice (k := 1) (by kernel_rfl : Tryz.prog.underlying 27 = some (.slice 2)) (by kernel_rfl) (by omega) SInt_pk ro_i64
theorem ro_rows : RO Tryz.prog 22 SRows := RO.slice (k := 1) (by kernel_rfl : Tryz.prog.underlying 22 = some (.slice 27)) (by kernel_rfl) (by omega) SInts_pk ro_row
theorem ro_ans : RO Tryz.prog 24 SAns := RO.struct (Ss := [SRows, SInt .i64]) Tryz.underlying24 (by
  refine ⟨by kernel_rfl, ro_rows, by kernel_rfl, ro_int, (by show _ = _; kernel_rfl)⟩)
theorem SAns_is {us : List AV} (h : SAns us) : ∃ (rows : List (List Int)) (av : List AV) (c : Int), (∀ r ∈ rows, ∀ v ∈ r, -9223372036854775808 ≤ v ∧ v ≤ 9223372036854775807) ∧ rows.length ≤ maxLen ∧ AllV rowR rows av ∧ (-9223372036854775808 ≤ c ∧ c ≤ 9223372036854775807) ∧ us = [.sl av .any, .v (.int .i64 c)] := by
  obtain ⟨a, x1, h1, ⟨b, x2, ⟨n, hn, rfl⟩, h4, rfl⟩, rfl⟩ := h
  cases h4
  obtain ⟨rows, av, r1, r2, r3, rfl⟩ := SRows_is h1
  exact ⟨rows, av, n, r1, r2, r3, wf_i64 hn, rfl⟩
end Go.Proofs.YtgfbealjkdhdbaaGreatDoor
