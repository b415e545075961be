/- Merged by program from smaller texts; what is proved stands in the last text of the claim. -/
import Derived.Test.YtgfbealjkdhdbaaGreatDoorME
set_option linter.all false
/-
  parse: where, sorting, what stands behind create table, insert into, update.
-/
set_option maxRecDepth 100000
namespace Go.Proofs.YtgfbealjkdhdbaaGreatDoor
open Go Go.Av
section
variable {P : Ctx} {K : Ex → Fr → Hp → Prop} {f : Fr} {s : Hp}
theorem seq_cutP {a b : ACode} (Q : Fr → Hp → Prop) (ha : awp P a (seqK Q K) f s) (hb : ∀ f s, Q f s → awp P b K f s) : awp P (.seq a b) K f s := by
  rw [awp_seq]
  refine awp_mono a (fun e f s h => ?_) f s ha
  cases e with
  | norm => exact hb f s h
  | exit i => exact h
  | ret => exact h
end
def slR {α : Type} (V : α → AV → Prop) (xs : List α) (a : AV) : Prop := ∃ av o, AllV V xs av ∧ a = .sl av o
theorem slR_nil {α : Type} {V : α → AV → Prop} : slR V [] (.sl [] .nil) := ⟨[], .nil, trivial, rfl⟩
def srtR (x : Srt) (a : AV) : Prop := ∃ p, slR intR x.pt p ∧ a = .agg [strV x.col, .v (.bool x.down), p]
theorem where_spec (lt : Nat) (l : List Tok) (s0 s : Hp) (hl : l.length ≤ 100000) (h : TK lt l s0 s) :
    ACp Tryz.prog 50 [.ptr lt 0] s (fun r s' => ∃ x l', whereF l = some (x, l') ∧ slR condR x r ∧ TK lt l' s0 s') (up (fun r s' => whereF l = none ∧ Stop s0 2 r s')) := by
  refine ACp_run hm prep50 (by simp) ?_
  simp (dsimp := false) (implicitDefEqProofs := false) (disch := first | omega | assumption | (simp only [rL, Nat.reduceAdd]; try omega)) only [↓rA, rZ, List.drop_succ_cons, ne_eq, not_true_eq_false, not_false_eq_true, List.getElem?_cons_zero, List.getElem?_cons_succ, ev, ofConst, ofCell, ↓reduceIte, Nat.reduceEqDiff, Nat.reduceAdd, Nat.reduceSub, Nat.reduceMul, Nat.reduceLeDiff, Nat.reduceLT, Int.reduceNeg, Int.reduceToNat, Int.reduceAdd, Int.reduceSub, Int.reduceMul, Int.reduceLT, Int.reduceLE, Int.reduceEq, Int.reduceNe]
  refine bsl_own (s0 := _) Hp.sub_refl (allLen_strs (ws := [w_where])) fun o1 s1 h1 => ?_
  simp (dsimp := false) (implicitDefEqProofs := false) (disch := first | omega | assumption | (simp only [rL, Nat.reduceAdd]; try omega)) only [↓rA, rZ, List.drop_succ_cons, ne_eq, not_true_eq_false, not_false_eq_true, List.getElem?_cons_zero, List.getElem?_cons_succ, ev, ofConst, ofCell, ↓reduceIte, Nat.reduceEqDiff, Nat.reduceAdd, Nat.reduceSub, Nat.reduceMul, Nat.reduceLeDiff, Nat.reduceLT, Int.reduceNeg, Int.reduceToNat, Int.reduceAdd, Int.reduceSub, Int.reduceMul, Int.reduceLT, Int.reduceLE, Int.reduceEq, Int.reduceNe]
  have t1 := h.mono h1.sub
  refine call_intro (is_spec lt [w_where] o1 l s0 s1 t1 (by simp)) ?_
  rintro _ s2 ⟨rfl, t2⟩
  cases e2 : isF [w_where] l with
  | none =>
    rw [e2] at t2
    simp (dsimp := false) (implicitDefEqProofs := false) (disch := first | omega | assumption | (simp only [rL, Nat.reduceAdd]; try omega)) only [↓rA, rZ, List.drop_succ_cons, ne_eq, not_true_eq_false, not_false_eq_true, List.getElem?_cons_zero, List.getElem?_cons_succ, ev, ofConst, ofCell, ↓reduceIte, Nat.reduceEqDiff, Nat.reduceAdd, Nat.reduceSub, Nat.reduceMul, Nat.reduceLeDiff, Nat.reduceLT, Int.reduceNeg, Int.reduceToNat, Int.reduceAdd, Int.reduceSub, Int.reduceMul, Int.reduceLT, Int.reduceLE, Int.reduceEq, Int.reduceNe, Option.isSome_none]
    exact ⟨_, Hp.sub_refl, [], l, by simp [whereF, e2], slR_nil, t2⟩
  | some l2 =>
    rw [e2] at t2
    simp only [Option.getD_some] at t2
    have q2 := isF_le e2
    simp (dsimp := false) (implicitDefEqProofs := false) (disch := first | omega | assumption | (simp only [rL, Nat.reduceAdd]; try omega)) only [↓rA, rZ, List.drop_succ_cons, ne_eq, not_true_eq_false, not_false_eq_true, List.getElem?_cons_zero, List.getElem?_cons_succ, ev, ofConst, ofCell, ↓reduceIte, Nat.reduceEqDiff, Nat.reduceAdd, Nat.reduceSub, Nat.reduceMul, Nat.reduceLeDiff, Nat.reduceLT, Int.reduceNeg, Int.reduceToNat, Int.reduceAdd, Int.reduceSub, Int.reduceMul, Int.reduceLT, Int.reduceLE, Int.reduceEq, Int.reduceNe, Option.isSome_some]
    refine callp_intro (listCond_spec lt w_and (.clo 89 [.ptr lt 0] []) condF condF_less l2 s0 s2 (by omega) t2 (oneCond lt)) ?_ ?_
    · rintro _ s3 ⟨xs, l3, av, o3, e3, hA, rfl, t3⟩
      simp (dsimp := false) (implicitDefEqProofs := false) (disch := first | omega | assumption | (simp only [rL, Nat.reduceAdd]; try omega)) only [↓rA, rZ, List.drop_succ_cons, ne_eq, not_true_eq_false, not_false_eq_true, List.getElem?_cons_zero, List.getElem?_cons_succ, ev, ofConst, ofCell, ↓reduceIte, Nat.reduceEqDiff, Nat.reduceAdd, Nat.reduceSub, Nat.reduceMul, Nat.reduceLeDiff, Nat.reduceLT, Int.reduceNeg, Int.reduceToNat, Int.reduceAdd, Int.reduceSub, Int.reduceMul, Int.reduceLT, Int.reduceLE, Int.reduceEq, Int.reduceNe]
      exact ⟨_, Hp.sub_refl, xs, l3, by simp [whereF, e2, e3], ⟨av, o3, hA, rfl⟩, t3⟩
    · rintro r s3 ⟨e3, h3⟩
      exact ⟨by simp [whereF, e2, e3], h3⟩
theorem sorting_spec (lt : Nat) (l : List Tok) (s0 s : Hp) (hl : l.length ≤ 100000) (h : TK lt l s0 s) :
    ACp Tryz.prog 93 [.ptr lt 0] s (fun r s' => ∃ x l', sortF l = some (x, l') ∧ srtR x r ∧ TK lt l' s0 s') (up (fun r s' => sortF l = none ∧ Stop s0 2 r s')) := by
  refine ACp_run hm prep93 (by simp) ?_
  simp (dsimp := false) (implicitDefEqProofs := false) (disch := first | omega | assumption | (simp only [rL, Nat.reduceAdd]; try omega)) only [↓rA, rZ, List.drop_succ_cons, ne_eq, not_true_eq_false, not_false_eq_true, List.getElem?_cons_zero, List.getElem?_cons_succ, ev, ofConst, ofCell, ↓reduceIte, Nat.reduceEqDiff, Nat.reduceAdd, Nat.reduceSub, Nat.reduceMul, Nat.reduceLeDiff, Nat.reduceLT, Int.reduceNeg, Int.reduceToNat, Int.reduceAdd, Int.reduceSub, Int.reduceMul, Int.reduceLT, Int.reduceLE, Int.reduceEq, Int.reduceNe]
  refine newK_intro fun l2 n2 => ?_
  have d2 := h.ne n2
  have n02 := Hp.sub_none h.1 n2
  have t0 := h.add n2 (ob := .cells [.v (.string ⟨#[]⟩), .v (.bool false), .sl [] .nil])
  simp (dsimp := false) (implicitDefEqProofs := false) (disch := first | omega | assumption | (simp only [rL, Nat.reduceAdd]; try omega)) only [↓rA, rZ, List.drop_succ_cons, ne_eq, not_true_eq_false, not_false_eq_true, List.getElem?_cons_zero, List.getElem?_cons_succ, ev, ofConst, ofCell, ↓reduceIte, Nat.reduceEqDiff, Nat.reduceAdd, Nat.reduceSub, Nat.reduceMul, Nat.reduceLeDiff, Nat.reduceLT, Int.reduceNeg, Int.reduceToNat, Int.reduceAdd, Int.reduceSub, Int.reduceMul, Int.reduceLT, Int.reduceLE, Int.reduceEq, Int.reduceNe]
  refine bsl_own (s0 := _) Hp.sub_refl (allLen_strs (ws := [w_order, w_by])) fun o1 s1 h1 => ?_
  simp (dsimp := false) (implicitDefEqProofs := false) (disch := first | omega | assumption | (simp only [rL, Nat.reduceAdd]; try omega)) only [↓rA, rZ, List.drop_succ_cons, ne_eq, not_true_eq_false, not_false_eq_true, List.getElem?_cons_zero, List.getElem?_cons_succ, ev, ofConst, ofCell, ↓reduceIte, Nat.reduceEqDiff, Nat.reduceAdd, Nat.reduceSub, Nat.reduceMul, Nat.reduceLeDiff, Nat.reduceLT, Int.reduceNeg, Int.reduceToNat, Int.reduceAdd, Int.reduceSub, Int.reduceMul, Int.reduceLT, Int.reduceLE, Int.reduceEq, Int.reduceNe]
  have t1 := t0.mono h1.sub
  have g1 := h1.sub _ _ (Hp.set_same _ _ _)
  refine call_intro (is_spec lt [w_order, w_by] o1 l _ s1 t1.all (by simp)) ?_
  rintro _ s2 ⟨rfl, h2⟩
  have t2 := t1.back h2
  have g2 := h2.keep d2 g1
  cases e2 : isF [w_order, w_by] l with
  | none =>
    rw [e2] at t2
    simp (dsimp := false) (implicitDefEqProofs := false) (disch := first | omega | assumption | (simp only [rL, Nat.reduceAdd]; try omega)) only [↓rA, rZ, List.drop_succ_cons, ne_eq, not_true_eq_false, not_false_eq_true, List.getElem?_cons_zero, List.getElem?_cons_succ, ev, ofConst, ofCell, ↓reduceIte, Nat.reduceEqDiff, Nat.reduceAdd, Nat.reduceSub, Nat.reduceMul, Nat.reduceLeDiff, Nat.reduceLT, Int.reduceNeg, Int.reduceToNat, Int.reduceAdd, Int.reduceSub, Int.reduceMul, Int.reduceLT, Int.reduceLE, Int.reduceEq, Int.reduceNe, Option.isSome_none, Hp.stA_of g2]
    exact ⟨_, Hp.sub_refl, ⟨[], false, []⟩, l, by simp [sortF, e2], ⟨_, slR_nil, rfl⟩, t2.write n02 d2⟩
  | some l2' =>
    rw [e2] at t2
    simp only [Option.getD_some] at t2
    have q2 := isF_le e2
    simp (dsimp := false) (implicitDefEqProofs := false) (disch := first | omega | assumption | (simp only [rL, Nat.reduceAdd]; try omega)) only [↓rA, rZ, List.drop_succ_cons, ne_eq, not_true_eq_false, not_false_eq_true, List.getElem?_cons_zero, List.getElem?_cons_succ, ev, ofConst, ofCell, ↓reduceIte, Nat.reduceEqDiff, Nat.reduceAdd, Nat.reduceSub, Nat.reduceMul, Nat.reduceLeDiff, Nat.reduceLT, Int.reduceNeg, Int.reduceToNat, Int.reduceAdd, Int.reduceSub, Int.reduceMul, Int.reduceLT, Int.reduceLE, Int.reduceEq, Int.reduceNe, Option.isSome_some]
    refine bsl_own (s0 := _) Hp.sub_refl (allLen_strs (ws := [w_manhattan])) fun o3 s3 h3 => ?_
    simp (dsimp := false) (implicitDefEqProofs := false) (disch := first | omega | assumption | (simp only [rL, Nat.reduceAdd]; try omega)) only [↓rA, rZ, List.drop_succ_cons, ne_eq, not_true_eq_false, not_false_eq_true, List.getElem?_cons_zero, List.getElem?_cons_succ, ev, ofConst, ofCell, ↓reduceIte, Nat.reduceEqDiff, Nat.reduceAdd, Nat.reduceSub, Nat.reduceMul, Nat.reduceLeDiff, Nat.reduceLT, Int.reduceNeg, Int.reduceToNat, Int.reduceAdd, Int.reduceSub, Int.reduceMul, Int.reduceLT, Int.reduceLE, Int.reduceEq, Int.reduceNe]
    have t3 := t2.mono h3.sub
    have g3 := h3.sub _ _ g2
    refine call_intro (is_spec lt [w_manhattan] o3 l2' _ s3 t3.all (by simp)) ?_
    rintro _ s4 ⟨rfl, h4⟩
    have t4 := t3.back h4
    have g4 := h4.keep d2 g3
    cases e4 : isF [w_manhattan] l2' with
    | some l4 =>
      rw [e4] at t4
      simp only [Option.getD_some] at t4
      have q4 := isF_le e4
      simp (dsimp := false) (implicitDefEqProofs := false) (disch := first | omega | assumption | (simp only [rL, Nat.reduceAdd]; try omega)) only [↓rA, rZ, List.drop_succ_cons, ne_eq, not_true_eq_false, not_false_eq_true, List.getElem?_cons_zero, List.getElem?_cons_succ, ev, ofConst, ofCell, ↓reduceIte, Nat.reduceEqDiff, Nat.reduceAdd, Nat.reduceSub, Nat.reduceMul, Nat.reduceLeDiff, Nat.reduceLT, Int.reduceNeg, Int.reduceToNat, Int.reduceAdd, Int.reduceSub, Int.reduceMul, Int.reduceLT, Int.reduceLE, Int.reduceEq, Int.reduceNe, Option.isSome_some]
      refine callp_intro (row_spec lt l4 _ s4 (by omega) t4.all) ?_ ?_
      · rintro _ s5 ⟨xs, l5, e5, ⟨av, o5, hA, rfl⟩, h5⟩
        have t5 := t4.back h5
        have g5 := h5.keep d2 g4
        simp (dsimp := false) (implicitDefEqProofs := false) (disch := first | omega | assumption | (simp only [rL, Nat.reduceAdd]; try omega)) only [↓rA, rZ, List.drop_succ_cons, ne_eq, not_true_eq_false, not_false_eq_true, List.getElem?_cons_zero, List.getElem?_cons_succ, ev, ofConst, ofCell, ↓reduceIte, Nat.reduceEqDiff, Nat.reduceAdd, Nat.reduceSub, Nat.reduceMul, Nat.reduceLeDiff, Nat.reduceLT, Int.reduceNeg, Int.reduceToNat, Int.reduceAdd, Int.reduceSub, Int.reduceMul, Int.reduceLT, Int.reduceLE, Int.reduceEq, Int.reduceNe, Hp.stA_of g5, putAt_z1, putAt_sc]
        exact ⟨_, Hp.sub_refl, ⟨[], false, xs⟩, l5, by simp [sortF, e2, e4, e5], ⟨_, ⟨av, o5, hA, rfl⟩, rfl⟩, t5.write n02 d2⟩
      · rintro r s5 ⟨e5, h5⟩
        exact ⟨by simp [sortF, e2, e4, e5], t4.stop h5⟩
    | none =>
      rw [e4] at t4
      simp only [Option.getD_none] at t4
      simp (dsimp := false) (implicitDefEqProofs := false) (disch := first | omega | assumption | (simp only [rL, Nat.reduceAdd]; try omega)) only [↓rA, rZ, List.drop_succ_cons, ne_eq, not_true_eq_false, not_false_eq_true, List.getElem?_cons_zero, List.getElem?_cons_succ, ev, ofConst, ofCell, ↓reduceIte, Nat.reduceEqDiff, Nat.reduceAdd, Nat.reduceSub, Nat.reduceMul, Nat.reduceLeDiff, Nat.reduceLT, Int.reduceNeg, Int.reduceToNat, Int.reduceAdd, Int.reduceSub, Int.reduceMul, Int.reduceLT, Int.reduceLE, Int.reduceEq, Int.reduceNe, Option.isSome_none]
      refine callp_intro (name_spec lt l2' _ s4 t4.all) ?_ ?_
      · rintro _ s5 ⟨c, l5, e5, rfl, h5⟩
        have t5 := t4.back h5
        have g5 := h5.keep d2 g4
        simp (dsimp := false) (implicitDefEqProofs := false) (disch := first | omega | assumption | (simp only [rL, Nat.reduceAdd]; try omega)) only [↓rA, rZ, List.drop_succ_cons, ne_eq, not_true_eq_false, not_false_eq_true, List.getElem?_cons_zero, List.getElem?_cons_succ, ev, ofConst, ofCell, ↓reduceIte, Nat.reduceEqDiff, Nat.reduceAdd, Nat.reduceSub, Nat.reduceMul, Nat.reduceLeDiff, Nat.reduceLT, Int.reduceNeg, Int.reduceToNat, Int.reduceAdd, Int.reduceSub, Int.reduceMul, Int.reduceLT, Int.reduceLE, Int.reduceEq, Int.reduceNe, strV]
        refine newK_intro fun l6 n6 => ?_
        have d6 := t5.ne n6
        have n06 := Hp.sub_none t5.1 n6
        have d26 : l2 ≠ l6 := by rintro rfl; rw [n6] at g5; cases g5
        have d62 := Ne.symm d26
        have t6 := t5.add n6 (ob := .cells [.v (.string ⟨c.toArray⟩), .v (.bool false), .sl [] .nil])
        simp (dsimp := false) (implicitDefEqProofs := false) (disch := first | omega | assumption | (simp only [rL, Nat.reduceAdd]; try omega)) only [↓rA, rZ, List.drop_succ_cons, ne_eq, not_true_eq_false, not_false_eq_true, List.getElem?_cons_zero, List.getElem?_cons_succ, ev, ofConst, ofCell, ↓reduceIte, Nat.reduceEqDiff, Nat.reduceAdd, Nat.reduceSub, Nat.reduceMul, Nat.reduceLeDiff, Nat.reduceLT, Int.reduceNeg, Int.reduceToNat, Int.reduceAdd, Int.reduceSub, Int.reduceMul, Int.reduceLT, Int.reduceLE, Int.reduceEq, Int.reduceNe, strV, putAt_z1, putAt_sc]
        refine bsl_own (s0 := _) Hp.sub_refl (allLen_strs (ws := [w_desc])) fun o7 s7 h7 => ?_
        simp (dsimp := false) (implicitDefEqProofs := false) (disch := first | omega | assumption | (simp only [rL, Nat.reduceAdd]; try omega)) only [↓rA, rZ, List.drop_succ_cons, ne_eq, not_true_eq_false, not_false_eq_true, List.getElem?_cons_zero, List.getElem?_cons_succ, ev, ofConst, ofCell, ↓reduceIte, Nat.reduceEqDiff, Nat.reduceAdd, Nat.reduceSub, Nat.reduceMul, Nat.reduceLeDiff, Nat.reduceLT, Int.reduceNeg, Int.reduceToNat, Int.reduceAdd, Int.reduceSub, Int.reduceMul, Int.reduceLT, Int.reduceLE, Int.reduceEq, Int.reduceNe]
        have t7 := t6.mono h7.sub
        have g7 := h7.sub _ _ (Hp.set_same _ _ _)
        have k7 := h7.sub l2 _ (by rw [Hp.set_ne _ _ d26]; exact g5)
        refine call_intro (is_spec lt [w_desc] o7 l5 _ s7 t7.all (by simp)) ?_
        rintro _ s8 ⟨rfl, h8⟩
        have t8 := t7.back h8
        have g8 := h8.keep d6 g7
        have k8 := h8.keep d2 k7
        cases e8 : isF [w_desc] l5 with
        | some l8 =>
          rw [e8] at t8
          simp only [Option.getD_some] at t8
          simp (dsimp := false) (implicitDefEqProofs := false) (disch := first | omega | assumption | (simp only [rL, Nat.reduceAdd]; try omega)) only [↓rA, rZ, List.drop_succ_cons, ne_eq, not_true_eq_false, not_false_eq_true, List.getElem?_cons_zero, List.getElem?_cons_succ, ev, ofConst, ofCell, ↓reduceIte, Nat.reduceEqDiff, Nat.reduceAdd, Nat.reduceSub, Nat.reduceMul, Nat.reduceLeDiff, Nat.reduceLT, Int.reduceNeg, Int.reduceToNat, Int.reduceAdd, Int.reduceSub, Int.reduceMul, Int.reduceLT, Int.reduceLE, Int.reduceEq, Int.reduceNe, Option.isSome_some, Hp.stA_of g8, Hp.stA_of k8, putAt_z1, putAt_sc, Hp.set_ne, d26, d62]
          exact ⟨_, Hp.sub_refl, ⟨c, true, []⟩, l8, by simp [sortF, e2, e4, e5, e8], ⟨_, slR_nil, rfl⟩, (t8.write n06 d6).write n02 d2⟩
        | none =>
          rw [e8] at t8
          simp only [Option.getD_none] at t8
          simp (dsimp := false) (implicitDefEqProofs := false) (disch := first | omega | assumption | (simp only [rL, Nat.reduceAdd]; try omega)) only [↓rA, rZ, List.drop_succ_cons, ne_eq, not_true_eq_false, not_false_eq_true, List.getElem?_cons_zero, List.getElem?_cons_succ, ev, ofConst, ofCell, ↓reduceIte, Nat.reduceEqDiff, Nat.reduceAdd, Nat.reduceSub, Nat.reduceMul, Nat.reduceLeDiff, Nat.reduceLT, Int.reduceNeg, Int.reduceToNat, Int.reduceAdd, Int.reduceSub, Int.reduceMul, Int.reduceLT, Int.reduceLE, Int.reduceEq, Int.reduceNe, Option.isSome_none, Hp.stA_of g8, putAt_z1, putAt_sc]
          have t8' := t8.write n06 d6 (ob := .cells [.v (.string ⟨c.toArray⟩), .v (.bool false), .sl [] .nil])
          refine bsl_own (s0 := _) Hp.sub_refl (allLen_strs (ws := [w_asc])) fun o9 s9 h9 => ?_
          simp (dsimp := false) (implicitDefEqProofs := false) (disch := first | omega | assumption | (simp only [rL, Nat.reduceAdd]; try omega)) only [↓rA, rZ, List.drop_succ_cons, ne_eq, not_true_eq_false, not_false_eq_true, List.getElem?_cons_zero, List.getElem?_cons_succ, ev, ofConst, ofCell, ↓reduceIte, Nat.reduceEqDiff, Nat.reduceAdd, Nat.reduceSub, Nat.reduceMul, Nat.reduceLeDiff, Nat.reduceLT, Int.reduceNeg, Int.reduceToNat, Int.reduceAdd, Int.reduceSub, Int.reduceMul, Int.reduceLT, Int.reduceLE, Int.reduceEq, Int.reduceNe]
          have t9 := t8'.mono h9.sub
          have g9 := h9.sub _ _ (Hp.set_same _ _ _)
          have k9 := h9.sub l2 _ (by rw [Hp.set_ne _ _ d26]; exact k8)
          refine call_intro (is_spec lt [w_asc] o9 l5 _ s9 t9.all (by simp)) ?_
          rintro _ sA ⟨rfl, hA⟩
          have tA := t9.back hA
          have gA := hA.keep d6 g9
          have kA := hA.keep d2 k9
          simp (dsimp := false) (implicitDefEqProofs := false) (disch := first | omega | assumption | (simp only [rL, Nat.reduceAdd]; try omega)) only [↓rA, rZ, List.drop_succ_cons, ne_eq, not_true_eq_false, not_false_eq_true, List.getElem?_cons_zero, List.getElem?_cons_succ, ev, ofConst, ofCell, ↓reduceIte, Nat.reduceEqDiff, Nat.reduceAdd, Nat.reduceSub, Nat.reduceMul, Nat.reduceLeDiff, Nat.reduceLT, Int.reduceNeg, Int.reduceToNat, Int.reduceAdd, Int.reduceSub, Int.reduceMul, Int.reduceLT, Int.reduceLE, Int.reduceEq, Int.reduceNe, Hp.read_of gA, Hp.stA_of kA, putAt_z1, putAt_sc, Hp.set_ne, d26, d62]
          exact ⟨_, Hp.sub_refl, ⟨c, false, []⟩, (isF [w_asc] l5).getD l5, by simp [sortF, e2, e4, e5, e8], ⟨_, slR_nil, rfl⟩, tA.write n02 d2⟩
      · rintro r s5 ⟨e5, h5⟩
        exact ⟨by simp [sortF, e2, e4, e5], t4.stop h5⟩
/-! ### statements -/
structure Sel where
  tab : List UInt8
  count : Bool
  asof : Int
  wh : List Cond
  srt : Srt
  lim : Int
inductive Stm where
  | create (t : List UInt8) (cols : List (List UInt8))
  | drop (t : List UInt8)
  | insert (t : List UInt8) (rows : List (List Int))
  | delete (t : List UInt8) (wh : List Cond)
  | update (t : List UInt8) (sets : List Asg) (wh : List Cond)
  | sel (x : Sel)
  | tx (k : Nat)
def stmR : Stm → AV → Prop
  | .create t cols, a => ∃ c, slR strR cols c ∧ a = .iface 89 (.agg [strV t, c])
  | .drop t, a => a = .iface 91 (.agg [strV t])
  | .insert t rows, a => ∃ c, slR rowR rows c ∧ a = .iface 93 (.agg [strV t, c])
  | .delete t wh, a => ∃ c, slR condR wh c ∧ a = .iface 95 (.agg [strV t, c])
  | .update t sets wh, a => ∃ c d, slR asgR sets c ∧ slR condR wh d ∧ a = .iface 97 (.agg [strV t, c, d])
  | .sel x, a => ∃ c p, slR condR x.wh c ∧ slR intR x.srt.pt p ∧ a = .iface 99 (.agg [strV x.tab, .v (.bool x.count), .v (.int .i64 x.asof), c, strV x.srt.col, .v (.bool x.srt.down), p, .v (.int .i64 x.lim)])
  | .tx k, a => a = .iface 101 (.agg [.v (.int .u8 k)])
def creationF (l : List Tok) : Option (Stm × List Tok) :=
  (nameF l).bind fun p => (isF [w_lp] p.2).bind fun l2 => (listF w_comma nameF l2).bind fun q => (isF [w_rp] q.2).map fun l4 => (.create p.1 q.1, l4)
def insertionF (l : List Tok) : Option (Stm × List Tok) :=
  (nameF l).bind fun p => (isF [w_values] p.2).bind fun l2 => (listF w_comma rowF l2).map fun q => (.insert p.1 q.1, q.2)
def updateF (l : List Tok) : Option (Stm × List Tok) :=
  (nameF l).bind fun p => (isF [w_set] p.2).bind fun l2 => (listF w_comma asgF l2).bind fun q => (whereF q.2).map fun r => (.update p.1 q.1 r.1, r.2)
theorem insertion_spec (lt : Nat) (l : List Tok) (s0 s : Hp) (hl : l.length ≤ 100000) (h : TK lt l s0 s) :
    ACp Tryz.prog 49 [.ptr lt 0] s (fun r s' => ∃ x l', insertionF l = some (x, l') ∧ stmR x r ∧ TK lt l' s0 s') (up (fun r s' => insertionF l = none ∧ Stop s0 2 r s')) := by
  refine ACp_run hm prep49 (by simp) ?_
  simp (dsimp := false) (implicitDefEqProofs := false) (disch := first | omega | assumption | (simp only [rL, Nat.reduceAdd]; try omega)) only [↓rA, rZ, List.drop_succ_cons, ne_eq, not_true_eq_false, not_false_eq_true, List.getElem?_cons_zero, List.getElem?_cons_succ, ev, ofConst, ofCell, ↓reduceIte, Nat.reduceEqDiff, Nat.reduceAdd, Nat.reduceSub, Nat.reduceMul, Nat.reduceLeDiff, Nat.reduceLT, Int.reduceNeg, Int.reduceToNat, Int.reduceAdd, Int.reduceSub, Int.reduceMul, Int.reduceLT, Int.reduceLE, Int.reduceEq, Int.reduceNe]
  refine callp_intro (name_spec lt l s0 s h) ?_ ?_
  · rintro _ s1 ⟨c, l1, e1, rfl, t1⟩
    have q1 := nameF_less _ _ _ e1
    simp (dsimp := false) (implicitDefEqProofs := false) (disch := first | omega | assumption | (simp only [rL, Nat.reduceAdd]; try omega)) only [↓rA, rZ, List.drop_succ_cons, ne_eq, not_true_eq_false, not_false_eq_true, List.getElem?_cons_zero, List.getElem?_cons_succ, ev, ofConst, ofCell, ↓reduceIte, Nat.reduceEqDiff, Nat.reduceAdd, Nat.reduceSub, Nat.reduceMul, Nat.reduceLeDiff, Nat.reduceLT, Int.reduceNeg, Int.reduceToNat, Int.reduceAdd, Int.reduceSub, Int.reduceMul, Int.reduceLT, Int.reduceLE, Int.reduceEq, Int.reduceNe, strV]
    refine newK_intro fun l3 n3 => ?_
    have d3 := t1.ne n3
    have n03 := Hp.sub_none t1.1 n3
    have t2 := t1.add n3 (ob := .cells [.v (.string ⟨c.toArray⟩), .sl [] .nil])
    simp (dsimp := false) (implicitDefEqProofs := false) (disch := first | omega | assumption | (simp only [rL, Nat.reduceAdd]; try omega)) only [↓rA, rZ, List.drop_succ_cons, ne_eq, not_true_eq_false, not_false_eq_true, List.getElem?_cons_zero, List.getElem?_cons_succ, ev, ofConst, ofCell, ↓reduceIte, Nat.reduceEqDiff, Nat.reduceAdd, Nat.reduceSub, Nat.reduceMul, Nat.reduceLeDiff, Nat.reduceLT, Int.reduceNeg, Int.reduceToNat, Int.reduceAdd, Int.reduceSub, Int.reduceMul, Int.reduceLT, Int.reduceLE, Int.reduceEq, Int.reduceNe, strV, putAt_z1, putAt_sc]
    refine bsl_own (s0 := _) Hp.sub_refl (allLen_strs (ws := [w_values])) fun o4 s4 h4 => ?_
    simp (dsimp := false) (implicitDefEqProofs := false) (disch := first | omega | assumption | (simp only [rL, Nat.reduceAdd]; try omega)) only [↓rA, rZ, List.drop_succ_cons, ne_eq, not_true_eq_false, not_false_eq_true, List.getElem?_cons_zero, List.getElem?_cons_succ, ev, ofConst, ofCell, ↓reduceIte, Nat.reduceEqDiff, Nat.reduceAdd, Nat.reduceSub, Nat.reduceMul, Nat.reduceLeDiff, Nat.reduceLT, Int.reduceNeg, Int.reduceToNat, Int.reduceAdd, Int.reduceSub, Int.reduceMul, Int.reduceLT, Int.reduceLE, Int.reduceEq, Int.reduceNe]
    have t4 := t2.mono h4.sub
    have g4 := h4.sub _ _ (Hp.set_same _ _ _)
    refine callp_intro (must_spec lt [w_values] o4 l1 _ s4 t4.all (by simp)) ?_ ?_
    · rintro _ s5 ⟨l5, e5, h5⟩
      have q5 := isF_le e5
      have t5 := t4.back h5
      have g5 := h5.keep d3 g4
      simp (dsimp := false) (implicitDefEqProofs := false) (disch := first | omega | assumption | (simp only [rL, Nat.reduceAdd]; try omega)) only [↓rA, rZ, List.drop_succ_cons, ne_eq, not_true_eq_false, not_false_eq_true, List.getElem?_cons_zero, List.getElem?_cons_succ, ev, ofConst, ofCell, ↓reduceIte, Nat.reduceEqDiff, Nat.reduceAdd, Nat.reduceSub, Nat.reduceMul, Nat.reduceLeDiff, Nat.reduceLT, Int.reduceNeg, Int.reduceToNat, Int.reduceAdd, Int.reduceSub, Int.reduceMul, Int.reduceLT, Int.reduceLE, Int.reduceEq, Int.reduceNe]
      refine callp_intro (listRow_spec lt w_comma (.clo 87 [.ptr lt 0] []) rowF rowF_less l5 _ s5 (by omega) t5.all (oneRow lt)) ?_ ?_
      · rintro _ s6 ⟨xs, l6, av, o6, e6, hA, rfl, h6⟩
        have q6 := listF_less rowF_less _ _ _ e6
        have t6 := t5.back h6
        have g6 := h6.keep d3 g5
        simp (dsimp := false) (implicitDefEqProofs := false) (disch := first | omega | assumption | (simp only [rL, Nat.reduceAdd]; try omega)) only [↓rA, rZ, List.drop_succ_cons, ne_eq, not_true_eq_false, not_false_eq_true, List.getElem?_cons_zero, List.getElem?_cons_succ, ev, ofConst, ofCell, ↓reduceIte, Nat.reduceEqDiff, Nat.reduceAdd, Nat.reduceSub, Nat.reduceMul, Nat.reduceLeDiff, Nat.reduceLT, Int.reduceNeg, Int.reduceToNat, Int.reduceAdd, Int.reduceSub, Int.reduceMul, Int.reduceLT, Int.reduceLE, Int.reduceEq, Int.reduceNe, Hp.stA_of g6, putAt_z1, putAt_sc]
        exact ⟨_, Hp.sub_refl, .insert c xs, l6, by simp [insertionF, e1, e5, e6], ⟨_, ⟨av, o6, hA, rfl⟩, rfl⟩, t6.write n03 d3⟩
      · rintro r s6 ⟨e6, h6⟩
        exact ⟨by simp [insertionF, e1, e5, e6], t5.stop h6⟩
    · rintro r s5 ⟨e5, h5⟩
      exact ⟨by simp [insertionF, e1, e5], t4.stop h5⟩
  · rintro r s1 ⟨e1, h1⟩
    exact ⟨by simp [insertionF, e1], h1⟩
theorem creation_spec (lt : Nat) (l : List Tok) (s0 s : Hp) (hl : l.length ≤ 100000) (h : TK lt l s0 s) :
    ACp Tryz.prog 47 [.ptr lt 0] s (fun r s' => ∃ x l', creationF l = some (x, l') ∧ stmR x r ∧ TK lt l' s0 s') (up (fun r s' => creationF l = none ∧ Stop s0 2 r s')) := by
  refine ACp_run hm prep47 (by simp) ?_
  simp (dsimp := false) (implicitDefEqProofs := false) (disch := first | omega | assumption | (simp only [rL, Nat.reduceAdd]; try omega)) only [↓rA, rZ, List.drop_succ_cons, ne_eq, not_true_eq_false, not_false_eq_true, List.getElem?_cons_zero, List.getElem?_cons_succ, ev, ofConst, ofCell, ↓reduceIte, Nat.reduceEqDiff, Nat.reduceAdd, Nat.reduceSub, Nat.reduceMul, Nat.reduceLeDiff, Nat.reduceLT, Int.reduceNeg, Int.reduceToNat, Int.reduceAdd, Int.reduceSub, Int.reduceMul, Int.reduceLT, Int.reduceLE, Int.reduceEq, Int.reduceNe]
  refine callp_intro (name_spec lt l s0 s h) ?_ ?_
  · rintro _ s1 ⟨c, l1, e1, rfl, t1⟩
    have q1 := nameF_less _ _ _ e1
    simp (dsimp := false) (implicitDefEqProofs := false) (disch := first | omega | assumption | (simp only [rL, Nat.reduceAdd]; try omega)) only [↓rA, rZ, List.drop_succ_cons, ne_eq, not_true_eq_false, not_false_eq_true, List.getElem?_cons_zero, List.getElem?_cons_succ, ev, ofConst, ofCell, ↓reduceIte, Nat.reduceEqDiff, Nat.reduceAdd, Nat.reduceSub, Nat.reduceMul, Nat.reduceLeDiff, Nat.reduceLT, Int.reduceNeg, Int.reduceToNat, Int.reduceAdd, Int.reduceSub, Int.reduceMul, Int.reduceLT, Int.reduceLE, Int.reduceEq, Int.reduceNe, strV]
    refine newK_intro fun l3 n3 => ?_
    have d3 := t1.ne n3
    have n03 := Hp.sub_none t1.1 n3
    have t2 := t1.add n3 (ob := .cells [.v (.string ⟨c.toArray⟩), .sl [] .nil])
    simp (dsimp := false) (implicitDefEqProofs := false) (disch := first | omega | assumption | (simp only [rL, Nat.reduceAdd]; try omega)) only [↓rA, rZ, List.drop_succ_cons, ne_eq, not_true_eq_false, not_false_eq_true, List.getElem?_cons_zero, List.getElem?_cons_succ, ev, ofConst, ofCell, ↓reduceIte, Nat.reduceEqDiff, Nat.reduceAdd, Nat.reduceSub, Nat.reduceMul, Nat.reduceLeDiff, Nat.reduceLT, Int.reduceNeg, Int.reduceToNat, Int.reduceAdd, Int.reduceSub, Int.reduceMul, Int.reduceLT, Int.reduceLE, Int.reduceEq, Int.reduceNe, strV, putAt_z1, putAt_sc]
    refine bsl_own (s0 := _) Hp.sub_refl (allLen_strs (ws := [w_lp])) fun o4 s4 h4 => ?_
    simp (dsimp := false) (implicitDefEqProofs := false) (disch := first | omega | assumption | (simp only [rL, Nat.reduceAdd]; try omega)) only [↓rA, rZ, List.drop_succ_cons, ne_eq, not_true_eq_false, not_false_eq_true, List.getElem?_cons_zero, List.getElem?_cons_succ, ev, ofConst, ofCell, ↓reduceIte, Nat.reduceEqDiff, Nat.reduceAdd, Nat.reduceSub, Nat.reduceMul, Nat.reduceLeDiff, Nat.reduceLT, Int.reduceNeg, Int.reduceToNat, Int.reduceAdd, Int.reduceSub, Int.reduceMul, Int.reduceLT, Int.reduceLE, Int.reduceEq, Int.reduceNe]
    have t4 := t2.mono h4.sub
    have g4 := h4.sub _ _ (Hp.set_same _ _ _)
    refine callp_intro (must_spec lt [w_lp] o4 l1 _ s4 t4.all (by simp)) ?_ ?_
    · rintro _ s5 ⟨l5, e5, h5⟩
      have q5 := isF_le e5
      have t5 := t4.back h5
      have g5 := h5.keep d3 g4
      simp (dsimp := false) (implicitDefEqProofs := false) (disch := first | omega | assumption | (simp only [rL, Nat.reduceAdd]; try omega)) only [↓rA, rZ, List.drop_succ_cons, ne_eq, not_true_eq_false, not_false_eq_true, List.getElem?_cons_zero, List.getElem?_cons_succ, ev, ofConst, ofCell, ↓reduceIte, Nat.reduceEqDiff, Nat.reduceAdd, Nat.reduceSub, Nat.reduceMul, Nat.reduceLeDiff, Nat.reduceLT, Int.reduceNeg, Int.reduceToNat, Int.reduceAdd, Int.reduceSub, Int.reduceMul, Int.reduceLT, Int.reduceLE, Int.reduceEq, Int.reduceNe]
      refine callp_intro (listStr_spec lt w_comma (.clo 48 [.ptr lt 0] []) nameF nameF_less l5 _ s5 (by omega) t5.all (oneName lt)) ?_ ?_
      · rintro _ s6 ⟨xs, l6, av, o6, e6, hA, rfl, h6⟩
        have q6 := listF_less nameF_less _ _ _ e6
        have t6 := t5.back h6
        have g6 := h6.keep d3 g5
        simp (dsimp := false) (implicitDefEqProofs := false) (disch := first | omega | assumption | (simp only [rL, Nat.reduceAdd]; try omega)) only [↓rA, rZ, List.drop_succ_cons, ne_eq, not_true_eq_false, not_false_eq_true, List.getElem?_cons_zero, List.getElem?_cons_succ, ev, ofConst, ofCell, ↓reduceIte, Nat.reduceEqDiff, Nat.reduceAdd, Nat.reduceSub, Nat.reduceMul, Nat.reduceLeDiff, Nat.reduceLT, Int.reduceNeg, Int.reduceToNat, Int.reduceAdd, Int.reduceSub, Int.reduceMul, Int.reduceLT, Int.reduceLE, Int.reduceEq, Int.reduceNe, Hp.stA_of g6, putAt_z1, putAt_sc]
        have t6' := t6.write n03 d3 (ob := .cells [.v (.string ⟨c.toArray⟩), .sl av o6])
        refine bsl_own (s0 := _) Hp.sub_refl (allLen_strs (ws := [w_rp])) fun o7 s7 h7 => ?_
        simp (dsimp := false) (implicitDefEqProofs := false) (disch := first | omega | assumption | (simp only [rL, Nat.reduceAdd]; try omega)) only [↓rA, rZ, List.drop_succ_cons, ne_eq, not_true_eq_false, not_false_eq_true, List.getElem?_cons_zero, List.getElem?_cons_succ, ev, ofConst, ofCell, ↓reduceIte, Nat.reduceEqDiff, Nat.reduceAdd, Nat.reduceSub, Nat.reduceMul, Nat.reduceLeDiff, Nat.reduceLT, Int.reduceNeg, Int.reduceToNat, Int.reduceAdd, Int.reduceSub, Int.reduceMul, Int.reduceLT, Int.reduceLE, Int.reduceEq, Int.reduceNe]
        have t7 := t6'.mono h7.sub
        have g7 := h7.sub _ _ (Hp.set_same _ _ _)
        refine callp_intro (must_spec lt [w_rp] o7 l6 _ s7 t7.all (by simp)) ?_ ?_
        · rintro _ s8 ⟨l8, e8, h8⟩
          have t8 := t7.back h8
          have g8 := h8.keep d3 g7
          simp (dsimp := false) (implicitDefEqProofs := false) (disch := first | omega | assumption | (simp only [rL, Nat.reduceAdd]; try omega)) only [↓rA, rZ, List.drop_succ_cons, ne_eq, not_true_eq_false, not_false_eq_true, List.getElem?_cons_zero, List.getElem?_cons_succ, ev, ofConst, ofCell, ↓reduceIte, Nat.reduceEqDiff, Nat.reduceAdd, Nat.reduceSub, Nat.reduceMul, Nat.reduceLeDiff, Nat.reduceLT, Int.reduceNeg, Int.reduceToNat, Int.reduceAdd, Int.reduceSub, Int.reduceMul, Int.reduceLT, Int.reduceLE, Int.reduceEq, Int.reduceNe, Hp.read_of g8]
          exact ⟨_, Hp.sub_refl, .create c xs, l8, by simp [creationF, e1, e5, e6, e8], ⟨_, ⟨av, o6, hA, rfl⟩, rfl⟩, t8⟩
        · rintro r s8 ⟨e8, h8⟩
          exact ⟨by simp [creationF, e1, e5, e6, e8], t7.stop h8⟩
      · rintro r s6 ⟨e6, h6⟩
        exact ⟨by simp [creationF, e1, e5, e6], t5.stop h6⟩
    · rintro r s5 ⟨e5, h5⟩
      exact ⟨by simp [creationF, e1, e5], t4.stop h5⟩
  · rintro r s1 ⟨e1, h1⟩
    exact ⟨by simp [creationF, e1], h1⟩
theorem update_spec (lt : Nat) (l : List Tok) (s0 s : Hp) (hl : l.length ≤ 100000) (h : TK lt l s0 s) :
    ACp Tryz.prog 51 [.ptr lt 0] s (fun r s' => ∃ x l', updateF l = some (x, l') ∧ stmR x r ∧ TK lt l' s0 s') (up (fun r s' => updateF l = none ∧ Stop s0 2 r s')) := by
  refine ACp_run hm prep51 (by simp) ?_
  simp (dsimp := false) (implicitDefEqProofs := false) (disch := first | omega | assumption | (simp only [rL, Nat.reduceAdd]; try omega)) only [↓rA, rZ, List.drop_succ_cons, ne_eq, not_true_eq_false, not_false_eq_true, List.getElem?_cons_zero, List.getElem?_cons_succ, ev, ofConst, ofCell, ↓reduceIte, Nat.reduceEqDiff, Nat.reduceAdd, Nat.reduceSub, Nat.reduceMul, Nat.reduceLeDiff, Nat.reduceLT, Int.reduceNeg, Int.reduceToNat, Int.reduceAdd, Int.reduceSub, Int.reduceMul, Int.reduceLT, Int.reduceLE, Int.reduceEq, Int.reduceNe]
  refine callp_intro (name_spec lt l s0 s h) ?_ ?_
  · rintro _ s1 ⟨c, l1, e1, rfl, t1⟩
    have q1 := nameF_less _ _ _ e1
    simp (dsimp := false) (implicitDefEqProofs := false) (disch := first | omega | assumption | (simp only [rL, Nat.reduceAdd]; try omega)) only [↓rA, rZ, List.drop_succ_cons, ne_eq, not_true_eq_false, not_false_eq_true, List.getElem?_cons_zero, List.getElem?_cons_succ, ev, ofConst, ofCell, ↓reduceIte, Nat.reduceEqDiff, Nat.reduceAdd, Nat.reduceSub, Nat.reduceMul, Nat.reduceLeDiff, Nat.reduceLT, Int.reduceNeg, Int.reduceToNat, Int.reduceAdd, Int.reduceSub, Int.reduceMul, Int.reduceLT, Int.reduceLE, Int.reduceEq, Int.reduceNe, strV]
    refine newK_intro fun l3 n3 => ?_
    have d3 := t1.ne n3
    have n03 := Hp.sub_none t1.1 n3
    have t2 := t1.add n3 (ob := .cells [.v (.string ⟨c.toArray⟩), .sl [] .nil, .sl [] .nil])
    simp (dsimp := false) (implicitDefEqProofs := false) (disch := first | omega | assumption | (simp only [rL, Nat.reduceAdd]; try omega)) only [↓rA, rZ, List.drop_succ_cons, ne_eq, not_true_eq_false, not_false_eq_true, List.getElem?_cons_zero, List.getElem?_cons_succ, ev, ofConst, ofCell, ↓reduceIte, Nat.reduceEqDiff, Nat.reduceAdd, Nat.reduceSub, Nat.reduceMul, Nat.reduceLeDiff, Nat.reduceLT, Int.reduceNeg, Int.reduceToNat, Int.reduceAdd, Int.reduceSub, Int.reduceMul, Int.reduceLT, Int.reduceLE, Int.reduceEq, Int.reduceNe, strV, putAt_z1, putAt_sc]
    refine bsl_own (s0 := _) Hp.sub_refl (allLen_strs (ws := [w_set])) fun o4 s4 h4 => ?_
    simp (dsimp := false) (implicitDefEqProofs := false) (disch := first | omega | assumption | (simp only [rL, Nat.reduceAdd]; try omega)) only [↓rA, rZ, List.drop_succ_cons, ne_eq, not_true_eq_false, not_false_eq_true, List.getElem?_cons_zero, List.getElem?_cons_succ, ev, ofConst, ofCell, ↓reduceIte, Nat.reduceEqDiff, Nat.reduceAdd, Nat.reduceSub, Nat.reduceMul, Nat.reduceLeDiff, Nat.reduceLT, Int.reduceNeg, Int.reduceToNat, Int.reduceAdd, Int.reduceSub, Int.reduceMul, Int.reduceLT, Int.reduceLE, Int.reduceEq, Int.reduceNe]
    have t4 := t2.mono h4.sub
    have g4 := h4.sub _ _ (Hp.set_same _ _ _)
    refine callp_intro (must_spec lt [w_set] o4 l1 _ s4 t4.all (by simp)) ?_ ?_
    · rintro _ s5 ⟨l5, e5, h5⟩
      have q5 := isF_le e5
      have t5 := t4.back h5
      have g5 := h5.keep d3 g4
      simp (dsimp := false) (implicitDefEqProofs := false) (disch := first | omega | assumption | (simp only [rL, Nat.reduceAdd]; try omega)) only [↓rA, rZ, List.drop_succ_cons, ne_eq, not_true_eq_false, not_false_eq_true, List.getElem?_cons_zero, List.getElem?_cons_succ, ev, ofConst, ofCell, ↓reduceIte, Nat.reduceEqDiff, Nat.reduceAdd, Nat.reduceSub, Nat.reduceMul, Nat.reduceLeDiff, Nat.reduceLT, Int.reduceNeg, Int.reduceToNat, Int.reduceAdd, Int.reduceSub, Int.reduceMul, Int.reduceLT, Int.reduceLE, Int.reduceEq, Int.reduceNe]
      refine callp_intro (listAsg_spec lt w_comma (.clo 91 [.ptr lt 0] []) asgF asgF_less l5 _ s5 (by omega) t5.all (oneAssign lt)) ?_ ?_
      · rintro _ s6 ⟨xs, l6, av, o6, e6, hA, rfl, h6⟩
        have q6 := listF_less asgF_less _ _ _ e6
        have t6 := t5.back h6
        have g6 := h6.keep d3 g5
        simp (dsimp := false) (implicitDefEqProofs := false) (disch := first | omega | assumption | (simp only [rL, Nat.reduceAdd]; try omega)) only [↓rA, rZ, List.drop_succ_cons, ne_eq, not_true_eq_false, not_false_eq_true, List.getElem?_cons_zero, List.getElem?_cons_succ, ev, ofConst, ofCell, ↓reduceIte, Nat.reduceEqDiff, Nat.reduceAdd, Nat.reduceSub, Nat.reduceMul, Nat.reduceLeDiff, Nat.reduceLT, Int.reduceNeg, Int.reduceToNat, Int.reduceAdd, Int.reduceSub, Int.reduceMul, Int.reduceLT, Int.reduceLE, Int.reduceEq, Int.reduceNe, Hp.stA_of g6, putAt_z1, putAt_sc]
        have t6' := t6.write n03 d3 (ob := .cells [.v (.string ⟨c.toArray⟩), .sl av o6, .sl [] .nil])
        refine callp_intro (where_spec lt l6 _ _ (by omega) t6'.all) ?_ ?_
        · rintro _ s8 ⟨ws, l8, e8, ⟨av8, o8, hA8, rfl⟩, h8⟩
          have t8 := t6'.back h8
          have g8 := h8.keep d3 (Hp.set_same _ _ _)
          simp (dsimp := false) (implicitDefEqProofs := false) (disch := first | omega | assumption | (simp only [rL, Nat.reduceAdd]; try omega)) only [↓rA, rZ, List.drop_succ_cons, ne_eq, not_true_eq_false, not_false_eq_true, List.getElem?_cons_zero, List.getElem?_cons_succ, ev, ofConst, ofCell, ↓reduceIte, Nat.reduceEqDiff, Nat.reduceAdd, Nat.reduceSub, Nat.reduceMul, Nat.reduceLeDiff, Nat.reduceLT, Int.reduceNeg, Int.reduceToNat, Int.reduceAdd, Int.reduceSub, Int.reduceMul, Int.reduceLT, Int.reduceLE, Int.reduceEq, Int.reduceNe, Hp.stA_of g8, putAt_z1, putAt_sc]
          exact ⟨_, Hp.sub_refl, .update c xs ws, l8, by simp [updateF, e1, e5, e6, e8], ⟨_, _, ⟨av, o6, hA, rfl⟩, ⟨av8, o8, hA8, rfl⟩, rfl⟩, t8.write n03 d3⟩
        · rintro r s8 ⟨e8, h8⟩
          exact ⟨by simp [updateF, e1, e5, e6, e8], t6'.stop h8⟩
      · rintro r s6 ⟨e6, h6⟩
        exact ⟨by simp [updateF, e1, e5, e6], t5.stop h6⟩
    · rintro r s5 ⟨e5, h5⟩
      exact ⟨by simp [updateF, e1, e5], t4.stop h5⟩
  · rintro r s1 ⟨e1, h1⟩
    exact ⟨by simp [updateF, e1], h1⟩
end Go.Proofs.YtgfbealjkdhdbaaGreatDoor
/-
  parse: what stands behind select.
-/
set_option maxRecDepth 100000
namespace Go.Proofs.YtgfbealjkdhdbaaGreatDoor
open Go Go.Av
/-! ### plain -/
def sel1F (l : List Tok) : Option (Bool × List Tok) :=
  match isF [w_count] l with
  | some l1 => (isF [w_lp, w_star, w_rp] l1).map fun l2 => (true, l2)
  | none => (isF [w_star] l).map fun l2 => (false, l2)
def numOr (ws : List (List UInt8)) (l : List Tok) : Option ((Int × List Int) × List Tok) :=
  match isF ws l with
  | some l1 => (numberF l1).map fun p => ((p.1, [p.1]), p.2)
  | none => some ((-1, []), l)
def selF (l : List Tok) : Option ((Sel × List Int) × List Tok) :=
  (sel1F l).bind fun p1 => (isF [w_from] p1.2).bind fun l2 => (nameF l2).bind fun p2 => (numOr [w_as, w_of] p2.2).bind fun p3 => (whereF p3.2).bind fun p4 =>
    if p1.1 = true then some ((⟨p2.1, true, p3.1.1, p4.1, ⟨[], false, []⟩, -1⟩, p3.1.2), p4.2)
    else (sortF p4.2).bind fun p5 => (numOr [w_limit] p5.2).map fun p6 => ((⟨p2.1, false, p3.1.1, p4.1, p5.1, p6.1.1⟩, p3.1.2 ++ p6.1.2), p6.2)
/-! ### the numbers that may not be below 0 -/
def LK (ll : Nat) (xs : List Int) (s0 s : Hp) : Prop := s0 ll = none ∧ ∃ av o, AllV intR xs av ∧ Owned s0 s 1 av o ∧ s ll = some (.cells [.sl av o])
theorem LK.mono {ll : Nat} {xs : List Int} {s0 s s' : Hp} (h : LK ll xs s0 s) (hs : s.sub s') : LK ll xs s0 s' := by
  obtain ⟨h1, av, o, h2, h3, h4⟩ := h
  exact ⟨h1, av, o, h2, h3.mono hs, hs _ _ h4⟩
theorem LK.step {ll lt : Nat} {xs : List Int} {l l' : List Tok} {s0 s s' : Hp} (h : LK ll xs s0 s) (hT : TK lt l s0 s) (hne : ll ≠ lt) (h2 : TK lt l' (s.del lt) s') : LK ll xs s0 s' := by
  obtain ⟨h1, av, o, hA, hO, hl⟩ := h
  obtain ⟨_, k2, ys, oy, _, k4⟩ := hT
  exact ⟨h1, av, o, hA, (own_cut hO k2 k4).mono h2.1, h2.keep hne hl⟩
theorem own_write {s0 s : Hp} {k x : Nat} {xs : List AV} {o : Own} {cs : List AV} {ob : Ob} (h : Owned s0 s k xs o) (h0 : s0 x = none) (hx : s x = some (.cells cs)) : Owned s0 (s.set x ob) k xs o := by
  refine ⟨Hp.sub_new h.1 h0, ?_⟩
  have h2 := h.2
  cases o with
  | buf g c =>
    have hne : g ≠ x := by rintro rfl; rw [h2.2] at hx; cases hx
    exact ⟨h2.1, by rw [Hp.set_ne _ _ hne]; exact h2.2⟩
  | _ => exact h2
theorem LK.write {ll x : Nat} {xs : List Int} {s0 s : Hp} {cs : List AV} {ob : Ob} (h : LK ll xs s0 s) (h0 : s0 x = none) (hx : s x = some (.cells cs)) (hne : ll ≠ x) : LK ll xs s0 (s.set x ob) := by
  obtain ⟨h1, av, o, hA, hO, hl⟩ := h
  exact ⟨h1, av, o, hA, own_write hO h0 hx, by rw [Hp.set_ne _ _ hne]; exact hl⟩
theorem LK.ne {ll x : Nat} {xs : List Int} {s0 s : Hp} (h : LK ll xs s0 s) (hx : s x = none) : x ≠ ll := by
  obtain ⟨_, _, _, _, _, h4⟩ := h
  rintro rfl; rw [hx] at h4; cases h4
theorem LK.add {ll x : Nat} {xs : List Int} {s0 s : Hp} {ob : Ob} (h : LK ll xs s0 s) (hx : s x = none) : LK ll xs s0 (s.set x ob) := h.mono (Hp.sub_new Hp.sub_refl hx)
theorem set_get {s s' : Hp} {x : Nat} {ob : Ob} (h : (s.set x ob).sub s') : s' x = some ob := h _ _ (Hp.set_same _ _ _)
theorem putAt_z3 {a b c x y z : AV} {r : List AV} : putAt (a :: b :: c :: r) 0 [x, y, z] = x :: y :: z :: r := rfl
theorem LK_app {ll lt l5 : Nat} {xs : List Int} {l : List Tok} {s0 s : Hp} {cs5 av : List AV} {o o2 : Own} {v : Int} {C : AV → Hp → Prop} {d : Dep C} (hA : AllV intR xs av) (hO : Owned s0 s 1 av o) (hl : s ll = some (.cells [.sl av o])) (hT : TK lt l s0 s) (g5 : s l5 = some (.cells cs5))
    (dl : ll ≠ lt) (d5 : l5 ≠ lt) (e5 : l5 ≠ ll) (m1 : s0 ll = none) (n05 : s0 l5 = none) (hle : xs.length ≤ 1000)
    (hC : ∀ o' s', TK lt l s0 s' → Owned s0 s' 1 (av ++ [.v (.int .i64 v)]) o' → s' ll = some (.cells [.sl av o]) → s' l5 = some (.cells cs5) → C (.sl (av ++ [.v (.int .i64 v)]) o') s') :
    appK 1 8 s (.sl av o) (.sl [.v (.int .i64 v)] o2) (hid2 C d) := by
  obtain ⟨k1, k2, ys, oy, hy, hy2⟩ := hT
  have hln := hA.len
  refine app_own (own_add (own_add (own_add hO hy2) g5) hl) (hA.cells (by rintro x a rfl; rfl)) (show allLen 1 [AV.v (.int .i64 v)] from fun e he => by simp at he; subst he; rfl) (by simp; omega) (by simp; omega) fun o' s' h' => ?_
  have r1 : s0.sub (((s0.set lt (.cells [.sl ys oy])).set l5 (.cells cs5)).set ll (.cells [.sl av o])) :=
    Hp.sub_new (Hp.sub_new (Hp.sub_new Hp.sub_refl k2) n05) m1
  refine hC o' s' ⟨Hp.sub_trans r1 h'.sub, k2, ys, oy, hy, h'.sub _ _ ?_⟩ (h'.base r1) (h'.sub _ _ (Hp.set_same _ _ _)) (h'.sub _ _ ?_)
  · rw [Hp.set_ne _ _ (Ne.symm dl), Hp.set_ne _ _ (Ne.symm d5), Hp.set_same]
  · rw [Hp.set_ne _ _ e5, Hp.set_same]
theorem selection_spec (lt ll : Nat) (l : List Tok) (xs0 : List Int) (s0 s : Hp) (hl : l.length ≤ 100000) (hx0 : xs0 = []) (h : TK lt l s0 s) (hL : LK ll xs0 s0 s) (dl : ll ≠ lt) :
    ACp Tryz.prog 52 [.ptr lt 0, .ptr ll 0] s (fun r s' => ∃ x ys l', selF l = some ((x, ys), l') ∧ stmR (.sel x) r ∧ TK lt l' s0 s' ∧ LK ll ys s0 s') (up (fun r s' => selF l = none ∧ Stop s0 2 r s')) := by
  refine ACp_run hm prep52 (by simp) ?_
  simp (dsimp := false) (implicitDefEqProofs := false) (disch := first | omega | assumption | (simp only [rL, Nat.reduceAdd]; try omega)) only [↓rA, rZ, List.drop_succ_cons, ne_eq, not_true_eq_false, not_false_eq_true, List.getElem?_cons_zero, List.getElem?_cons_succ, ev, ofConst, ofCell, ↓reduceIte, Nat.reduceEqDiff, Nat.reduceAdd, Nat.reduceSub, Nat.reduceMul, Nat.reduceLeDiff, Nat.reduceLT, Int.reduceNeg, Int.reduceToNat, Int.reduceAdd, Int.reduceSub, Int.reduceMul, Int.reduceLT, Int.reduceLE, Int.reduceEq, Int.reduceNe, putAt_z1, putAt_sc]
  refine newK_intro fun l5 n5 => ?_
  have d5 := h.ne n5
  have e5 := hL.ne n5
  have e5' := Ne.symm e5
  have n05 := Hp.sub_none h.1 n5
  simp (dsimp := false) (implicitDefEqProofs := false) (disch := first | omega | assumption | (simp only [rL, Nat.reduceAdd]; try omega)) only [↓rA, rZ, List.drop_succ_cons, ne_eq, not_true_eq_false, not_false_eq_true, List.getElem?_cons_zero, List.getElem?_cons_succ, ev, ofConst, ofCell, ↓reduceIte, Nat.reduceEqDiff, Nat.reduceAdd, Nat.reduceSub, Nat.reduceMul, Nat.reduceLeDiff, Nat.reduceLT, Int.reduceNeg, Int.reduceToNat, Int.reduceAdd, Int.reduceSub, Int.reduceMul, Int.reduceLT, Int.reduceLE, Int.reduceEq, Int.reduceNe, putAt_z1, putAt_sc]
  have t1 := h.add n5 (ob := .cells [.v (.string ⟨#[]⟩), .v (.bool false), .v (.int .i64 (-1)), .sl [] .nil, .v (.string ⟨#[]⟩), .v (.bool false), .sl [] .nil, .v (.int .i64 (-1))])
  have L1 := hL.add n5 (ob := .cells [.v (.string ⟨#[]⟩), .v (.bool false), .v (.int .i64 (-1)), .sl [] .nil, .v (.string ⟨#[]⟩), .v (.bool false), .sl [] .nil, .v (.int .i64 (-1))])
  refine bsl_own (s0 := _) Hp.sub_refl (allLen_strs (ws := [w_count])) fun o2 s2 h2 => ?_
  simp (dsimp := false) (implicitDefEqProofs := false) (disch := first | omega | assumption | (simp only [rL, Nat.reduceAdd]; try omega)) only [↓rA, rZ, List.drop_succ_cons, ne_eq, not_true_eq_false, not_false_eq_true, List.getElem?_cons_zero, List.getElem?_cons_succ, ev, ofConst, ofCell, ↓reduceIte, Nat.reduceEqDiff, Nat.reduceAdd, Nat.reduceSub, Nat.reduceMul, Nat.reduceLeDiff, Nat.reduceLT, Int.reduceNeg, Int.reduceToNat, Int.reduceAdd, Int.reduceSub, Int.reduceMul, Int.reduceLT, Int.reduceLE, Int.reduceEq, Int.reduceNe]
  have t2 := t1.mono h2.sub
  have L2 := L1.mono h2.sub
  have g2 := h2.sub _ _ (Hp.set_same _ _ _)
  refine call_intro (is_spec lt [w_count] o2 l _ s2 t2.all (by simp)) ?_
  rintro _ s3 ⟨rfl, h3⟩
  have t3 := t2.back h3
  have L3 := L2.step t2 dl h3
  have g3 := h3.keep d5 g2
  simp (dsimp := false) (implicitDefEqProofs := false) (disch := first | omega | assumption | (simp only [rL, Nat.reduceAdd]; try omega)) only [↓rA, rZ, List.drop_succ_cons, ne_eq, not_true_eq_false, not_false_eq_true, List.getElem?_cons_zero, List.getElem?_cons_succ, ev, ofConst, ofCell, ↓reduceIte, Nat.reduceEqDiff, Nat.reduceAdd, Nat.reduceSub, Nat.reduceMul, Nat.reduceLeDiff, Nat.reduceLT, Int.reduceNeg, Int.reduceToNat, Int.reduceAdd, Int.reduceSub, Int.reduceMul, Int.reduceLT, Int.reduceLE, Int.reduceEq, Int.reduceNe, Hp.stA_of g3, putAt_z1, putAt_sc]
  have t3' := t3.write n05 d5 (ob := .cells [.v (.string ⟨#[]⟩), .v (.bool (isF [w_count] l).isSome), .v (.int .i64 (-1)), .sl [] .nil, .v (.string ⟨#[]⟩), .v (.bool false), .sl [] .nil, .v (.int .i64 (-1))])
  have L3' := L3.write n05 g3 e5' (ob := .cells [.v (.string ⟨#[]⟩), .v (.bool (isF [w_count] l).isSome), .v (.int .i64 (-1)), .sl [] .nil, .v (.string ⟨#[]⟩), .v (.bool false), .sl [] .nil, .v (.int .i64 (-1))])
  refine cond_join (fun f s' => ∃ (cnt : Bool) (l4 : List Tok), sel1F l = some (cnt, l4) ∧ l4.length ≤ l.length ∧ TK lt l4 s0 s' ∧ LK ll xs0 s0 s' ∧ s' l5 = some (.cells [.v (.string ⟨#[]⟩), .v (.bool cnt), .v (.int .i64 (-1)), .sl [] .nil, .v (.string ⟨#[]⟩), .v (.bool false), .sl [] .nil, .v (.int .i64 (-1))]) ∧
      f 0 = .ptr lt 0 ∧ f 1 = .ptr ll 0 ∧ f 5 = .ptr l5 0) ?_ ?_ ?_
  · intro hc
    obtain ⟨l1, hc1⟩ := Option.isSome_iff_exists.1 hc
    rw [hc1] at t3' L3'
    simp only [Option.getD_some, Option.isSome_some] at t3' L3'
    have q1 := isF_le hc1
    simp (dsimp := false) (implicitDefEqProofs := false) (disch := first | omega | assumption | (simp only [rL, Nat.reduceAdd]; try omega)) only [↓rA, rZ, List.drop_succ_cons, ne_eq, not_true_eq_false, not_false_eq_true, List.getElem?_cons_zero, List.getElem?_cons_succ, ev, ofConst, ofCell, ↓reduceIte, Nat.reduceEqDiff, Nat.reduceAdd, Nat.reduceSub, Nat.reduceMul, Nat.reduceLeDiff, Nat.reduceLT, Int.reduceNeg, Int.reduceToNat, Int.reduceAdd, Int.reduceSub, Int.reduceMul, Int.reduceLT, Int.reduceLE, Int.reduceEq, Int.reduceNe, hc1, Option.isSome_some]
    refine bsl_own (s0 := _) Hp.sub_refl (allLen_strs (ws := [w_lp, w_star, w_rp])) fun o4 s4 h4 => ?_
    simp (dsimp := false) (implicitDefEqProofs := false) (disch := first | omega | assumption | (simp only [rL, Nat.reduceAdd]; try omega)) only [↓rA, rZ, List.drop_succ_cons, ne_eq, not_true_eq_false, not_false_eq_true, List.getElem?_cons_zero, List.getElem?_cons_succ, ev, ofConst, ofCell, ↓reduceIte, Nat.reduceEqDiff, Nat.reduceAdd, Nat.reduceSub, Nat.reduceMul, Nat.reduceLeDiff, Nat.reduceLT, Int.reduceNeg, Int.reduceToNat, Int.reduceAdd, Int.reduceSub, Int.reduceMul, Int.reduceLT, Int.reduceLE, Int.reduceEq, Int.reduceNe]
    have t4 := t3'.mono h4.sub
    have L4 := L3'.mono h4.sub
    have g4 := h4.sub _ _ (Hp.set_same _ _ _)
    refine callp_intro (must_spec lt [w_lp, w_star, w_rp] o4 l1 _ s4 t4.all (by simp)) ?_ ?_
    · rintro _ s5 ⟨l6, e6, h6⟩
      have q6 := isF_le e6
      simp (dsimp := false) (implicitDefEqProofs := false) (disch := first | omega | assumption | (simp only [rL, Nat.reduceAdd]; try omega)) only [↓rA, rZ, List.drop_succ_cons, ne_eq, not_true_eq_false, not_false_eq_true, List.getElem?_cons_zero, List.getElem?_cons_succ, ev, ofConst, ofCell, ↓reduceIte, Nat.reduceEqDiff, Nat.reduceAdd, Nat.reduceSub, Nat.reduceMul, Nat.reduceLeDiff, Nat.reduceLT, Int.reduceNeg, Int.reduceToNat, Int.reduceAdd, Int.reduceSub, Int.reduceMul, Int.reduceLT, Int.reduceLE, Int.reduceEq, Int.reduceNe]
      exact ⟨true, l6, by simp [sel1F, hc1, e6], by omega, t4.back h6, L4.step t4 dl h6, h6.keep d5 g4⟩
    · rintro r s5 ⟨e6, h6⟩
      exact ⟨by simp [selF, sel1F, hc1, e6], t4.stop h6⟩
  · intro hc
    have hc1 : isF [w_count] l = none := by simpa using hc
    rw [hc1] at t3' L3'
    simp only [Option.getD_none, Option.isSome_none] at t3' L3'
    simp (dsimp := false) (implicitDefEqProofs := false) (disch := first | omega | assumption | (simp only [rL, Nat.reduceAdd]; try omega)) only [↓rA, rZ, List.drop_succ_cons, ne_eq, not_true_eq_false, not_false_eq_true, List.getElem?_cons_zero, List.getElem?_cons_succ, ev, ofConst, ofCell, ↓reduceIte, Nat.reduceEqDiff, Nat.reduceAdd, Nat.reduceSub, Nat.reduceMul, Nat.reduceLeDiff, Nat.reduceLT, Int.reduceNeg, Int.reduceToNat, Int.reduceAdd, Int.reduceSub, Int.reduceMul, Int.reduceLT, Int.reduceLE, Int.reduceEq, Int.reduceNe, hc1, Option.isSome_none]
    refine bsl_own (s0 := _) Hp.sub_refl (allLen_strs (ws := [w_star])) fun o4 s4 h4 => ?_
    simp (dsimp := false) (implicitDefEqProofs := false) (disch := first | omega | assumption | (simp only [rL, Nat.reduceAdd]; try omega)) only [↓rA, rZ, List.drop_succ_cons, ne_eq, not_true_eq_false, not_false_eq_true, List.getElem?_cons_zero, List.getElem?_cons_succ, ev, ofConst, ofCell, ↓reduceIte, Nat.reduceEqDiff, Nat.reduceAdd, Nat.reduceSub, Nat.reduceMul, Nat.reduceLeDiff, Nat.reduceLT, Int.reduceNeg, Int.reduceToNat, Int.reduceAdd, Int.reduceSub, Int.reduceMul, Int.reduceLT, Int.reduceLE, Int.reduceEq, Int.reduceNe]
    have t4 := t3'.mono h4.sub
    have L4 := L3'.mono h4.sub
    have g4 := h4.sub _ _ (Hp.set_same _ _ _)
    refine callp_intro (must_spec lt [w_star] o4 l _ s4 t4.all (by simp)) ?_ ?_
    · rintro _ s5 ⟨l6, e6, h6⟩
      have q6 := isF_le e6
      simp (dsimp := false) (implicitDefEqProofs := false) (disch := first | omega | assumption | (simp only [rL, Nat.reduceAdd]; try omega)) only [↓rA, rZ, List.drop_succ_cons, ne_eq, not_true_eq_false, not_false_eq_true, List.getElem?_cons_zero, List.getElem?_cons_succ, ev, ofConst, ofCell, ↓reduceIte, Nat.reduceEqDiff, Nat.reduceAdd, Nat.reduceSub, Nat.reduceMul, Nat.reduceLeDiff, Nat.reduceLT, Int.reduceNeg, Int.reduceToNat, Int.reduceAdd, Int.reduceSub, Int.reduceMul, Int.reduceLT, Int.reduceLE, Int.reduceEq, Int.reduceNe]
      exact ⟨false, l6, by simp [sel1F, hc1, e6], by omega, t4.back h6, L4.step t4 dl h6, h6.keep d5 g4⟩
    · rintro r s5 ⟨e6, h6⟩
      exact ⟨by simp [selF, sel1F, hc1, e6], t4.stop h6⟩
  clear t1 L1 h2 t2 L2 g2 h3 t3 L3 g3 t3' L3'
  rintro f sA ⟨cnt, lA, eA, qA, tA, LA, gA, f0, f1, f5⟩
  simp (dsimp := false) (implicitDefEqProofs := false) (disch := first | omega | assumption | (simp only [rL, Nat.reduceAdd]; try omega)) only [↓rA, rZ, List.drop_succ_cons, ne_eq, not_true_eq_false, not_false_eq_true, List.getElem?_cons_zero, List.getElem?_cons_succ, ev, ofConst, ofCell, ↓reduceIte, Nat.reduceEqDiff, Nat.reduceAdd, Nat.reduceSub, Nat.reduceMul, Nat.reduceLeDiff, Nat.reduceLT, Int.reduceNeg, Int.reduceToNat, Int.reduceAdd, Int.reduceSub, Int.reduceMul, Int.reduceLT, Int.reduceLE, Int.reduceEq, Int.reduceNe, f0, f1, f5]
  refine bsl_own (s0 := _) Hp.sub_refl (allLen_strs (ws := [w_from])) fun oB sB hB => ?_
  simp (dsimp := false) (implicitDefEqProofs := false) (disch := first | omega | assumption | (simp only [rL, Nat.reduceAdd]; try omega)) only [↓rA, rZ, List.drop_succ_cons, ne_eq, not_true_eq_false, not_false_eq_true, List.getElem?_cons_zero, List.getElem?_cons_succ, ev, ofConst, ofCell, ↓reduceIte, Nat.reduceEqDiff, Nat.reduceAdd, Nat.reduceSub, Nat.reduceMul, Nat.reduceLeDiff, Nat.reduceLT, Int.reduceNeg, Int.reduceToNat, Int.reduceAdd, Int.reduceSub, Int.reduceMul, Int.reduceLT, Int.reduceLE, Int.reduceEq, Int.reduceNe, f0, f1, f5]
  have tB := tA.mono hB.sub
  have LB := LA.mono hB.sub
  have gB := hB.sub _ _ gA
  refine callp_intro (must_spec lt [w_from] oB lA _ sB tB.all (by simp)) ?_ ?_
  rotate_left
  · rintro r s5 ⟨e6, h6⟩
    exact ⟨by simp [selF, eA, e6], tB.stop h6⟩
  rintro _ sC ⟨lC, eC, hC⟩
  have qC := isF_le eC
  have tC := tB.back hC
  have LC := LB.step tB dl hC
  have gC := hC.keep d5 gB
  simp (dsimp := false) (implicitDefEqProofs := false) (disch := first | omega | assumption | (simp only [rL, Nat.reduceAdd]; try omega)) only [↓rA, rZ, List.drop_succ_cons, ne_eq, not_true_eq_false, not_false_eq_true, List.getElem?_cons_zero, List.getElem?_cons_succ, ev, ofConst, ofCell, ↓reduceIte, Nat.reduceEqDiff, Nat.reduceAdd, Nat.reduceSub, Nat.reduceMul, Nat.reduceLeDiff, Nat.reduceLT, Int.reduceNeg, Int.reduceToNat, Int.reduceAdd, Int.reduceSub, Int.reduceMul, Int.reduceLT, Int.reduceLE, Int.reduceEq, Int.reduceNe, f0, f1, f5]
  refine callp_intro (name_spec lt lC _ sC tC.all) ?_ ?_
  rotate_left
  · rintro r s5 ⟨e6, h6⟩
    exact ⟨by simp [selF, eA, eC, e6], tC.stop h6⟩
  rintro _ sD ⟨tab, lD, eD, rfl, hD⟩
  have qD := nameF_less _ _ _ eD
  have tD := tC.back hD
  have LD := LC.step tC dl hD
  have gD := hD.keep d5 gC
  simp (dsimp := false) (implicitDefEqProofs := false) (disch := first | omega | assumption | (simp only [rL, Nat.reduceAdd]; try omega)) only [↓rA, rZ, List.drop_succ_cons, ne_eq, not_true_eq_false, not_false_eq_true, List.getElem?_cons_zero, List.getElem?_cons_succ, ev, ofConst, ofCell, ↓reduceIte, Nat.reduceEqDiff, Nat.reduceAdd, Nat.reduceSub, Nat.reduceMul, Nat.reduceLeDiff, Nat.reduceLT, Int.reduceNeg, Int.reduceToNat, Int.reduceAdd, Int.reduceSub, Int.reduceMul, Int.reduceLT, Int.reduceLE, Int.reduceEq, Int.reduceNe, f0, f1, f5, Hp.stA_of gD, putAt_z1, putAt_sc, strV]
  have tD' := tD.write n05 d5 (ob := .cells [.v (.string ⟨tab.toArray⟩), .v (.bool cnt), .v (.int .i64 (-1)), .sl [] .nil, .v (.string ⟨#[]⟩), .v (.bool false), .sl [] .nil, .v (.int .i64 (-1))])
  have LD' := LD.write n05 gD e5' (ob := .cells [.v (.string ⟨tab.toArray⟩), .v (.bool cnt), .v (.int .i64 (-1)), .sl [] .nil, .v (.string ⟨#[]⟩), .v (.bool false), .sl [] .nil, .v (.int .i64 (-1))])
  refine bsl_own (s0 := _) Hp.sub_refl (allLen_strs (ws := [w_as, w_of])) fun oE sE hE => ?_
  simp (dsimp := false) (implicitDefEqProofs := false) (disch := first | omega | assumption | (simp only [rL, Nat.reduceAdd]; try omega)) only [↓rA, rZ, List.drop_succ_cons, ne_eq, not_true_eq_false, not_false_eq_true, List.getElem?_cons_zero, List.getElem?_cons_succ, ev, ofConst, ofCell, ↓reduceIte, Nat.reduceEqDiff, Nat.reduceAdd, Nat.reduceSub, Nat.reduceMul, Nat.reduceLeDiff, Nat.reduceLT, Int.reduceNeg, Int.reduceToNat, Int.reduceAdd, Int.reduceSub, Int.reduceMul, Int.reduceLT, Int.reduceLE, Int.reduceEq, Int.reduceNe, f0, f1, f5]
  have tE := tD'.mono hE.sub
  have LE := LD'.mono hE.sub
  have gE := hE.sub _ _ (Hp.set_same _ _ _)
  refine call_intro (is_spec lt [w_as, w_of] oE lD _ sE tE.all (by simp)) ?_
  rintro _ sF ⟨rfl, hF⟩
  have tF := tE.back hF
  have LF := LE.step tE dl hF
  have gF := hF.keep d5 gE
  simp (dsimp := false) (implicitDefEqProofs := false) (disch := first | omega | assumption | (simp only [rL, Nat.reduceAdd]; try omega)) only [↓rA, rZ, List.drop_succ_cons, ne_eq, not_true_eq_false, not_false_eq_true, List.getElem?_cons_zero, List.getElem?_cons_succ, ev, ofConst, ofCell, ↓reduceIte, Nat.reduceEqDiff, Nat.reduceAdd, Nat.reduceSub, Nat.reduceMul, Nat.reduceLeDiff, Nat.reduceLT, Int.reduceNeg, Int.reduceToNat, Int.reduceAdd, Int.reduceSub, Int.reduceMul, Int.reduceLT, Int.reduceLE, Int.reduceEq, Int.reduceNe, f0, f1, f5]
  refine cond_join (fun f s' => ∃ (v : Int) (ys : List Int) (l4 : List Tok), numOr [w_as, w_of] lD = some ((v, ys), l4) ∧ l4.length ≤ lD.length ∧ ys.length ≤ 1 ∧ TK lt l4 s0 s' ∧ LK ll ys s0 s' ∧ s' l5 = some (.cells [.v (.string ⟨tab.toArray⟩), .v (.bool cnt), .v (.int .i64 v), .sl [] .nil, .v (.string ⟨#[]⟩), .v (.bool false), .sl [] .nil, .v (.int .i64 (-1))]) ∧
      f 0 = .ptr lt 0 ∧ f 1 = .ptr ll 0 ∧ f 5 = .ptr l5 0) ?_ ?_ ?_
  · intro hc
    obtain ⟨l1, hc1⟩ := Option.isSome_iff_exists.1 hc
    rw [hc1] at tF
    simp only [Option.getD_some] at tF
    have q1 := isF_le hc1
    simp (dsimp := false) (implicitDefEqProofs := false) (disch := first | omega | assumption | (simp only [rL, Nat.reduceAdd]; try omega)) only [↓rA, rZ, List.drop_succ_cons, ne_eq, not_true_eq_false, not_false_eq_true, List.getElem?_cons_zero, List.getElem?_cons_succ, ev, ofConst, ofCell, ↓reduceIte, Nat.reduceEqDiff, Nat.reduceAdd, Nat.reduceSub, Nat.reduceMul, Nat.reduceLeDiff, Nat.reduceLT, Int.reduceNeg, Int.reduceToNat, Int.reduceAdd, Int.reduceSub, Int.reduceMul, Int.reduceLT, Int.reduceLE, Int.reduceEq, Int.reduceNe, f0, f1, f5]
    refine callp_intro (pnumber_spec lt l1 _ sF tF.all) ?_ ?_
    · rintro _ sG ⟨v, lG, eG, rfl, hG⟩
      have qG := numberF_less _ _ _ eG
      have tG := tF.back hG
      have LG := LF.step tF dl hG
      have gG := hG.keep d5 gF
      have tG' := tG.write n05 d5 (ob := .cells [.v (.string ⟨tab.toArray⟩), .v (.bool cnt), .v (.int .i64 v), .sl [] .nil, .v (.string ⟨#[]⟩), .v (.bool false), .sl [] .nil, .v (.int .i64 (-1))])
      have LG' := LG.write n05 gG e5' (ob := .cells [.v (.string ⟨tab.toArray⟩), .v (.bool cnt), .v (.int .i64 v), .sl [] .nil, .v (.string ⟨#[]⟩), .v (.bool false), .sl [] .nil, .v (.int .i64 (-1))])
      obtain ⟨m1, av, o, hA, hO, hlG⟩ := LG'
      have hlG2 : sG ll = some (.cells [.sl av o]) := by rw [Hp.set_ne _ _ e5'] at hlG; exact hlG
      simp (dsimp := false) (implicitDefEqProofs := false) (disch := first | omega | assumption | (simp only [rL, Nat.reduceAdd]; try omega)) only [↓rA, rZ, List.drop_succ_cons, ne_eq, not_true_eq_false, not_false_eq_true, List.getElem?_cons_zero, List.getElem?_cons_succ, ev, ofConst, ofCell, ↓reduceIte, Nat.reduceEqDiff, Nat.reduceAdd, Nat.reduceSub, Nat.reduceMul, Nat.reduceLeDiff, Nat.reduceLT, Int.reduceNeg, Int.reduceToNat, Int.reduceAdd, Int.reduceSub, Int.reduceMul, Int.reduceLT, Int.reduceLE, Int.reduceEq, Int.reduceNe, f0, f1, f5, Hp.stA_of gG, putAt_z1, putAt_sc, Hp.read_of hlG, Hp.set_ne, e5, e5', hlG2]
      refine bsl_own (s0 := _) Hp.sub_refl (show allLen 1 [AV.v (.int .i64 v)] from fun e he => by simp at he; subst he; rfl) fun oH sH hH => ?_
      simp (dsimp := false) (implicitDefEqProofs := false) (disch := first | omega | assumption | (simp only [rL, Nat.reduceAdd]; try omega)) only [↓rA, rZ, List.drop_succ_cons, ne_eq, not_true_eq_false, not_false_eq_true, List.getElem?_cons_zero, List.getElem?_cons_succ, ev, ofConst, ofCell, ↓reduceIte, Nat.reduceEqDiff, Nat.reduceAdd, Nat.reduceSub, Nat.reduceMul, Nat.reduceLeDiff, Nat.reduceLT, Int.reduceNeg, Int.reduceToNat, Int.reduceAdd, Int.reduceSub, Int.reduceMul, Int.reduceLT, Int.reduceLE, Int.reduceEq, Int.reduceNe]
      refine LK_app hA (hO.mono hH.sub) (hH.sub _ _ hlG) (tG'.mono hH.sub) (hH.sub _ _ (Hp.set_same _ _ _)) dl d5 e5 m1 n05 (by rw [hx0]; simp) fun oI sI tI OI lI gI => ?_
      simp (dsimp := false) (implicitDefEqProofs := false) (disch := first | omega | assumption | (simp only [rL, Nat.reduceAdd]; try omega)) only [↓rA, rZ, List.drop_succ_cons, ne_eq, not_true_eq_false, not_false_eq_true, List.getElem?_cons_zero, List.getElem?_cons_succ, ev, ofConst, ofCell, ↓reduceIte, Nat.reduceEqDiff, Nat.reduceAdd, Nat.reduceSub, Nat.reduceMul, Nat.reduceLeDiff, Nat.reduceLT, Int.reduceNeg, Int.reduceToNat, Int.reduceAdd, Int.reduceSub, Int.reduceMul, Int.reduceLT, Int.reduceLE, Int.reduceEq, Int.reduceNe, f0, f1, f5, Hp.stA_of lI, putAt_z1, putAt_sc, Hp.set_ne, e5]
      refine ⟨v, [v], lG, by simp [numOr, hc1, eG], by omega, by simp, tI.write m1 dl, ⟨m1, _, oI, ?_, own_write OI m1 lI, Hp.set_same _ _ _⟩, gI⟩
      rw [hx0] at hA
      exact AllV.snoc (V := intR) (x := v) rfl hA
    · rintro r s5 ⟨e6, h6⟩
      exact ⟨by simp [selF, eA, eC, eD, numOr, hc1, e6], tF.stop h6⟩
  · intro hc
    have hc1 : isF [w_as, w_of] lD = none := by simpa using hc
    rw [hc1] at tF
    simp only [Option.getD_none] at tF
    simp (dsimp := false) (implicitDefEqProofs := false) (disch := first | omega | assumption | (simp only [rL, Nat.reduceAdd]; try omega)) only [↓rA, rZ, List.drop_succ_cons, ne_eq, not_true_eq_false, not_false_eq_true, List.getElem?_cons_zero, List.getElem?_cons_succ, ev, ofConst, ofCell, ↓reduceIte, Nat.reduceEqDiff, Nat.reduceAdd, Nat.reduceSub, Nat.reduceMul, Nat.reduceLeDiff, Nat.reduceLT, Int.reduceNeg, Int.reduceToNat, Int.reduceAdd, Int.reduceSub, Int.reduceMul, Int.reduceLT, Int.reduceLE, Int.reduceEq, Int.reduceNe, f0, f1, f5]
    exact ⟨-1, [], lD, by simp [numOr, hc1], Nat.le_refl _, by simp, tF, by rw [← hx0]; exact LF, gF⟩
  clear tB LB gB hB hC tC LC gC hD tD LD gD tD' LD' hE tE LE gE hF tF LF gF f0 f1 f5 tA LA gA
  rintro f sG ⟨v, ys, lG, eG, qG, y1, tG, LG, gG, f0, f1, f5⟩
  simp (dsimp := false) (implicitDefEqProofs := false) (disch := first | omega | assumption | (simp only [rL, Nat.reduceAdd]; try omega)) only [↓rA, rZ, List.drop_succ_cons, ne_eq, not_true_eq_false, not_false_eq_true, List.getElem?_cons_zero, List.getElem?_cons_succ, ev, ofConst, ofCell, ↓reduceIte, Nat.reduceEqDiff, Nat.reduceAdd, Nat.reduceSub, Nat.reduceMul, Nat.reduceLeDiff, Nat.reduceLT, Int.reduceNeg, Int.reduceToNat, Int.reduceAdd, Int.reduceSub, Int.reduceMul, Int.reduceLT, Int.reduceLE, Int.reduceEq, Int.reduceNe, f0, f1, f5]
  refine callp_intro (where_spec lt lG _ sG (by omega) tG.all) ?_ ?_
  rotate_left
  · rintro r s5 ⟨e6, h6⟩
    exact ⟨by simp [selF, eA, eC, eD, eG, e6], tG.stop h6⟩
  rintro _ sH ⟨wh, lH, eH, ⟨aw, ow, hAw, rfl⟩, hH⟩
  have tH := tG.back hH
  have LH := LG.step tG dl hH
  have gH := hH.keep d5 gG
  have tH' := tH.write n05 d5 (ob := .cells [.v (.string ⟨tab.toArray⟩), .v (.bool cnt), .v (.int .i64 v), .sl aw ow, .v (.string ⟨#[]⟩), .v (.bool false), .sl [] .nil, .v (.int .i64 (-1))])
  have LH' := LH.write n05 gH e5' (ob := .cells [.v (.string ⟨tab.toArray⟩), .v (.bool cnt), .v (.int .i64 v), .sl aw ow, .v (.string ⟨#[]⟩), .v (.bool false), .sl [] .nil, .v (.int .i64 (-1))])
  have qH : lH.length ≤ lG.length := by
    revert eH; unfold whereF
    cases hw : isF [w_where] lG with
    | none => intro h'; simp only [Option.some.injEq, Prod.mk.injEq] at h'; rw [← h'.2]; exact Nat.le_refl _
    | some l1 => intro h'; have := listF_less condF_less _ _ _ h'; have := isF_le hw; omega
  cases cnt with
  | true =>
    simp (dsimp := false) (implicitDefEqProofs := false) (disch := first | omega | assumption | (simp only [rL, Nat.reduceAdd]; try omega)) only [↓rA, rZ, List.drop_succ_cons, ne_eq, not_true_eq_false, not_false_eq_true, List.getElem?_cons_zero, List.getElem?_cons_succ, ev, ofConst, ofCell, ↓reduceIte, Nat.reduceEqDiff, Nat.reduceAdd, Nat.reduceSub, Nat.reduceMul, Nat.reduceLeDiff, Nat.reduceLT, Int.reduceNeg, Int.reduceToNat, Int.reduceAdd, Int.reduceSub, Int.reduceMul, Int.reduceLT, Int.reduceLE, Int.reduceEq, Int.reduceNe, f0, f1, f5, Hp.stA_of gH, putAt_z1, putAt_sc]
    exact ⟨_, Hp.sub_refl, ⟨tab, true, v, wh, ⟨[], false, []⟩, -1⟩, ys, lH, by simp [selF, eA, eC, eD, eG, eH], ⟨_, _, ⟨aw, ow, hAw, rfl⟩, slR_nil, rfl⟩, tH', LH'⟩
  | false =>
    simp (dsimp := false) (implicitDefEqProofs := false) (disch := first | omega | assumption | (simp only [rL, Nat.reduceAdd]; try omega)) only [↓rA, rZ, List.drop_succ_cons, ne_eq, not_true_eq_false, not_false_eq_true, List.getElem?_cons_zero, List.getElem?_cons_succ, ev, ofConst, ofCell, ↓reduceIte, Nat.reduceEqDiff, Nat.reduceAdd, Nat.reduceSub, Nat.reduceMul, Nat.reduceLeDiff, Nat.reduceLT, Int.reduceNeg, Int.reduceToNat, Int.reduceAdd, Int.reduceSub, Int.reduceMul, Int.reduceLT, Int.reduceLE, Int.reduceEq, Int.reduceNe, f0, f1, f5, Hp.stA_of gH, putAt_z1, putAt_sc]
    refine callp_intro (sorting_spec lt lH _ _ (by omega) tH'.all) ?_ ?_
    rotate_left
    · rintro r s5 ⟨e6, h6⟩
      exact ⟨by simp [selF, eA, eC, eD, eG, eH, e6], tH'.stop h6⟩
    rintro _ sI ⟨srt, lI, eI, ⟨_, ⟨ap, op, hAp, rfl⟩, rfl⟩, hI⟩
    have tI := tH'.back hI
    have LI := LH'.step tH' dl hI
    have gI := hI.keep d5 (Hp.set_same _ _ _)
    simp (dsimp := false) (implicitDefEqProofs := false) (disch := first | omega | assumption | (simp only [rL, Nat.reduceAdd]; try omega)) only [↓rA, rZ, List.drop_succ_cons, ne_eq, not_true_eq_false, not_false_eq_true, List.getElem?_cons_zero, List.getElem?_cons_succ, ev, ofConst, ofCell, ↓reduceIte, Nat.reduceEqDiff, Nat.reduceAdd, Nat.reduceSub, Nat.reduceMul, Nat.reduceLeDiff, Nat.reduceLT, Int.reduceNeg, Int.reduceToNat, Int.reduceAdd, Int.reduceSub, Int.reduceMul, Int.reduceLT, Int.reduceLE, Int.reduceEq, Int.reduceNe, f0, f1, f5, Hp.stA_of gI, putAt_z1, putAt_sc, putAt_z3]
    have tI' := tI.write n05 d5 (ob := .cells [.v (.string ⟨tab.toArray⟩), .v (.bool false), .v (.int .i64 v), .sl aw ow, strV srt.col, .v (.bool srt.down), .sl ap op, .v (.int .i64 (-1))])
    have LI' := LI.write n05 gI e5' (ob := .cells [.v (.string ⟨tab.toArray⟩), .v (.bool false), .v (.int .i64 v), .sl aw ow, strV srt.col, .v (.bool srt.down), .sl ap op, .v (.int .i64 (-1))])
    refine bsl_own (s0 := _) Hp.sub_refl (allLen_strs (ws := [w_limit])) fun oE sE hE => ?_
    simp (dsimp := false) (implicitDefEqProofs := false) (disch := first | omega | assumption | (simp only [rL, Nat.reduceAdd]; try omega)) only [↓rA, rZ, List.drop_succ_cons, ne_eq, not_true_eq_false, not_false_eq_true, List.getElem?_cons_zero, List.getElem?_cons_succ, ev, ofConst, ofCell, ↓reduceIte, Nat.reduceEqDiff, Nat.reduceAdd, Nat.reduceSub, Nat.reduceMul, Nat.reduceLeDiff, Nat.reduceLT, Int.reduceNeg, Int.reduceToNat, Int.reduceAdd, Int.reduceSub, Int.reduceMul, Int.reduceLT, Int.reduceLE, Int.reduceEq, Int.reduceNe, f0, f1, f5]
    have tE := tI'.mono hE.sub
    have LE := LI'.mono hE.sub
    have gE := hE.sub _ _ (Hp.set_same _ _ _)
    refine call_intro (is_spec lt [w_limit] oE lI _ sE tE.all (by simp)) ?_
    rintro _ sF ⟨rfl, hF⟩
    have tF := tE.back hF
    have LF := LE.step tE dl hF
    have gF := hF.keep d5 gE
    cases hc1 : isF [w_limit] lI with
    | none =>
      rw [hc1] at tF
      simp only [Option.getD_none] at tF
      simp (dsimp := false) (implicitDefEqProofs := false) (disch := first | omega | assumption | (simp only [rL, Nat.reduceAdd]; try omega)) only [↓rA, rZ, List.drop_succ_cons, ne_eq, not_true_eq_false, not_false_eq_true, List.getElem?_cons_zero, List.getElem?_cons_succ, ev, ofConst, ofCell, ↓reduceIte, Nat.reduceEqDiff, Nat.reduceAdd, Nat.reduceSub, Nat.reduceMul, Nat.reduceLeDiff, Nat.reduceLT, Int.reduceNeg, Int.reduceToNat, Int.reduceAdd, Int.reduceSub, Int.reduceMul, Int.reduceLT, Int.reduceLE, Int.reduceEq, Int.reduceNe, f0, f1, f5, Option.isSome_none, Hp.read_of gF]
      exact ⟨_, Hp.sub_refl, ⟨tab, false, v, wh, srt, -1⟩, ys, lI, by
        have eM : numOr [w_limit] lI = some ((-1, []), lI) := by simp [numOr, hc1]
        simp [selF, eA, eC, eD, eG, eH, eI, eM], ⟨_, _, ⟨aw, ow, hAw, rfl⟩, ⟨ap, op, hAp, rfl⟩, rfl⟩, tF, LF⟩
    | some l1 =>
      rw [hc1] at tF
      simp only [Option.getD_some] at tF
      simp (dsimp := false) (implicitDefEqProofs := false) (disch := first | omega | assumption | (simp only [rL, Nat.reduceAdd]; try omega)) only [↓rA, rZ, List.drop_succ_cons, ne_eq, not_true_eq_false, not_false_eq_true, List.getElem?_cons_zero, List.getElem?_cons_succ, ev, ofConst, ofCell, ↓reduceIte, Nat.reduceEqDiff, Nat.reduceAdd, Nat.reduceSub, Nat.reduceMul, Nat.reduceLeDiff, Nat.reduceLT, Int.reduceNeg, Int.reduceToNat, Int.reduceAdd, Int.reduceSub, Int.reduceMul, Int.reduceLT, Int.reduceLE, Int.reduceEq, Int.reduceNe, f0, f1, f5, Option.isSome_some]
      refine callp_intro (pnumber_spec lt l1 _ sF tF.all) ?_ ?_
      rotate_left
      · rintro r s5 ⟨e6, h6⟩
        exact ⟨by
          have eM : numOr [w_limit] lI = none := by simp [numOr, hc1, e6]
          simp [selF, eA, eC, eD, eG, eH, eI, eM], tF.stop h6⟩
      rintro _ sJ ⟨w, lJ, eJ, rfl, hJ⟩
      have tJ := tF.back hJ
      have LJ := LF.step tF dl hJ
      have gJ := hJ.keep d5 gF
      have tJ' := tJ.write n05 d5 (ob := .cells [.v (.string ⟨tab.toArray⟩), .v (.bool false), .v (.int .i64 v), .sl aw ow, strV srt.col, .v (.bool srt.down), .sl ap op, .v (.int .i64 w)])
      have LJ' := LJ.write n05 gJ e5' (ob := .cells [.v (.string ⟨tab.toArray⟩), .v (.bool false), .v (.int .i64 v), .sl aw ow, strV srt.col, .v (.bool srt.down), .sl ap op, .v (.int .i64 w)])
      obtain ⟨m1, av, o, hA, hO, hlG⟩ := LJ'
      have hlG2 : sJ ll = some (.cells [.sl av o]) := by rw [Hp.set_ne _ _ e5'] at hlG; exact hlG
      simp (dsimp := false) (implicitDefEqProofs := false) (disch := first | omega | assumption | (simp only [rL, Nat.reduceAdd]; try omega)) only [↓rA, rZ, List.drop_succ_cons, ne_eq, not_true_eq_false, not_false_eq_true, List.getElem?_cons_zero, List.getElem?_cons_succ, ev, ofConst, ofCell, ↓reduceIte, Nat.reduceEqDiff, Nat.reduceAdd, Nat.reduceSub, Nat.reduceMul, Nat.reduceLeDiff, Nat.reduceLT, Int.reduceNeg, Int.reduceToNat, Int.reduceAdd, Int.reduceSub, Int.reduceMul, Int.reduceLT, Int.reduceLE, Int.reduceEq, Int.reduceNe, f0, f1, f5, Hp.stA_of gJ, putAt_z1, putAt_sc, Hp.set_ne, e5, e5', hlG2, Hp.read_of hlG]
      refine bsl_own (s0 := _) Hp.sub_refl (show allLen 1 [AV.v (.int .i64 w)] from fun e he => by simp at he; subst he; rfl) fun oK sK hK => ?_
      simp (dsimp := false) (implicitDefEqProofs := false) (disch := first | omega | assumption | (simp only [rL, Nat.reduceAdd]; try omega)) only [↓rA, rZ, List.drop_succ_cons, ne_eq, not_true_eq_false, not_false_eq_true, List.getElem?_cons_zero, List.getElem?_cons_succ, ev, ofConst, ofCell, ↓reduceIte, Nat.reduceEqDiff, Nat.reduceAdd, Nat.reduceSub, Nat.reduceMul, Nat.reduceLeDiff, Nat.reduceLT, Int.reduceNeg, Int.reduceToNat, Int.reduceAdd, Int.reduceSub, Int.reduceMul, Int.reduceLT, Int.reduceLE, Int.reduceEq, Int.reduceNe]
      refine LK_app hA (hO.mono hK.sub) (hK.sub _ _ hlG) (tJ'.mono hK.sub) (hK.sub _ _ (Hp.set_same _ _ _)) dl d5 e5 m1 n05 (by omega) fun oL sL tL OL lL gL => ?_
      have gL2 : (sL.set ll (.cells [.sl (av ++ [.v (.int .i64 w)]) oL])) l5 = some (.cells [.v (.string ⟨tab.toArray⟩), .v (.bool false), .v (.int .i64 v), .sl aw ow, strV srt.col, .v (.bool srt.down), .sl ap op, .v (.int .i64 w)]) := by rw [Hp.set_ne _ _ e5]; exact gL
      simp (dsimp := false) (implicitDefEqProofs := false) (disch := first | omega | assumption | (simp only [rL, Nat.reduceAdd]; try omega)) only [↓rA, rZ, List.drop_succ_cons, ne_eq, not_true_eq_false, not_false_eq_true, List.getElem?_cons_zero, List.getElem?_cons_succ, ev, ofConst, ofCell, ↓reduceIte, Nat.reduceEqDiff, Nat.reduceAdd, Nat.reduceSub, Nat.reduceMul, Nat.reduceLeDiff, Nat.reduceLT, Int.reduceNeg, Int.reduceToNat, Int.reduceAdd, Int.reduceSub, Int.reduceMul, Int.reduceLT, Int.reduceLE, Int.reduceEq, Int.reduceNe, f0, f1, f5, Hp.stA_of lL, putAt_z1, putAt_sc, Hp.set_ne, e5, Hp.read_of gL2]
      exact ⟨_, Hp.sub_refl, ⟨tab, false, v, wh, srt, w⟩, ys ++ [w], lJ, by
        have eM : numOr [w_limit] lI = some ((w, [w]), lJ) := by simp [numOr, hc1, eJ]
        simp [selF, eA, eC, eD, eG, eH, eI, eM], ⟨_, _, ⟨aw, ow, hAw, rfl⟩, ⟨ap, op, hAp, rfl⟩, rfl⟩, tL.write m1 dl, ⟨m1, _, oL, AllV.snoc (V := intR) (x := w) rfl hA, own_write OL m1 lL, Hp.set_same _ _ _⟩⟩
end Go.Proofs.YtgfbealjkdhdbaaGreatDoor
/-
  parse: a statement.
-/
set_option maxRecDepth 100000
namespace Go.Proofs.YtgfbealjkdhdbaaGreatDoor
open Go Go.Av
def txG : List (List UInt8) → Nat → List Tok → Option (Stm × List Tok)
  | [], _, _ => none
  | w :: r, j, l => match (if 0 < j then isF [w] l else none) with
    | some l1 => some (.tx j, l1)
    | none => txG r (j + 1) l
def words4 : List (List UInt8) := [[], w_begin, w_commit, w_rollback]
def plain {α : Type} (p : Stm × α) : (Stm × List Int) × α := ((p.1, []), p.2)
def stm7 (l : List Tok) : Option ((Stm × List Int) × List Tok) := (txG words4 0 l).map plain
def stm6 (l : List Tok) : Option ((Stm × List Int) × List Tok) :=
  match isF [w_select] l with
  | some l1 => (selF l1).map fun p => ((.sel p.1.1, p.1.2), p.2)
  | none => stm7 l
def stm5 (l : List Tok) : Option ((Stm × List Int) × List Tok) :=
  match isF [w_update] l with
  | some l1 => (updateF l1).map plain
  | none => stm6 l
def stm4 (l : List Tok) : Option ((Stm × List Int) × List Tok) :=
  match isF [w_delete, w_from] l with
  | some l1 => (nameF l1).bind fun p => (whereF p.2).map fun q => ((.delete p.1 q.1, []), q.2)
  | none => stm5 l
def stm3 (l : List Tok) : Option ((Stm × List Int) × List Tok) :=
  match isF [w_insert, w_into] l with
  | some l1 => (insertionF l1).map plain
  | none => stm4 l
def stm2 (l : List Tok) : Option ((Stm × List Int) × List Tok) :=
  match isF [w_drop, w_table] l with
  | some l1 => (nameF l1).map fun p => ((.drop p.1, []), p.2)
  | none => stm3 l
def stmF (l : List Tok) : Option ((Stm × List Int) × List Tok) :=
  match isF [w_create, w_table] l with
  | some l1 => (creationF l1).map plain
  | none => stm2 l
theorem rep4 {x : AV} : List.replicate 4 x = [x, x, x, x] := rfl
theorem words_agg : (AV.agg [.v (.string ⟨#[]⟩), .v (.string ⟨#[98, 101, 103, 105, 110]⟩), .v (.string ⟨#[99, 111, 109, 109, 105, 116]⟩), .v (.string ⟨#[114, 111, 108, 108, 98, 97, 99, 107]⟩)]) = .agg (words4.map strV) := rfl
theorem statement_spec (lt ll : Nat) (l : List Tok) (xs0 : List Int) (s0 s : Hp) (hl : l.length ≤ 100000) (hx0 : xs0 = []) (h : TK lt l s0 s) (hL : LK ll xs0 s0 s) (dl : ll ≠ lt) :
    ACp Tryz.prog 31 [.ptr lt 0, .ptr ll 0] s (fun r s' => ∃ x ys l', stmF l = some ((x, ys), l') ∧ stmR x r ∧ TK lt l' s0 s' ∧ LK ll ys s0 s') (up (fun r s' => stmF l = none ∧ Stop s0 2 r s')) := by
  refine ACp_run hm prep31 (by simp) ?_
  simp (dsimp := false) (implicitDefEqProofs := false) (disch := first | omega | assumption | (simp only [rL, Nat.reduceAdd]; try omega)) only [↓rA, rZ, List.drop_succ_cons, ne_eq, not_true_eq_false, not_false_eq_true, List.getElem?_cons_zero, List.getElem?_cons_succ, ev, ofConst, ofCell, ↓reduceIte, Nat.reduceEqDiff, Nat.reduceAdd, Nat.reduceSub, Nat.reduceMul, Nat.reduceLeDiff, Nat.reduceLT, Int.reduceNeg, Int.reduceToNat, Int.reduceAdd, Int.reduceSub, Int.reduceMul, Int.reduceLT, Int.reduceLE, Int.reduceEq, Int.reduceNe]
  refine bsl_own (s0 := _) Hp.sub_refl (allLen_strs (ws := [w_create, w_table])) fun o1 s1 h1 => ?_
  simp (dsimp := false) (implicitDefEqProofs := false) (disch := first | omega | assumption | (simp only [rL, Nat.reduceAdd]; try omega)) only [↓rA, rZ, List.drop_succ_cons, ne_eq, not_true_eq_false, not_false_eq_true, List.getElem?_cons_zero, List.getElem?_cons_succ, ev, ofConst, ofCell, ↓reduceIte, Nat.reduceEqDiff, Nat.reduceAdd, Nat.reduceSub, Nat.reduceMul, Nat.reduceLeDiff, Nat.reduceLT, Int.reduceNeg, Int.reduceToNat, Int.reduceAdd, Int.reduceSub, Int.reduceMul, Int.reduceLT, Int.reduceLE, Int.reduceEq, Int.reduceNe]
  have t1 := h.mono h1.sub
  have L1 := hL.mono h1.sub
  refine call_intro (is_spec lt [w_create, w_table] o1 l _ s1 t1.all (by simp)) ?_
  rintro _ s2 ⟨rfl, h2⟩
  have t2 := t1.back h2
  have L2 := L1.step t1 dl h2
  cases e1 : isF [w_create, w_table] l with
  | some m1 =>
    rw [e1] at t2
    simp only [Option.getD_some] at t2
    have q1 := isF_le e1
    have hF : stmF l = (creationF m1).map plain := by simp [stmF,  e1]
    rw [hF]
    simp (dsimp := false) (implicitDefEqProofs := false) (disch := first | omega | assumption | (simp only [rL, Nat.reduceAdd]; try omega)) only [↓rA, rZ, List.drop_succ_cons, ne_eq, not_true_eq_false, not_false_eq_true, List.getElem?_cons_zero, List.getElem?_cons_succ, ev, ofConst, ofCell, ↓reduceIte, Nat.reduceEqDiff, Nat.reduceAdd, Nat.reduceSub, Nat.reduceMul, Nat.reduceLeDiff, Nat.reduceLT, Int.reduceNeg, Int.reduceToNat, Int.reduceAdd, Int.reduceSub, Int.reduceMul, Int.reduceLT, Int.reduceLE, Int.reduceEq, Int.reduceNe, Option.isSome_some]
    refine callp_intro (creation_spec lt m1 _ s2 (by omega) t2.all) ?_ ?_
    · rintro _ sR ⟨x, lR, eR, hR, kR⟩
      simp (dsimp := false) (implicitDefEqProofs := false) (disch := first | omega | assumption | (simp only [rL, Nat.reduceAdd]; try omega)) only [↓rA, rZ, List.drop_succ_cons, ne_eq, not_true_eq_false, not_false_eq_true, List.getElem?_cons_zero, List.getElem?_cons_succ, ev, ofConst, ofCell, ↓reduceIte, Nat.reduceEqDiff, Nat.reduceAdd, Nat.reduceSub, Nat.reduceMul, Nat.reduceLeDiff, Nat.reduceLT, Int.reduceNeg, Int.reduceToNat, Int.reduceAdd, Int.reduceSub, Int.reduceMul, Int.reduceLT, Int.reduceLE, Int.reduceEq, Int.reduceNe]
      exact ⟨_, Hp.sub_refl, x, [], lR, by simp [eR, plain], hR, t2.back kR, by rw [← hx0]; exact L2.step t2 dl kR⟩
    · rintro r sR ⟨eR, kR⟩
      exact ⟨by simp [eR], t2.stop kR⟩
  | none =>
  rw [e1] at t2
  simp only [Option.getD_none] at t2
  simp (dsimp := false) (implicitDefEqProofs := false) (disch := first | omega | assumption | (simp only [rL, Nat.reduceAdd]; try omega)) only [↓rA, rZ, List.drop_succ_cons, ne_eq, not_true_eq_false, not_false_eq_true, List.getElem?_cons_zero, List.getElem?_cons_succ, ev, ofConst, ofCell, ↓reduceIte, Nat.reduceEqDiff, Nat.reduceAdd, Nat.reduceSub, Nat.reduceMul, Nat.reduceLeDiff, Nat.reduceLT, Int.reduceNeg, Int.reduceToNat, Int.reduceAdd, Int.reduceSub, Int.reduceMul, Int.reduceLT, Int.reduceLE, Int.reduceEq, Int.reduceNe, Option.isSome_none]
  refine bsl_own (s0 := _) Hp.sub_refl (allLen_strs (ws := [w_drop, w_table])) fun o3 s3 h3 => ?_
  simp (dsimp := false) (implicitDefEqProofs := false) (disch := first | omega | assumption | (simp only [rL, Nat.reduceAdd]; try omega)) only [↓rA, rZ, List.drop_succ_cons, ne_eq, not_true_eq_false, not_false_eq_true, List.getElem?_cons_zero, List.getElem?_cons_succ, ev, ofConst, ofCell, ↓reduceIte, Nat.reduceEqDiff, Nat.reduceAdd, Nat.reduceSub, Nat.reduceMul, Nat.reduceLeDiff, Nat.reduceLT, Int.reduceNeg, Int.reduceToNat, Int.reduceAdd, Int.reduceSub, Int.reduceMul, Int.reduceLT, Int.reduceLE, Int.reduceEq, Int.reduceNe]
  have t3 := t2.mono h3.sub
  have L3 := L2.mono h3.sub
  refine call_intro (is_spec lt [w_drop, w_table] o3 l _ s3 t3.all (by simp)) ?_
  rintro _ s4 ⟨rfl, h4⟩
  have t4 := t3.back h4
  have L4 := L3.step t3 dl h4
  cases e3 : isF [w_drop, w_table] l with
  | some m3 =>
    rw [e3] at t4
    simp only [Option.getD_some] at t4
    have q3 := isF_le e3
    have hF : stmF l = (nameF m3).map fun p => ((.drop p.1, []), p.2) := by simp [stmF, e1, stm2, e3]
    rw [hF]
    simp (dsimp := false) (implicitDefEqProofs := false) (disch := first | omega | assumption | (simp only [rL, Nat.reduceAdd]; try omega)) only [↓rA, rZ, List.drop_succ_cons, ne_eq, not_true_eq_false, not_false_eq_true, List.getElem?_cons_zero, List.getElem?_cons_succ, ev, ofConst, ofCell, ↓reduceIte, Nat.reduceEqDiff, Nat.reduceAdd, Nat.reduceSub, Nat.reduceMul, Nat.reduceLeDiff, Nat.reduceLT, Int.reduceNeg, Int.reduceToNat, Int.reduceAdd, Int.reduceSub, Int.reduceMul, Int.reduceLT, Int.reduceLE, Int.reduceEq, Int.reduceNe, Option.isSome_some]
    refine callp_intro (name_spec lt m3 _ s4 t4.all) ?_ ?_
    · rintro _ sR ⟨c, lR, eR, rfl, kR⟩
      simp (dsimp := false) (implicitDefEqProofs := false) (disch := first | omega | assumption | (simp only [rL, Nat.reduceAdd]; try omega)) only [↓rA, rZ, List.drop_succ_cons, ne_eq, not_true_eq_false, not_false_eq_true, List.getElem?_cons_zero, List.getElem?_cons_succ, ev, ofConst, ofCell, ↓reduceIte, Nat.reduceEqDiff, Nat.reduceAdd, Nat.reduceSub, Nat.reduceMul, Nat.reduceLeDiff, Nat.reduceLT, Int.reduceNeg, Int.reduceToNat, Int.reduceAdd, Int.reduceSub, Int.reduceMul, Int.reduceLT, Int.reduceLE, Int.reduceEq, Int.reduceNe, strV, putAt_z1]
      exact ⟨_, Hp.sub_refl, .drop c, [], lR, by simp [eR], rfl, t4.back kR, by rw [← hx0]; exact L4.step t4 dl kR⟩
    · rintro r sR ⟨eR, kR⟩
      exact ⟨by simp [eR], t4.stop kR⟩
  | none =>
  rw [e3] at t4
  simp only [Option.getD_none] at t4
  simp (dsimp := false) (implicitDefEqProofs := false) (disch := first | omega | assumption | (simp only [rL, Nat.reduceAdd]; try omega)) only [↓rA, rZ, List.drop_succ_cons, ne_eq, not_true_eq_false, not_false_eq_true, List.getElem?_cons_zero, List.getElem?_cons_succ, ev, ofConst, ofCell, ↓reduceIte, Nat.reduceEqDiff, Nat.reduceAdd, Nat.reduceSub, Nat.reduceMul, Nat.reduceLeDiff, Nat.reduceLT, Int.reduceNeg, Int.reduceToNat, Int.reduceAdd, Int.reduceSub, Int.reduceMul, Int.reduceLT, Int.reduceLE, Int.reduceEq, Int.reduceNe, Option.isSome_none]
  refine bsl_own (s0 := _) Hp.sub_refl (allLen_strs (ws := [w_insert, w_into])) fun o5 s5 h5 => ?_
  simp (dsimp := false) (implicitDefEqProofs := false) (disch := first | omega | assumption | (simp only [rL, Nat.reduceAdd]; try omega)) only [↓rA, rZ, List.drop_succ_cons, ne_eq, not_true_eq_false, not_false_eq_true, List.getElem?_cons_zero, List.getElem?_cons_succ, ev, ofConst, ofCell, ↓reduceIte, Nat.reduceEqDiff, Nat.reduceAdd, Nat.reduceSub, Nat.reduceMul, Nat.reduceLeDiff, Nat.reduceLT, Int.reduceNeg, Int.reduceToNat, Int.reduceAdd, Int.reduceSub, Int.reduceMul, Int.reduceLT, Int.reduceLE, Int.reduceEq, Int.reduceNe]
  have t5 := t4.mono h5.sub
  have L5 := L4.mono h5.sub
  refine call_intro (is_spec lt [w_insert, w_into] o5 l _ s5 t5.all (by simp)) ?_
  rintro _ s6 ⟨rfl, h6⟩
  have t6 := t5.back h6
  have L6 := L5.step t5 dl h6
  cases e5 : isF [w_insert, w_into] l with
  | some m5 =>
    rw [e5] at t6
    simp only [Option.getD_some] at t6
    have q5 := isF_le e5
    have hF : stmF l = (insertionF m5).map plain := by simp [stmF, e1, stm2, e3, stm3, e5]
    rw [hF]
    simp (dsimp := false) (implicitDefEqProofs := false) (disch := first | omega | assumption | (simp only [rL, Nat.reduceAdd]; try omega)) only [↓rA, rZ, List.drop_succ_cons, ne_eq, not_true_eq_false, not_false_eq_true, List.getElem?_cons_zero, List.getElem?_cons_succ, ev, ofConst, ofCell, ↓reduceIte, Nat.reduceEqDiff, Nat.reduceAdd, Nat.reduceSub, Nat.reduceMul, Nat.reduceLeDiff, Nat.reduceLT, Int.reduceNeg, Int.reduceToNat, Int.reduceAdd, Int.reduceSub, Int.reduceMul, Int.reduceLT, Int.reduceLE, Int.reduceEq, Int.reduceNe, Option.isSome_some]
    refine callp_intro (insertion_spec lt m5 _ s6 (by omega) t6.all) ?_ ?_
    · rintro _ sR ⟨x, lR, eR, hR, kR⟩
      simp (dsimp := false) (implicitDefEqProofs := false) (disch := first | omega | assumption | (simp only [rL, Nat.reduceAdd]; try omega)) only [↓rA, rZ, List.drop_succ_cons, ne_eq, not_true_eq_false, not_false_eq_true, List.getElem?_cons_zero, List.getElem?_cons_succ, ev, ofConst, ofCell, ↓reduceIte, Nat.reduceEqDiff, Nat.reduceAdd, Nat.reduceSub, Nat.reduceMul, Nat.reduceLeDiff, Nat.reduceLT, Int.reduceNeg, Int.reduceToNat, Int.reduceAdd, Int.reduceSub, Int.reduceMul, Int.reduceLT, Int.reduceLE, Int.reduceEq, Int.reduceNe]
      exact ⟨_, Hp.sub_refl, x, [], lR, by simp [eR, plain], hR, t6.back kR, by rw [← hx0]; exact L6.step t6 dl kR⟩
    · rintro r sR ⟨eR, kR⟩
      exact ⟨by simp [eR], t6.stop kR⟩
  | none =>
  rw [e5] at t6
  simp only [Option.getD_none] at t6
  simp (dsimp := false) (implicitDefEqProofs := false) (disch := first | omega | assumption | (simp only [rL, Nat.reduceAdd]; try omega)) only [↓rA, rZ, List.drop_succ_cons, ne_eq, not_true_eq_false, not_false_eq_true, List.getElem?_cons_zero, List.getElem?_cons_succ, ev, ofConst, ofCell, ↓reduceIte, Nat.reduceEqDiff, Nat.reduceAdd, Nat.reduceSub, Nat.reduceMul, Nat.reduceLeDiff, Nat.reduceLT, Int.reduceNeg, Int.reduceToNat, Int.reduceAdd, Int.reduceSub, Int.reduceMul, Int.reduceLT, Int.reduceLE, Int.reduceEq, Int.reduceNe, Option.isSome_none]
  refine bsl_own (s0 := _) Hp.sub_refl (allLen_strs (ws := [w_delete, w_from])) fun o7 s7 h7 => ?_
  simp (dsimp := false) (implicitDefEqProofs := false) (disch := first | omega | assumption | (simp only [rL, Nat.reduceAdd]; try omega)) only [↓rA, rZ, List.drop_succ_cons, ne_eq, not_true_eq_false, not_false_eq_true, List.getElem?_cons_zero, List.getElem?_cons_succ, ev, ofConst, ofCell, ↓reduceIte, Nat.reduceEqDiff, Nat.reduceAdd, Nat.reduceSub, Nat.reduceMul, Nat.reduceLeDiff, Nat.reduceLT, Int.reduceNeg, Int.reduceToNat, Int.reduceAdd, Int.reduceSub, Int.reduceMul, Int.reduceLT, Int.reduceLE, Int.reduceEq, Int.reduceNe]
  have t7 := t6.mono h7.sub
  have L7 := L6.mono h7.sub
  refine call_intro (is_spec lt [w_delete, w_from] o7 l _ s7 t7.all (by simp)) ?_
  rintro _ s8 ⟨rfl, h8⟩
  have t8 := t7.back h8
  have L8 := L7.step t7 dl h8
  cases e7 : isF [w_delete, w_from] l with
  | some m7 =>
    rw [e7] at t8
    simp only [Option.getD_some] at t8
    have q7 := isF_le e7
    have hF : stmF l = (nameF m7).bind fun p => (whereF p.2).map fun q => ((.delete p.1 q.1, []), q.2) := by simp [stmF, e1, stm2, e3, stm3, e5, stm4, e7]
    rw [hF]
    simp (dsimp := false) (implicitDefEqProofs := false) (disch := first | omega | assumption | (simp only [rL, Nat.reduceAdd]; try omega)) only [↓rA, rZ, List.drop_succ_cons, ne_eq, not_true_eq_false, not_false_eq_true, List.getElem?_cons_zero, List.getElem?_cons_succ, ev, ofConst, ofCell, ↓reduceIte, Nat.reduceEqDiff, Nat.reduceAdd, Nat.reduceSub, Nat.reduceMul, Nat.reduceLeDiff, Nat.reduceLT, Int.reduceNeg, Int.reduceToNat, Int.reduceAdd, Int.reduceSub, Int.reduceMul, Int.reduceLT, Int.reduceLE, Int.reduceEq, Int.reduceNe, Option.isSome_some]
    refine callp_intro (name_spec lt m7 _ s8 t8.all) ?_ ?_
    · rintro _ sQ ⟨c, lQ, eQ, rfl, kQ⟩
      have qQ := nameF_less _ _ _ eQ
      have tQ := t8.back kQ
      have LQ := L8.step t8 dl kQ
      simp (dsimp := false) (implicitDefEqProofs := false) (disch := first | omega | assumption | (simp only [rL, Nat.reduceAdd]; try omega)) only [↓rA, rZ, List.drop_succ_cons, ne_eq, not_true_eq_false, not_false_eq_true, List.getElem?_cons_zero, List.getElem?_cons_succ, ev, ofConst, ofCell, ↓reduceIte, Nat.reduceEqDiff, Nat.reduceAdd, Nat.reduceSub, Nat.reduceMul, Nat.reduceLeDiff, Nat.reduceLT, Int.reduceNeg, Int.reduceToNat, Int.reduceAdd, Int.reduceSub, Int.reduceMul, Int.reduceLT, Int.reduceLE, Int.reduceEq, Int.reduceNe, strV, putAt_z1]
      refine newK_intro fun x5 n5 => ?_
      have d5 := tQ.ne n5
      have b5 := LQ.ne n5
      have n05 := Hp.sub_none tQ.1 n5
      simp (dsimp := false) (implicitDefEqProofs := false) (disch := first | omega | assumption | (simp only [rL, Nat.reduceAdd]; try omega)) only [↓rA, rZ, List.drop_succ_cons, ne_eq, not_true_eq_false, not_false_eq_true, List.getElem?_cons_zero, List.getElem?_cons_succ, ev, ofConst, ofCell, ↓reduceIte, Nat.reduceEqDiff, Nat.reduceAdd, Nat.reduceSub, Nat.reduceMul, Nat.reduceLeDiff, Nat.reduceLT, Int.reduceNeg, Int.reduceToNat, Int.reduceAdd, Int.reduceSub, Int.reduceMul, Int.reduceLT, Int.reduceLE, Int.reduceEq, Int.reduceNe, strV, putAt_z1]
      have tQ' := tQ.add n5 (ob := .cells [.v (.string ⟨c.toArray⟩), .sl [] .nil])
      have LQ' := LQ.add n5 (ob := .cells [.v (.string ⟨c.toArray⟩), .sl [] .nil])
      refine callp_intro (where_spec lt lQ _ _ (by omega) tQ'.all) ?_ ?_
      · rintro _ sR ⟨wh, lR, eR, ⟨aw, ow, hAw, rfl⟩, kR⟩
        have tR := tQ'.back kR
        have LR := LQ'.step tQ' dl kR
        have gR := kR.keep d5 (Hp.set_same _ _ _)
        simp (dsimp := false) (implicitDefEqProofs := false) (disch := first | omega | assumption | (simp only [rL, Nat.reduceAdd]; try omega)) only [↓rA, rZ, List.drop_succ_cons, ne_eq, not_true_eq_false, not_false_eq_true, List.getElem?_cons_zero, List.getElem?_cons_succ, ev, ofConst, ofCell, ↓reduceIte, Nat.reduceEqDiff, Nat.reduceAdd, Nat.reduceSub, Nat.reduceMul, Nat.reduceLeDiff, Nat.reduceLT, Int.reduceNeg, Int.reduceToNat, Int.reduceAdd, Int.reduceSub, Int.reduceMul, Int.reduceLT, Int.reduceLE, Int.reduceEq, Int.reduceNe, Hp.stA_of gR, putAt_z1, putAt_sc]
        exact ⟨_, Hp.sub_refl, .delete c wh, [], lR, by simp [eQ, eR], ⟨_, ⟨aw, ow, hAw, rfl⟩, rfl⟩, tR.write n05 d5, by rw [← hx0]; exact LR.write n05 gR (Ne.symm b5)⟩
      · rintro r sR ⟨eR, kR⟩
        exact ⟨by simp [eQ, eR], tQ'.stop kR⟩
    · rintro r sR ⟨eR, kR⟩
      exact ⟨by simp [eR], t8.stop kR⟩
  | none =>
  rw [e7] at t8
  simp only [Option.getD_none] at t8
  simp (dsimp := false) (implicitDefEqProofs := false) (disch := first | omega | assumption | (simp only [rL, Nat.reduceAdd]; try omega)) only [↓rA, rZ, List.drop_succ_cons, ne_eq, not_true_eq_false, not_false_eq_true, List.getElem?_cons_zero, List.getElem?_cons_succ, ev, ofConst, ofCell, ↓reduceIte, Nat.reduceEqDiff, Nat.reduceAdd, Nat.reduceSub, Nat.reduceMul, Nat.reduceLeDiff, Nat.reduceLT, Int.reduceNeg, Int.reduceToNat, Int.reduceAdd, Int.reduceSub, Int.reduceMul, Int.reduceLT, Int.reduceLE, Int.reduceEq, Int.reduceNe, Option.isSome_none]
  refine bsl_own (s0 := _) Hp.sub_refl (allLen_strs (ws := [w_update])) fun o9 s9 h9 => ?_
  simp (dsimp := false) (implicitDefEqProofs := false) (disch := first | omega | assumption | (simp only [rL, Nat.reduceAdd]; try omega)) only [↓rA, rZ, List.drop_succ_cons, ne_eq, not_true_eq_false, not_false_eq_true, List.getElem?_cons_zero, List.getElem?_cons_succ, ev, ofConst, ofCell, ↓reduceIte, Nat.reduceEqDiff, Nat.reduceAdd, Nat.reduceSub, Nat.reduceMul, Nat.reduceLeDiff, Nat.reduceLT, Int.reduceNeg, Int.reduceToNat, Int.reduceAdd, Int.reduceSub, Int.reduceMul, Int.reduceLT, Int.reduceLE, Int.reduceEq, Int.reduceNe]
  have t9 := t8.mono h9.sub
  have L9 := L8.mono h9.sub
  refine call_intro (is_spec lt [w_update] o9 l _ s9 t9.all (by simp)) ?_
  rintro _ s10 ⟨rfl, h10⟩
  have t10 := t9.back h10
  have L10 := L9.step t9 dl h10
  cases e9 : isF [w_update] l with
  | some m9 =>
    rw [e9] at t10
    simp only [Option.getD_some] at t10
    have q9 := isF_le e9
    have hF : stmF l = (updateF m9).map plain := by simp [stmF, e1, stm2, e3, stm3, e5, stm4, e7, stm5, e9]
    rw [hF]
    simp (dsimp := false) (implicitDefEqProofs := false) (disch := first | omega | assumption | (simp only [rL, Nat.reduceAdd]; try omega)) only [↓rA, rZ, List.drop_succ_cons, ne_eq, not_true_eq_false, not_false_eq_true, List.getElem?_cons_zero, List.getElem?_cons_succ, ev, ofConst, ofCell, ↓reduceIte, Nat.reduceEqDiff, Nat.reduceAdd, Nat.reduceSub, Nat.reduceMul, Nat.reduceLeDiff, Nat.reduceLT, Int.reduceNeg, Int.reduceToNat, Int.reduceAdd, Int.reduceSub, Int.reduceMul, Int.reduceLT, Int.reduceLE, Int.reduceEq, Int.reduceNe, Option.isSome_some]
    refine callp_intro (update_spec lt m9 _ s10 (by omega) t10.all) ?_ ?_
    · rintro _ sR ⟨x, lR, eR, hR, kR⟩
      simp (dsimp := false) (implicitDefEqProofs := false) (disch := first | omega | assumption | (simp only [rL, Nat.reduceAdd]; try omega)) only [↓rA, rZ, List.drop_succ_cons, ne_eq, not_true_eq_false, not_false_eq_true, List.getElem?_cons_zero, List.getElem?_cons_succ, ev, ofConst, ofCell, ↓reduceIte, Nat.reduceEqDiff, Nat.reduceAdd, Nat.reduceSub, Nat.reduceMul, Nat.reduceLeDiff, Nat.reduceLT, Int.reduceNeg, Int.reduceToNat, Int.reduceAdd, Int.reduceSub, Int.reduceMul, Int.reduceLT, Int.reduceLE, Int.reduceEq, Int.reduceNe]
      exact ⟨_, Hp.sub_refl, x, [], lR, by simp [eR, plain], hR, t10.back kR, by rw [← hx0]; exact L10.step t10 dl kR⟩
    · rintro r sR ⟨eR, kR⟩
      exact ⟨by simp [eR], t10.stop kR⟩
  | none =>
  rw [e9] at t10
  simp only [Option.getD_none] at t10
  simp (dsimp := false) (implicitDefEqProofs := false) (disch := first | omega | assumption | (simp only [rL, Nat.reduceAdd]; try omega)) only [↓rA, rZ, List.drop_succ_cons, ne_eq, not_true_eq_false, not_false_eq_true, List.getElem?_cons_zero, List.getElem?_cons_succ, ev, ofConst, ofCell, ↓reduceIte, Nat.reduceEqDiff, Nat.reduceAdd, Nat.reduceSub, Nat.reduceMul, Nat.reduceLeDiff, Nat.reduceLT, Int.reduceNeg, Int.reduceToNat, Int.reduceAdd, Int.reduceSub, Int.reduceMul, Int.reduceLT, Int.reduceLE, Int.reduceEq, Int.reduceNe, Option.isSome_none]
  refine bsl_own (s0 := _) Hp.sub_refl (allLen_strs (ws := [w_select])) fun oA s11 h11 => ?_
  simp (dsimp := false) (implicitDefEqProofs := false) (disch := first | omega | assumption | (simp only [rL, Nat.reduceAdd]; try omega)) only [↓rA, rZ, List.drop_succ_cons, ne_eq, not_true_eq_false, not_false_eq_true, List.getElem?_cons_zero, List.getElem?_cons_succ, ev, ofConst, ofCell, ↓reduceIte, Nat.reduceEqDiff, Nat.reduceAdd, Nat.reduceSub, Nat.reduceMul, Nat.reduceLeDiff, Nat.reduceLT, Int.reduceNeg, Int.reduceToNat, Int.reduceAdd, Int.reduceSub, Int.reduceMul, Int.reduceLT, Int.reduceLE, Int.reduceEq, Int.reduceNe]
  have t11 := t10.mono h11.sub
  have L11 := L10.mono h11.sub
  refine call_intro (is_spec lt [w_select] oA l _ s11 t11.all (by simp)) ?_
  rintro _ s12 ⟨rfl, h12⟩
  have t12 := t11.back h12
  have L12 := L11.step t11 dl h12
  cases e11 : isF [w_select] l with
  | some m11 =>
    rw [e11] at t12
    simp only [Option.getD_some] at t12
    have q11 := isF_le e11
    have hF : stmF l = (selF m11).map fun p => ((.sel p.1.1, p.1.2), p.2) := by simp [stmF, e1, stm2, e3, stm3, e5, stm4, e7, stm5, e9, stm6, e11]
    rw [hF]
    simp (dsimp := false) (implicitDefEqProofs := false) (disch := first | omega | assumption | (simp only [rL, Nat.reduceAdd]; try omega)) only [↓rA, rZ, List.drop_succ_cons, ne_eq, not_true_eq_false, not_false_eq_true, List.getElem?_cons_zero, List.getElem?_cons_succ, ev, ofConst, ofCell, ↓reduceIte, Nat.reduceEqDiff, Nat.reduceAdd, Nat.reduceSub, Nat.reduceMul, Nat.reduceLeDiff, Nat.reduceLT, Int.reduceNeg, Int.reduceToNat, Int.reduceAdd, Int.reduceSub, Int.reduceMul, Int.reduceLT, Int.reduceLE, Int.reduceEq, Int.reduceNe, Option.isSome_some]
    refine callp_intro (selection_spec lt ll m11 xs0 _ s12 (by omega) hx0 t12 L12 dl) ?_ ?_
    · rintro _ sR ⟨x, ys, lR, eR, hR, kR, LR⟩
      simp (dsimp := false) (implicitDefEqProofs := false) (disch := first | omega | assumption | (simp only [rL, Nat.reduceAdd]; try omega)) only [↓rA, rZ, List.drop_succ_cons, ne_eq, not_true_eq_false, not_false_eq_true, List.getElem?_cons_zero, List.getElem?_cons_succ, ev, ofConst, ofCell, ↓reduceIte, Nat.reduceEqDiff, Nat.reduceAdd, Nat.reduceSub, Nat.reduceMul, Nat.reduceLeDiff, Nat.reduceLT, Int.reduceNeg, Int.reduceToNat, Int.reduceAdd, Int.reduceSub, Int.reduceMul, Int.reduceLT, Int.reduceLE, Int.reduceEq, Int.reduceNe]
      exact ⟨_, Hp.sub_refl, .sel x, ys, lR, by simp [eR], hR, kR, LR⟩
    · rintro r sR ⟨eR, kR⟩
      exact ⟨by simp [eR], kR⟩
  | none =>
  rw [e11] at t12
  simp only [Option.getD_none] at t12
  simp (dsimp := false) (implicitDefEqProofs := false) (disch := first | omega | assumption | (simp only [rL, Nat.reduceAdd]; try omega)) only [↓rA, rZ, List.drop_succ_cons, ne_eq, not_true_eq_false, not_false_eq_true, List.getElem?_cons_zero, List.getElem?_cons_succ, ev, ofConst, ofCell, ↓reduceIte, Nat.reduceEqDiff, Nat.reduceAdd, Nat.reduceSub, Nat.reduceMul, Nat.reduceLeDiff, Nat.reduceLT, Int.reduceNeg, Int.reduceToNat, Int.reduceAdd, Int.reduceSub, Int.reduceMul, Int.reduceLT, Int.reduceLE, Int.reduceEq, Int.reduceNe, Option.isSome_none]
  have hF : stmF l = stm7 l := by simp [stmF, e1, stm2, e3, stm3, e5, stm4, e7, stm5, e9, stm6, e11]
  rw [hF]
  simp (dsimp := false) (implicitDefEqProofs := false) (disch := first | omega | assumption | (simp only [rL, Nat.reduceAdd]; try omega)) only [↓rA, rZ, List.drop_succ_cons, ne_eq, not_true_eq_false, not_false_eq_true, List.getElem?_cons_zero, List.getElem?_cons_succ, ev, ofConst, ofCell, ↓reduceIte, Nat.reduceEqDiff, Nat.reduceAdd, Nat.reduceSub, Nat.reduceMul, Nat.reduceLeDiff, Nat.reduceLT, Int.reduceNeg, Int.reduceToNat, Int.reduceAdd, Int.reduceSub, Int.reduceMul, Int.reduceLT, Int.reduceLE, Int.reduceEq, Int.reduceNe, rep4, putAt_z1, putAt_sc, words_agg]
  refine loop_intro (fun f s' => ∃ j : Nat, j ≤ 4 ∧ TK lt l s0 s' ∧ LK ll xs0 s0 s' ∧ f 0 = .ptr lt 0 ∧ f 53 = .agg (words4.map strV) ∧ f 54 = .v (.int .i64 j) ∧ txG words4 0 l = txG (words4.drop j) j l)
    (fun f _ => match f 54 with | .v (.int _ n) => (4 - n).toNat | _ => 0) ⟨0, by omega, t12, L12, ?_⟩ ?_
  · simp (dsimp := false) (implicitDefEqProofs := false) (disch := first | omega | assumption | (simp only [rL, Nat.reduceAdd]; try omega)) only [↓rA, rZ, List.drop_succ_cons, ne_eq, not_true_eq_false, not_false_eq_true, List.getElem?_cons_zero, List.getElem?_cons_succ, ev, ofConst, ofCell, ↓reduceIte, Nat.reduceEqDiff, Nat.reduceAdd, Nat.reduceSub, Nat.reduceMul, Nat.reduceLeDiff, Nat.reduceLT, Int.reduceNeg, Int.reduceToNat, Int.reduceAdd, Int.reduceSub, Int.reduceMul, Int.reduceLT, Int.reduceLE, Int.reduceEq, Int.reduceNe]
    rfl
  · rintro f s' ⟨j, hj, tj, Lj, f0, f53, f54, hops⟩
    have n5 : words4.length = 4 := rfl
    by_cases hlt : (j : Int) < 4
    · have hj5 : j < 4 := by omega
      have hat := str_at (ws := words4) hj5 n5
      have hdrop : words4.drop j = words4.getD j [] :: words4.drop (j + 1) := by
        rw [List.drop_eq_getElem_cons (by omega)]; simp [List.getD, show j < words4.length by omega]
      generalize words4.getD j [] = op at hat hdrop
      rw [hdrop] at hops
      simp only [txG] at hops
      by_cases hj0 : 0 < j
      · have hj0' : (0 : Int) < (j : Int) := by omega
        rw [if_pos hj0] at hops
        simp (dsimp := false) (implicitDefEqProofs := false) (disch := first | omega | assumption | (simp only [rL, Nat.reduceAdd]; try omega)) only [↓rA, rZ, List.drop_succ_cons, ne_eq, not_true_eq_false, not_false_eq_true, List.getElem?_cons_zero, List.getElem?_cons_succ, ev, ofConst, ofCell, ↓reduceIte, Nat.reduceEqDiff, Nat.reduceAdd, Nat.reduceSub, Nat.reduceMul, Nat.reduceLeDiff, Nat.reduceLT, Int.reduceNeg, Int.reduceToNat, Int.reduceAdd, Int.reduceSub, Int.reduceMul, Int.reduceLT, Int.reduceLE, Int.reduceEq, Int.reduceNe, f0, f53, f54, hlt, hat, hj0', strV]
        refine bsl_own (s0 := _) Hp.sub_refl (allLen_strs (ws := [op])) fun o8 s8' h8' => ?_
        simp (dsimp := false) (implicitDefEqProofs := false) (disch := first | omega | assumption | (simp only [rL, Nat.reduceAdd]; try omega)) only [↓rA, rZ, List.drop_succ_cons, ne_eq, not_true_eq_false, not_false_eq_true, List.getElem?_cons_zero, List.getElem?_cons_succ, ev, ofConst, ofCell, ↓reduceIte, Nat.reduceEqDiff, Nat.reduceAdd, Nat.reduceSub, Nat.reduceMul, Nat.reduceLeDiff, Nat.reduceLT, Int.reduceNeg, Int.reduceToNat, Int.reduceAdd, Int.reduceSub, Int.reduceMul, Int.reduceLT, Int.reduceLE, Int.reduceEq, Int.reduceNe, f0, f53, f54]
        have t8' := tj.mono h8'.sub
        have L8' := Lj.mono h8'.sub
        refine call_intro (is_spec lt [op] o8 l _ s8' t8'.all (by simp)) ?_
        rintro _ s9' ⟨rfl, h9'⟩
        have t9' := t8'.back h9'
        have L9' := L8'.step t8' dl h9'
        cases hq : isF [op] l with
        | some l9 =>
          rw [hq] at t9' hops
          simp only [Option.getD_some] at t9'
          simp only at hops
          have w8 : IntKind.u8.wrap (j : Int) = (j : Int) := wrap_u8 (by omega) (by omega)
          simp (dsimp := false) (implicitDefEqProofs := false) (disch := first | omega | assumption | (simp only [rL, Nat.reduceAdd]; try omega)) only [↓rA, rZ, List.drop_succ_cons, ne_eq, not_true_eq_false, not_false_eq_true, List.getElem?_cons_zero, List.getElem?_cons_succ, ev, ofConst, ofCell, ↓reduceIte, Nat.reduceEqDiff, Nat.reduceAdd, Nat.reduceSub, Nat.reduceMul, Nat.reduceLeDiff, Nat.reduceLT, Int.reduceNeg, Int.reduceToNat, Int.reduceAdd, Int.reduceSub, Int.reduceMul, Int.reduceLT, Int.reduceLE, Int.reduceEq, Int.reduceNe, f0, f53, f54, Option.isSome_some, w8, putAt_z1]
          exact ⟨_, Hp.sub_refl, .tx j, [], l9, by simp [stm7, hops, plain], rfl, t9', by rw [← hx0]; exact L9'⟩
        | none =>
          rw [hq] at t9' hops
          simp only [Option.getD_none] at t9'
          simp only at hops
          simp (dsimp := false) (implicitDefEqProofs := false) (disch := first | omega | assumption | (simp only [rL, Nat.reduceAdd]; try omega)) only [↓rA, rZ, List.drop_succ_cons, ne_eq, not_true_eq_false, not_false_eq_true, List.getElem?_cons_zero, List.getElem?_cons_succ, ev, ofConst, ofCell, ↓reduceIte, Nat.reduceEqDiff, Nat.reduceAdd, Nat.reduceSub, Nat.reduceMul, Nat.reduceLeDiff, Nat.reduceLT, Int.reduceNeg, Int.reduceToNat, Int.reduceAdd, Int.reduceSub, Int.reduceMul, Int.reduceLT, Int.reduceLE, Int.reduceEq, Int.reduceNe, f0, f53, f54, Option.isSome_none]
          exact ⟨⟨j + 1, by omega, t9', L9', by simp, hops⟩, by omega⟩
      · have hj0' : ¬ (0 : Int) < (j : Int) := by omega
        rw [if_neg hj0] at hops
        simp (dsimp := false) (implicitDefEqProofs := false) (disch := first | omega | assumption | (simp only [rL, Nat.reduceAdd]; try omega)) only [↓rA, rZ, List.drop_succ_cons, ne_eq, not_true_eq_false, not_false_eq_true, List.getElem?_cons_zero, List.getElem?_cons_succ, ev, ofConst, ofCell, ↓reduceIte, Nat.reduceEqDiff, Nat.reduceAdd, Nat.reduceSub, Nat.reduceMul, Nat.reduceLeDiff, Nat.reduceLT, Int.reduceNeg, Int.reduceToNat, Int.reduceAdd, Int.reduceSub, Int.reduceMul, Int.reduceLT, Int.reduceLE, Int.reduceEq, Int.reduceNe, f0, f53, f54, hlt, hat, hj0', strV]
        exact ⟨⟨j + 1, by omega, tj, Lj, by simp, hops⟩, by omega⟩
    · obtain rfl : j = 4 := by omega
      simp (dsimp := false) (implicitDefEqProofs := false) (disch := first | omega | assumption | (simp only [rL, Nat.reduceAdd]; try omega)) only [↓rA, rZ, List.drop_succ_cons, ne_eq, not_true_eq_false, not_false_eq_true, List.getElem?_cons_zero, List.getElem?_cons_succ, ev, ofConst, ofCell, ↓reduceIte, Nat.reduceEqDiff, Nat.reduceAdd, Nat.reduceSub, Nat.reduceMul, Nat.reduceLeDiff, Nat.reduceLT, Int.reduceNeg, Int.reduceToNat, Int.reduceAdd, Int.reduceSub, Int.reduceMul, Int.reduceLT, Int.reduceLE, Int.reduceEq, Int.reduceNe, f0, f53, f54, hlt]
      refine callp_intro (fail_spec _) (fun _ _ h => h.elim) ?_
      rintro r s' ⟨rfl, hs⟩
      exact ⟨by rw [stm7, hops]; rfl, rfl, Hp.sub_trans tj.1 hs⟩
end Go.Proofs.YtgfbealjkdhdbaaGreatDoor
/-
  parse.Parse.
-/
set_option maxRecDepth 100000
namespace Go.Proofs.YtgfbealjkdhdbaaGreatDoor
open Go Go.Av
theorem neg_spec (v : Int) (s : Hp) : AC Tryz.prog 34 [.v (.int .i64 v)] s fun r s' => s' = s ∧ r = .v (.bool (decide (v < 0))) := by
  refine AC_run hm prep34 (by simp) ?_
  simp (dsimp := false) (implicitDefEqProofs := false) (disch := first | omega | assumption | (simp only [rL, Nat.reduceAdd]; try omega)) only [↓rA, rZ, List.drop_succ_cons, ne_eq, not_true_eq_false, not_false_eq_true, List.getElem?_cons_zero, List.getElem?_cons_succ, ev, ofConst, ofCell, ↓reduceIte, Nat.reduceEqDiff, Nat.reduceAdd, Nat.reduceSub, Nat.reduceMul, Nat.reduceLeDiff, Nat.reduceLT, Int.reduceNeg, Int.reduceToNat, Int.reduceAdd, Int.reduceSub, Int.reduceMul, Int.reduceLT, Int.reduceLE, Int.reduceEq, Int.reduceNe]
  exact ⟨_, Hp.sub_refl, rfl⟩
theorem AllV_int : ∀ {xs : List Int} {av : List AV}, AllV intR xs av → av = xs.map fun v => .v (.int .i64 v)
  | [], [], _ => rfl
  | x :: r, a :: q, h => by
    have h1 : a = .v (.int .i64 x) := h.1
    rw [h1, AllV_int h.2]; rfl
  | [], _ :: _, h => h.elim
  | _ :: _, [], h => h.elim
def intsV (xs : List Int) : List AV := xs.map fun v => .v (.int .i64 v)
theorem iaSA_ints {xs : List Int} {o : Own} {i : Nat} {v : Int} (h : xs[i]? = some v) : iaSA 1 (.sl (intsV xs) o) (.v (.int .i64 (i : Int))) = some (.rptr [.v (.int .i64 v)]) := by
  have h0 : (0 : Int) ≤ (i : Int) := by omega
  have hel : (intsV xs)[i]? = some (.v (.int .i64 v)) := by simp [intsV, h]
  simp only [iaSA, h0, if_true, Int.toNat_natCast, hel]
  rw [elA_some (e := .v (.int .i64 v)) (k := 1) rfl]; rfl
theorem indexN_spec (xs : List Int) (o : Own) (s : Hp) (hn : xs.length ≤ 1000000) :
    AC Tryz.prog 53 [.sl (intsV xs) o, .clo 34 [] []] s fun r s' => s' = s ∧ ∃ k : Int, r = .v (.int .i64 k) ∧ (0 ≤ k ↔ ∃ v ∈ xs, v < 0) := by
  refine AC_run hm prep53 (by simp) ?_
  have hlen : (intsV xs).length = xs.length := by simp [intsV]
  simp (dsimp := false) (implicitDefEqProofs := false) (disch := first | omega | assumption | (simp only [rL, Nat.reduceAdd]; try omega)) only [↓rA, rZ, List.drop_succ_cons, ne_eq, not_true_eq_false, not_false_eq_true, List.getElem?_cons_zero, List.getElem?_cons_succ, ev, ofConst, ofCell, ↓reduceIte, Nat.reduceEqDiff, Nat.reduceAdd, Nat.reduceSub, Nat.reduceMul, Nat.reduceLeDiff, Nat.reduceLT, Int.reduceNeg, Int.reduceToNat, Int.reduceAdd, Int.reduceSub, Int.reduceMul, Int.reduceLT, Int.reduceLE, Int.reduceEq, Int.reduceNe, hlen]
  refine loop_intro (fun f s' => ∃ i : Nat, i ≤ xs.length ∧ s' = s ∧ f 0 = .sl (intsV xs) o ∧ f 1 = .clo 34 [] [] ∧ f 7 = .v (.int .i64 xs.length) ∧ f 8 = .v (.int .i64 i) ∧ ¬ ∃ v ∈ xs.take i, v < 0)
    (fun f _ => match f 8 with | .v (.int _ n) => xs.length - n.toNat | _ => 0) ⟨0, by omega, rfl, ?_⟩ ?_
  · simp (dsimp := false) (implicitDefEqProofs := false) (disch := first | omega | assumption | (simp only [rL, Nat.reduceAdd]; try omega)) only [↓rA, rZ, List.drop_succ_cons, ne_eq, not_true_eq_false, not_false_eq_true, List.getElem?_cons_zero, List.getElem?_cons_succ, ev, ofConst, ofCell, ↓reduceIte, Nat.reduceEqDiff, Nat.reduceAdd, Nat.reduceSub, Nat.reduceMul, Nat.reduceLeDiff, Nat.reduceLT, Int.reduceNeg, Int.reduceToNat, Int.reduceAdd, Int.reduceSub, Int.reduceMul, Int.reduceLT, Int.reduceLE, Int.reduceEq, Int.reduceNe, hlen]
    simp
  · rintro f s' ⟨i, hi, rfl, f0, f1, f7, f8, hni⟩
    by_cases hlt : (i : Int) < (xs.length : Int)
    · have hi' : i < xs.length := by omega
      have hw1 : xs[i]? = some xs[i] := List.getElem?_eq_getElem hi'
      have hwi : xs[i] ∈ xs := List.getElem_mem _
      have htk : xs.take (i + 1) = xs.take i ++ [xs[i]] := by rw [List.take_succ, hw1]; rfl
      generalize xs[i] = v at hw1 hwi htk
      simp (dsimp := false) (implicitDefEqProofs := false) (disch := first | omega | assumption | (simp only [rL, Nat.reduceAdd]; try omega)) only [↓rA, rZ, List.drop_succ_cons, ne_eq, not_true_eq_false, not_false_eq_true, List.getElem?_cons_zero, List.getElem?_cons_succ, ev, ofConst, ofCell, ↓reduceIte, Nat.reduceEqDiff, Nat.reduceAdd, Nat.reduceSub, Nat.reduceMul, Nat.reduceLeDiff, Nat.reduceLT, Int.reduceNeg, Int.reduceToNat, Int.reduceAdd, Int.reduceSub, Int.reduceMul, Int.reduceLT, Int.reduceLE, Int.reduceEq, Int.reduceNe, f0, f1, f7, f8, hlt, iaSA_ints hw1]
      refine callV_intro (by kernel_rfl) (neg_spec v s') ?_
      rintro _ _ ⟨rfl, rfl⟩
      by_cases hv : v < 0
      · simp (dsimp := false) (implicitDefEqProofs := false) (disch := first | omega | assumption | (simp only [rL, Nat.reduceAdd]; try omega)) only [↓rA, rZ, List.drop_succ_cons, ne_eq, not_true_eq_false, not_false_eq_true, List.getElem?_cons_zero, List.getElem?_cons_succ, ev, ofConst, ofCell, ↓reduceIte, Nat.reduceEqDiff, Nat.reduceAdd, Nat.reduceSub, Nat.reduceMul, Nat.reduceLeDiff, Nat.reduceLT, Int.reduceNeg, Int.reduceToNat, Int.reduceAdd, Int.reduceSub, Int.reduceMul, Int.reduceLT, Int.reduceLE, Int.reduceEq, Int.reduceNe, f0, f1, f7, f8, hv, decide_true]
        refine ⟨_, Hp.sub_refl, rfl, _, rfl, ?_⟩
        exact ⟨fun _ => ⟨v, hwi, hv⟩, fun _ => by omega⟩
      · simp (dsimp := false) (implicitDefEqProofs := false) (disch := first | omega | assumption | (simp only [rL, Nat.reduceAdd]; try omega)) only [↓rA, rZ, List.drop_succ_cons, ne_eq, not_true_eq_false, not_false_eq_true, List.getElem?_cons_zero, List.getElem?_cons_succ, ev, ofConst, ofCell, ↓reduceIte, Nat.reduceEqDiff, Nat.reduceAdd, Nat.reduceSub, Nat.reduceMul, Nat.reduceLeDiff, Nat.reduceLT, Int.reduceNeg, Int.reduceToNat, Int.reduceAdd, Int.reduceSub, Int.reduceMul, Int.reduceLT, Int.reduceLE, Int.reduceEq, Int.reduceNe, f0, f1, f7, f8, hv, decide_false]
        refine ⟨⟨i + 1, by omega, by simp, ?_⟩, by omega⟩
        rw [htk]
        rintro ⟨w, hw, hw0⟩
        rcases List.mem_append.1 hw with h | h
        · exact hni ⟨w, h, hw0⟩
        · simp only [List.mem_singleton] at h; subst h; exact hv hw0
    · obtain rfl : i = xs.length := by omega
      simp (dsimp := false) (implicitDefEqProofs := false) (disch := first | omega | assumption | (simp only [rL, Nat.reduceAdd]; try omega)) only [↓rA, rZ, List.drop_succ_cons, ne_eq, not_true_eq_false, not_false_eq_true, List.getElem?_cons_zero, List.getElem?_cons_succ, ev, ofConst, ofCell, ↓reduceIte, Nat.reduceEqDiff, Nat.reduceAdd, Nat.reduceSub, Nat.reduceMul, Nat.reduceLeDiff, Nat.reduceLT, Int.reduceNeg, Int.reduceToNat, Int.reduceAdd, Int.reduceSub, Int.reduceMul, Int.reduceLT, Int.reduceLE, Int.reduceEq, Int.reduceNe, f0, f1, f7, f8, hlt]
      refine ⟨_, Hp.sub_refl, rfl, _, rfl, ?_⟩
      rw [List.take_length] at hni
      exact ⟨fun h => absurd h (by omega), fun h => absurd h hni⟩
def anyNeg (xs : List Int) : Bool := xs.any fun v => decide (v < 0)
theorem anyNeg_iff {xs : List Int} : (∃ v ∈ xs, v < 0) ↔ anyNeg xs = true := by simp [anyNeg]
theorem containsN_spec (xs : List Int) (o : Own) (s : Hp) (hn : xs.length ≤ 1000000) :
    AC Tryz.prog 33 [.sl (intsV xs) o, .clo 34 [] []] s fun r s' => s' = s ∧ r = .v (.bool (anyNeg xs)) := by
  refine AC_run hm prep33 (by simp) ?_
  simp (dsimp := false) (implicitDefEqProofs := false) (disch := first | omega | assumption | (simp only [rL, Nat.reduceAdd]; try omega)) only [↓rA, rZ, List.drop_succ_cons, ne_eq, not_true_eq_false, not_false_eq_true, List.getElem?_cons_zero, List.getElem?_cons_succ, ev, ofConst, ofCell, ↓reduceIte, Nat.reduceEqDiff, Nat.reduceAdd, Nat.reduceSub, Nat.reduceMul, Nat.reduceLeDiff, Nat.reduceLT, Int.reduceNeg, Int.reduceToNat, Int.reduceAdd, Int.reduceSub, Int.reduceMul, Int.reduceLT, Int.reduceLE, Int.reduceEq, Int.reduceNe]
  refine call_intro (indexN_spec xs o s hn) ?_
  rintro _ _ ⟨rfl, k, rfl, hk⟩
  rw [anyNeg_iff] at hk
  cases h : anyNeg xs with
  | true =>
    have h0 := hk.2 h
    simp (dsimp := false) (implicitDefEqProofs := false) (disch := first | omega | assumption | (simp only [rL, Nat.reduceAdd]; try omega)) only [↓rA, rZ, List.drop_succ_cons, ne_eq, not_true_eq_false, not_false_eq_true, List.getElem?_cons_zero, List.getElem?_cons_succ, ev, ofConst, ofCell, ↓reduceIte, Nat.reduceEqDiff, Nat.reduceAdd, Nat.reduceSub, Nat.reduceMul, Nat.reduceLeDiff, Nat.reduceLT, Int.reduceNeg, Int.reduceToNat, Int.reduceAdd, Int.reduceSub, Int.reduceMul, Int.reduceLT, Int.reduceLE, Int.reduceEq, Int.reduceNe, h0]
    exact ⟨_, Hp.sub_refl, rfl⟩
  | false =>
    have h0 : ¬ 0 ≤ k := fun h' => by have := hk.1 h'; rw [h] at this; cases this
    simp (dsimp := false) (implicitDefEqProofs := false) (disch := first | omega | assumption | (simp only [rL, Nat.reduceAdd]; try omega)) only [↓rA, rZ, List.drop_succ_cons, ne_eq, not_true_eq_false, not_false_eq_true, List.getElem?_cons_zero, List.getElem?_cons_succ, ev, ofConst, ofCell, ↓reduceIte, Nat.reduceEqDiff, Nat.reduceAdd, Nat.reduceSub, Nat.reduceMul, Nat.reduceLeDiff, Nat.reduceLT, Int.reduceNeg, Int.reduceToNat, Int.reduceAdd, Int.reduceSub, Int.reduceMul, Int.reduceLT, Int.reduceLE, Int.reduceEq, Int.reduceNe, h0]
    exact ⟨_, Hp.sub_refl, rfl⟩
/-! ### the deferred closure -/
theorem parse1_ret (l2 l3 : Nat) (s : Hp) (Q : Hp → Prop) (hQ : Q s) : ACret Tryz.prog 30 [.ptr l2 0, .ptr l3 0] s Q := by
  refine ACret_run hm prep30 (by simp) ?_
  simp (dsimp := false) (implicitDefEqProofs := false) (disch := first | omega | assumption | (simp only [rL, Nat.reduceAdd]; try omega)) only [↓rA, rZ, List.drop_succ_cons, ne_eq, not_true_eq_false, not_false_eq_true, List.getElem?_cons_zero, List.getElem?_cons_succ, ev, ofConst, ofCell, ↓reduceIte, Nat.reduceEqDiff, Nat.reduceAdd, Nat.reduceSub, Nat.reduceMul, Nat.reduceLeDiff, Nat.reduceLT, Int.reduceNeg, Int.reduceToNat, Int.reduceAdd, Int.reduceSub, Int.reduceMul, Int.reduceLT, Int.reduceLE, Int.reduceEq, Int.reduceNe, ↓rR]
  exact ⟨_, Hp.sub_refl, hQ⟩
theorem parse1_rec (l2 l3 : Nat) (n : Int) (s : Hp) (a b : AV) (h2 : s l2 = some (.cells [a])) (h3 : s l3 = some (.cells [b])) (d : l2 ≠ l3) (Q : Hp → Prop) (hQ : ∀ s', (∀ l o, l ≠ l2 → l ≠ l3 → s l = some o → s' l = some o) → s' l2 = some (.cells [.v .nilIface]) → s' l3 = some (.cells [.v (.int .i64 n)]) → Q s') :
    ACrec Tryz.prog 30 [.ptr l2 0, .ptr l3 0] (stopV n) s Q := by
  refine ACrec_run hm prep30 (by simp) ?_
  have e : stopV n = .iface 74 (.agg [.v (.int .i64 n)]) := rfl
  rw [e]
  simp (dsimp := false) (implicitDefEqProofs := false) (disch := first | omega | assumption | (simp only [rL, Nat.reduceAdd]; try omega)) only [↓rA, rZ, List.drop_succ_cons, ne_eq, not_true_eq_false, not_false_eq_true, List.getElem?_cons_zero, List.getElem?_cons_succ, ev, ofConst, ofCell, ↓reduceIte, Nat.reduceEqDiff, Nat.reduceAdd, Nat.reduceSub, Nat.reduceMul, Nat.reduceLeDiff, Nat.reduceLT, Int.reduceNeg, Int.reduceToNat, Int.reduceAdd, Int.reduceSub, Int.reduceMul, Int.reduceLT, Int.reduceLE, Int.reduceEq, Int.reduceNe, ↓rR]
  refine newK_intro fun l4 n4 => ?_
  have d24 : l2 ≠ l4 := by rintro rfl; rw [n4] at h2; cases h2
  have d34 : l3 ≠ l4 := by rintro rfl; rw [n4] at h3; cases h3
  have d42 := Ne.symm d24
  have d43 := Ne.symm d34
  have d' := Ne.symm d
  simp (dsimp := false) (implicitDefEqProofs := false) (disch := first | omega | assumption | (simp only [rL, Nat.reduceAdd]; try omega)) only [↓rA, rZ, List.drop_succ_cons, ne_eq, not_true_eq_false, not_false_eq_true, List.getElem?_cons_zero, List.getElem?_cons_succ, ev, ofConst, ofCell, ↓reduceIte, Nat.reduceEqDiff, Nat.reduceAdd, Nat.reduceSub, Nat.reduceMul, Nat.reduceLeDiff, Nat.reduceLT, Int.reduceNeg, Int.reduceToNat, Int.reduceAdd, Int.reduceSub, Int.reduceMul, Int.reduceLT, Int.reduceLE, Int.reduceEq, Int.reduceNe, ↓rR, putAt_z1, Hp.stA_of h2, Hp.stA_of h3, Hp.set_ne, d, d', d24, d34, d42, d43, h2, h3]
  refine ⟨_, Hp.sub_refl, hQ _ (fun l o h2' h3' ho => ?_) ?_ (Hp.set_same _ _ _)⟩
  · have h4' : l ≠ l4 := by rintro rfl; rw [n4] at ho; cases ho
    rw [Hp.set_ne _ _ h3', Hp.set_ne _ _ h2', Hp.set_ne _ _ h4']; exact ho
  · rw [Hp.set_ne _ _ d, Hp.set_same]
/-! ### Parse -/
theorem lexP_count : ∀ (f N : Nat) (l : List UInt8) (ts : List (Tok × Nat)), lexP f N l = .ok ts → ts.length ≤ l.length
  | 0, N, l, ts, h => by simp only [lexP] at h; first | (cases h; simp) | cases h
  | f + 1, N, l, ts, h => by
    simp only [lexP] at h
    split at h
    · cases h; simp
    · rename_i hne
      cases ht : tokP (skip false l) with
      | error e => rw [ht] at h; cases h
      | ok x =>
        obtain ⟨t, k⟩ := x
        rw [ht] at h
        simp only at h
        have h1 := tokP_n hne ht
        have h2 := skip_le false l
        cases hr : lexP f N ((skip false l).drop k) with
        | error e => rw [hr] at h; cases h
        | ok us =>
          rw [hr] at h
          have := lexP_count f N _ us hr
          rw [List.length_drop] at this
          cases h
          simp only [List.length_cons]
          omega
theorem lexT_count {l : List UInt8} {ts : List (Tok × Nat)} (h : lexT l = .ok ts) : ts.length ≤ 1000 := by
  unfold lexT at h
  split at h
  · cases h
  · have := lexP_count _ _ _ _ h; omega
theorem lexP_err : ∀ (f N : Nat) (l : List UInt8) (e : Nat), lexP f N l = .error e → e = 2 ∨ e = 7
  | 0, N, l, e, h => by simp only [lexP] at h; cases h
  | f + 1, N, l, e, h => by
    simp only [lexP] at h
    split at h
    · cases h
    · cases ht : tokP (skip false l) with
      | error e' => rw [ht] at h; cases h; exact tokP_err ht
      | ok x =>
        obtain ⟨t, k⟩ := x
        rw [ht] at h
        simp only at h
        cases hr : lexP f N ((skip false l).drop k) with
        | error e' => rw [hr] at h; cases h; exact lexP_err f N _ _ hr
        | ok us => rw [hr] at h; cases h
theorem lexT_err {l : List UInt8} {e : Nat} (h : lexT l = .error e) : e = 10 ∨ e = 2 ∨ e = 7 := by
  unfold lexT at h
  split at h
  · cases h; exact .inl rfl
  · exact .inr (lexP_err _ _ _ _ h)
theorem numOr_ys {ws : List (List UInt8)} {l l' : List Tok} {v : Int} {ys : List Int} (h : numOr ws l = some ((v, ys), l')) : ys.length ≤ 1 := by
  unfold numOr at h
  split at h
  · simp only [Option.map_eq_some_iff, Prod.mk.injEq] at h
    obtain ⟨p, _, ⟨_, h2⟩, _⟩ := h
    rw [← h2]; simp
  · simp only [Option.some.injEq, Prod.mk.injEq] at h
    rw [← h.1.2]; simp
theorem selF_ys {l l' : List Tok} {x : Sel} {ys : List Int} (h : selF l = some ((x, ys), l')) : ys.length ≤ 2 := by
  unfold selF at h
  simp only [Option.bind_eq_some_iff] at h
  obtain ⟨p1, _, l2, _, p2, _, p3, h3, p4, _, h5⟩ := h
  obtain ⟨⟨v3, y3⟩, l3⟩ := p3
  have q3 := numOr_ys h3
  split at h5
  · simp only [Option.some.injEq, Prod.mk.injEq] at h5
    rw [← h5.1.2]; omega
  · simp only [Option.bind_eq_some_iff, Option.map_eq_some_iff, Prod.mk.injEq] at h5
    obtain ⟨p5, _, p6, h6, ⟨_, h7⟩, _⟩ := h5
    obtain ⟨⟨v6, y6⟩, l6⟩ := p6
    have q6 := numOr_ys h6
    rw [← h7]; simp only [List.length_append]; omega
theorem plain_ys {α : Type} {o : Option (Stm × α)} {x : Stm} {ys : List Int} {l' : α} (h : o.map plain = some ((x, ys), l')) : ys.length ≤ 2 := by
  simp only [Option.map_eq_some_iff, plain, Prod.mk.injEq] at h
  obtain ⟨p, _, ⟨_, h2⟩, _⟩ := h
  rw [← h2]; simp
theorem stmF_ys {l l' : List Tok} {x : Stm} {ys : List Int} (h : stmF l = some ((x, ys), l')) : ys.length ≤ 2 := by
  unfold stmF at h
  split at h
  · exact plain_ys h
  unfold stm2 at h
  split at h
  · simp only [Option.map_eq_some_iff, Prod.mk.injEq] at h
    obtain ⟨p, _, ⟨_, h2⟩, _⟩ := h
    rw [← h2]; simp
  unfold stm3 at h
  split at h
  · exact plain_ys h
  unfold stm4 at h
  split at h
  · simp only [Option.bind_eq_some_iff, Option.map_eq_some_iff, Prod.mk.injEq] at h
    obtain ⟨p, _, q, _, ⟨_, h2⟩, _⟩ := h
    rw [← h2]; simp
  unfold stm5 at h
  split at h
  · exact plain_ys h
  unfold stm6 at h
  split at h
  · simp only [Option.map_eq_some_iff, Prod.mk.injEq] at h
    obtain ⟨⟨⟨a, b⟩, c⟩, h1, ⟨_, h2⟩, _⟩ := h
    rw [← h2]; exact selF_ys h1
  unfold stm7 at h
  exact plain_ys h
def parseL (l : List Tok) : Except Nat Stm :=
  match stmF l with
  | none => .error 2
  | some ((x, ys), l') => if l' = [] then (if anyNeg ys = true then .error 7 else .ok x) else .error 2
def parseT (l : List UInt8) : Except Nat Stm :=
  match lexT l with
  | .error e => .error e
  | .ok ts => parseL (ts.map Prod.fst)
def PRes (r : AV) : Except Nat Stm → Prop
  | .error e => r = .tup [.v .nilIface, .v (.int .i64 e)]
  | .ok x => ∃ a, stmR x a ∧ r = .tup [a, .v (.int .i64 0)]
theorem stm_cells {x : Stm} {a : AV} (h : stmR x a) : a.cells = [a] := by
  cases x with
  | create t c => obtain ⟨_, _, rfl⟩ := h; rfl
  | drop t => obtain rfl := h; rfl
  | insert t c => obtain ⟨_, _, rfl⟩ := h; rfl
  | delete t c => obtain ⟨_, _, rfl⟩ := h; rfl
  | update t c d => obtain ⟨_, _, _, _, rfl⟩ := h; rfl
  | sel x => obtain ⟨_, _, _, _, rfl⟩ := h; rfl
  | tx k => obtain rfl := h; rfl
theorem dfer_cut {f : Fr} {s : Hp} {p : Program} {post : ACode} {rs : List (Nat × Option (Bool × Nat))} {R : AV → Hp → Prop} {n : FuncId} {ds cs : List AV} (hok : callOk p n = true)
    (h : ∀ f' Kp, f' = f → Kp = (fun r s' => ACrec p n (ds ++ cs) r s' (resK rs R f')) → awp ⟨p, Kp⟩ post (dretK p n (ds ++ cs) rs R) f' s) : dferV p post rs R [] (.clo n ds cs) f s :=
  dfer_intro hok fun Kp hKp => h f Kp rfl hKp
theorem set_self {s : Hp} {l : Nat} {ob : Ob} (h : s l = some ob) : s.set l ob = s := by
  funext x
  by_cases e : x = l
  · subst e; rw [Hp.set_same, h]
  · rw [Hp.set_ne _ _ e]
theorem resK_two {f : Fr} {s : Hp} {R : AV → Hp → Prop} {l2 l3 : Nat} {a b : AV} (f2 : f 2 = .ptr l2 0) (f3 : f 3 = .ptr l3 0) (h2 : s l2 = some (.cells [a])) (h3 : s l3 = some (.cells [b])) (h : R (.tup [a, b]) s) :
    resK [(2, some (false, 1)), (3, some (false, 1))] R f s := by
  refine ⟨.tup [a, b], s, resAll_two ?_ ?_, Hp.sub_refl, h⟩
  · simp only [resG, f2, Hp.read_of h2]; rfl
  · simp only [resG, f3, Hp.read_of h3]; rfl
theorem Parse_spec (l : List UInt8) (s : Hp) (hT : Tabs s) :
    AC Tryz.prog 12 [strV l] s fun r s' => s.sub s' ∧ PRes r (parseT l) := by
  refine AC_drun hm prep12 (by simp) ?_
  simp (dsimp := false) (implicitDefEqProofs := false) (disch := first | omega | assumption | (simp only [rL, Nat.reduceAdd]; try omega)) only [↓rA, rZ, List.drop_succ_cons, ne_eq, not_true_eq_false, not_false_eq_true, List.getElem?_cons_zero, List.getElem?_cons_succ, ev, ofConst, ofCell, ↓reduceIte, Nat.reduceEqDiff, Nat.reduceAdd, Nat.reduceSub, Nat.reduceMul, Nat.reduceLeDiff, Nat.reduceLT, Int.reduceNeg, Int.reduceToNat, Int.reduceAdd, Int.reduceSub, Int.reduceMul, Int.reduceLT, Int.reduceLE, Int.reduceEq, Int.reduceNe, ↓rR]
  refine newK_intro fun l2 n2 => ?_
  simp (dsimp := false) (implicitDefEqProofs := false) (disch := first | omega | assumption | (simp only [rL, Nat.reduceAdd]; try omega)) only [↓rA, rZ, List.drop_succ_cons, ne_eq, not_true_eq_false, not_false_eq_true, List.getElem?_cons_zero, List.getElem?_cons_succ, ev, ofConst, ofCell, ↓reduceIte, Nat.reduceEqDiff, Nat.reduceAdd, Nat.reduceSub, Nat.reduceMul, Nat.reduceLeDiff, Nat.reduceLT, Int.reduceNeg, Int.reduceToNat, Int.reduceAdd, Int.reduceSub, Int.reduceMul, Int.reduceLT, Int.reduceLE, Int.reduceEq, Int.reduceNe, ↓rR]
  refine newK_intro fun l3 n3 => ?_
  have d23 : l2 ≠ l3 := by rintro rfl; rw [Hp.set_same] at n3; cases n3
  have d32 := Ne.symm d23
  have n3s : s l3 = none := by rw [Hp.set_ne _ _ d32] at n3; exact n3
  have hs2 : s.sub ((s.set l2 (.cells [.v .nilIface])).set l3 (.cells [.v (.int .i64 0)])) := Hp.sub_new (Hp.sub_new Hp.sub_refl n2) n3s
  simp (dsimp := false) (implicitDefEqProofs := false) (disch := first | omega | assumption | (simp only [rL, Nat.reduceAdd]; try omega)) only [↓rA, rZ, List.drop_succ_cons, ne_eq, not_true_eq_false, not_false_eq_true, List.getElem?_cons_zero, List.getElem?_cons_succ, ev, ofConst, ofCell, ↓reduceIte, Nat.reduceEqDiff, Nat.reduceAdd, Nat.reduceSub, Nat.reduceMul, Nat.reduceLeDiff, Nat.reduceLT, Int.reduceNeg, Int.reduceToNat, Int.reduceAdd, Int.reduceSub, Int.reduceMul, Int.reduceLT, Int.reduceLE, Int.reduceEq, Int.reduceNe, ↓rR]
  refine call_intro (Lex_spec l _ (hT.mono hs2)) ?_
  intro r s4 h4
  cases hlx : lexT l with
  | error e =>
    rw [hlx] at h4
    obtain ⟨h4, rfl⟩ := h4
    have g2 := h4 l2 (.cells [.v .nilIface]) (by rw [Hp.set_ne _ _ d23, Hp.set_same])
    have g3 := h4 l3 _ (Hp.set_same _ _ _)
    have he : ¬ ((e : Nat) : Int) = 0 := by
      rcases lexT_err hlx with h | h | h <;> omega
    simp (dsimp := false) (implicitDefEqProofs := false) (disch := first | omega | assumption | (simp only [rL, Nat.reduceAdd]; try omega)) only [↓rA, rZ, List.drop_succ_cons, ne_eq, not_true_eq_false, not_false_eq_true, List.getElem?_cons_zero, List.getElem?_cons_succ, ev, ofConst, ofCell, ↓reduceIte, Nat.reduceEqDiff, Nat.reduceAdd, Nat.reduceSub, Nat.reduceMul, Nat.reduceLeDiff, Nat.reduceLT, Int.reduceNeg, Int.reduceToNat, Int.reduceAdd, Int.reduceSub, Int.reduceMul, Int.reduceLT, Int.reduceLE, Int.reduceEq, Int.reduceNe, ↓rR, Hp.stA_of g3, Hp.stA_of g2, putAt_z1, he, Hp.set_ne, d23, d32]
    refine ⟨_, Hp.sub_refl, fun x ob hx => ?_, by rw [parseT, hlx]; rfl⟩
    have x2 : x ≠ l2 := by rintro rfl; rw [n2] at hx; cases hx
    have x3 : x ≠ l3 := by rintro rfl; rw [n3s] at hx; cases hx
    rw [Hp.set_ne _ _ x2, Hp.set_ne _ _ x3]
    exact h4 _ _ (hs2 _ _ hx)
  | ok ts =>
    rw [hlx] at h4
    obtain ⟨o, h4, rfl⟩ := h4
    have g2 := h4.sub l2 (.cells [.v .nilIface]) (by rw [Hp.set_ne _ _ d23, Hp.set_same])
    have g3 := h4.sub l3 _ (Hp.set_same _ _ _)
    have hs4 : s.sub s4 := Hp.sub_trans hs2 h4.sub
    have hpT : parseT l = parseL (ts.map Prod.fst) := by rw [parseT, hlx]
    have hcnt := lexT_count hlx
    have hcnt' : (ts.map Prod.fst).length ≤ 100000 := by rw [List.length_map]; omega
    have hToks : Toks (TL ts) (ts.map Prod.fst) := ⟨ts, rfl, rfl⟩
    rw [hpT]
    generalize ts.map Prod.fst = l0 at hToks hcnt'
    have hset := set_self g3
    simp (dsimp := false) (implicitDefEqProofs := false) (disch := first | omega | assumption | (simp only [rL, Nat.reduceAdd]; try omega)) only [↓rA, rZ, List.drop_succ_cons, ne_eq, not_true_eq_false, not_false_eq_true, List.getElem?_cons_zero, List.getElem?_cons_succ, ev, ofConst, ofCell, ↓reduceIte, Nat.reduceEqDiff, Nat.reduceAdd, Nat.reduceSub, Nat.reduceMul, Nat.reduceLeDiff, Nat.reduceLT, Int.reduceNeg, Int.reduceToNat, Int.reduceAdd, Int.reduceSub, Int.reduceMul, Int.reduceLT, Int.reduceLE, Int.reduceEq, Int.reduceNe, ↓rR, hset, Hp.read_of g3, Hp.stA_of g3, Hp.stA_of g2, putAt_z1, Hp.set_ne, d23, d32]
    refine dfer_cut (by kernel_rfl) fun f' Kp hf hKp => ?_
    have f2 : f' 2 = .ptr l2 0 := by rw [hf]; simp (dsimp := false) (implicitDefEqProofs := false) (disch := first | omega | assumption | (simp only [rL, Nat.reduceAdd]; try omega)) only [↓rA, rZ, List.drop_succ_cons, ne_eq, not_true_eq_false, not_false_eq_true, List.getElem?_cons_zero, List.getElem?_cons_succ, ev, ofConst, ofCell, ↓reduceIte, Nat.reduceEqDiff, Nat.reduceAdd, Nat.reduceSub, Nat.reduceMul, Nat.reduceLeDiff, Nat.reduceLT, Int.reduceNeg, Int.reduceToNat, Int.reduceAdd, Int.reduceSub, Int.reduceMul, Int.reduceLT, Int.reduceLE, Int.reduceEq, Int.reduceNe]
    have f3 : f' 3 = .ptr l3 0 := by rw [hf]; simp (dsimp := false) (implicitDefEqProofs := false) (disch := first | omega | assumption | (simp only [rL, Nat.reduceAdd]; try omega)) only [↓rA, rZ, List.drop_succ_cons, ne_eq, not_true_eq_false, not_false_eq_true, List.getElem?_cons_zero, List.getElem?_cons_succ, ev, ofConst, ofCell, ↓reduceIte, Nat.reduceEqDiff, Nat.reduceAdd, Nat.reduceSub, Nat.reduceMul, Nat.reduceLeDiff, Nat.reduceLT, Int.reduceNeg, Int.reduceToNat, Int.reduceAdd, Int.reduceSub, Int.reduceMul, Int.reduceLT, Int.reduceLE, Int.reduceEq, Int.reduceNe]
    have f4 : f' 4 = .sl (TL ts) o := by rw [hf]; simp (dsimp := false) (implicitDefEqProofs := false) (disch := first | omega | assumption | (simp only [rL, Nat.reduceAdd]; try omega)) only [↓rA, rZ, List.drop_succ_cons, ne_eq, not_true_eq_false, not_false_eq_true, List.getElem?_cons_zero, List.getElem?_cons_succ, ev, ofConst, ofCell, ↓reduceIte, Nat.reduceEqDiff, Nat.reduceAdd, Nat.reduceSub, Nat.reduceMul, Nat.reduceLeDiff, Nat.reduceLT, Int.reduceNeg, Int.reduceToNat, Int.reduceAdd, Int.reduceSub, Int.reduceMul, Int.reduceLT, Int.reduceLE, Int.reduceEq, Int.reduceNe]
    clear hf
    have kp : ∀ (n : Nat) (s' : Hp) (b2 b3 : AV), s.sub s' → s' l2 = some (.cells [b2]) → s' l3 = some (.cells [b3]) → parseL l0 = .error n → Kp (stopV n) s' := fun n s' b2 b3 hs hb2 hb3 hp => by
      rw [hKp]
      refine parse1_rec l2 l3 n s' _ _ hb2 hb3 d23 _ fun s'' hk k2 k3 => resK_two f2 f3 k2 k3 ⟨fun x ob hx => ?_, by rw [hp]; rfl⟩
      have x2 : x ≠ l2 := by rintro rfl; rw [n2] at hx; cases hx
      have x3 : x ≠ l3 := by rintro rfl; rw [n3s] at hx; cases hx
      exact hk _ _ x2 x3 (hs _ _ hx)
    simp (dsimp := false) (implicitDefEqProofs := false) (disch := first | omega | assumption | (simp only [rL, Nat.reduceAdd]; try omega)) only [↓rA, rZ, List.drop_succ_cons, ne_eq, not_true_eq_false, not_false_eq_true, List.getElem?_cons_zero, List.getElem?_cons_succ, ev, ofConst, ofCell, ↓reduceIte, Nat.reduceEqDiff, Nat.reduceAdd, Nat.reduceSub, Nat.reduceMul, Nat.reduceLeDiff, Nat.reduceLT, Int.reduceNeg, Int.reduceToNat, Int.reduceAdd, Int.reduceSub, Int.reduceMul, Int.reduceLT, Int.reduceLE, Int.reduceEq, Int.reduceNe, ↓rR, f2, f3, f4, putAt_z1]
    refine newK_intro fun lt nt => ?_
    simp (dsimp := false) (implicitDefEqProofs := false) (disch := first | omega | assumption | (simp only [rL, Nat.reduceAdd]; try omega)) only [↓rA, rZ, List.drop_succ_cons, ne_eq, not_true_eq_false, not_false_eq_true, List.getElem?_cons_zero, List.getElem?_cons_succ, ev, ofConst, ofCell, ↓reduceIte, Nat.reduceEqDiff, Nat.reduceAdd, Nat.reduceSub, Nat.reduceMul, Nat.reduceLeDiff, Nat.reduceLT, Int.reduceNeg, Int.reduceToNat, Int.reduceAdd, Int.reduceSub, Int.reduceMul, Int.reduceLT, Int.reduceLE, Int.reduceEq, Int.reduceNe, ↓rR, f2, f3, f4, putAt_z1]
    refine newK_intro fun ll nl => ?_
    have dlt : ll ≠ lt := by rintro rfl; rw [Hp.set_same] at nl; cases nl
    have nl4 : s4 ll = none := by rw [Hp.set_ne _ _ dlt] at nl; exact nl
    have b2t : l2 ≠ lt := by rintro rfl; rw [g2] at nt; cases nt
    have b2l : l2 ≠ ll := by rintro rfl; rw [g2] at nl4; cases nl4
    have b3t : l3 ≠ lt := by rintro rfl; rw [g3] at nt; cases nt
    have b3l : l3 ≠ ll := by rintro rfl; rw [g3] at nl4; cases nl4
    have bt2 := Ne.symm b2t
    have bl2 := Ne.symm b2l
    have bt3 := Ne.symm b3t
    have bl3 := Ne.symm b3l
    have hsub5 : s4.sub ((s4.set lt (.cells [.sl (TL ts) o])).set ll (.cells [.sl [] .nil])) := Hp.sub_new (Hp.sub_new Hp.sub_refl nt) nl4
    have hTK : TK lt l0 s4 ((s4.set lt (.cells [.sl (TL ts) o])).set ll (.cells [.sl [] .nil])) :=
      ⟨hsub5, nt, TL ts, o, hToks, by rw [Hp.set_ne _ _ (Ne.symm dlt), Hp.set_same]⟩
    have hLK : LK ll [] s4 ((s4.set lt (.cells [.sl (TL ts) o])).set ll (.cells [.sl [] .nil])) :=
      ⟨nl4, [], .nil, trivial, Owned.nil hsub5, Hp.set_same _ _ _⟩
    simp (dsimp := false) (implicitDefEqProofs := false) (disch := first | omega | assumption | (simp only [rL, Nat.reduceAdd]; try omega)) only [↓rA, rZ, List.drop_succ_cons, ne_eq, not_true_eq_false, not_false_eq_true, List.getElem?_cons_zero, List.getElem?_cons_succ, ev, ofConst, ofCell, ↓reduceIte, Nat.reduceEqDiff, Nat.reduceAdd, Nat.reduceSub, Nat.reduceMul, Nat.reduceLeDiff, Nat.reduceLT, Int.reduceNeg, Int.reduceToNat, Int.reduceAdd, Int.reduceSub, Int.reduceMul, Int.reduceLT, Int.reduceLE, Int.reduceEq, Int.reduceNe, ↓rR, f2, f3, f4, putAt_z1]
    refine callp_intro (statement_spec lt ll l0 [] s4 _ hcnt' rfl hTK hLK dlt) ?_ ?_
    rotate_left
    · rintro r s' ⟨e, rfl, hs⟩
      exact kp 2 s' _ _ (Hp.sub_trans hs4 hs) (hs _ _ g2) (hs _ _ g3) (by rw [parseL, e])
    rintro a s6 ⟨x, ys, l', e6, hR, tk, lk⟩
    have hac := stm_cells hR
    have c2 := tk.1 _ _ g2
    have c3 := tk.1 _ _ g3
    obtain ⟨k1, k2, xs, ox, hx, hx2⟩ := tk
    obtain ⟨m1, av, oa, hA, hO, hl2⟩ := lk
    have hxl := hx.len
    have hav : av = intsV ys := AllV_int hA
    subst hav
    have hys := stmF_ys e6
    have hss : s.sub (s6.set l2 (.cells [a])) := Hp.sub_new (Hp.sub_trans hs4 k1) n2
    have hss3 : (s6.set l2 (.cells [a])) l3 = some (.cells [.v (.int .i64 0)]) := by rw [Hp.set_ne _ _ d32]; exact c3
    by_cases hl' : l' = []
    · have hz : ¬ ((0 : Int) < (xs.length : Int)) := by rw [hxl, hl']; simp
      simp (dsimp := false) (implicitDefEqProofs := false) (disch := first | omega | assumption | (simp only [rL, Nat.reduceAdd]; try omega)) only [↓rA, rZ, List.drop_succ_cons, ne_eq, not_true_eq_false, not_false_eq_true, List.getElem?_cons_zero, List.getElem?_cons_succ, ev, ofConst, ofCell, ↓reduceIte, Nat.reduceEqDiff, Nat.reduceAdd, Nat.reduceSub, Nat.reduceMul, Nat.reduceLeDiff, Nat.reduceLT, Int.reduceNeg, Int.reduceToNat, Int.reduceAdd, Int.reduceSub, Int.reduceMul, Int.reduceLT, Int.reduceLE, Int.reduceEq, Int.reduceNe, ↓rR, f2, f3, f4, putAt_z1, hac, Hp.stA_of c2, Hp.set_ne, b2t, bt2, b2l, bl2, Hp.read_of hx2, hz, Hp.read_of hl2]
      refine call_intro (containsN_spec ys oa _ (by omega)) ?_
      rintro _ _ ⟨rfl, rfl⟩
      cases hneg : anyNeg ys with
      | true =>
        simp (dsimp := false) (implicitDefEqProofs := false) (disch := first | omega | assumption | (simp only [rL, Nat.reduceAdd]; try omega)) only [↓rA, rZ, List.drop_succ_cons, ne_eq, not_true_eq_false, not_false_eq_true, List.getElem?_cons_zero, List.getElem?_cons_succ, ev, ofConst, ofCell, ↓reduceIte, Nat.reduceEqDiff, Nat.reduceAdd, Nat.reduceSub, Nat.reduceMul, Nat.reduceLeDiff, Nat.reduceLT, Int.reduceNeg, Int.reduceToNat, Int.reduceAdd, Int.reduceSub, Int.reduceMul, Int.reduceLT, Int.reduceLE, Int.reduceEq, Int.reduceNe, ↓rR, f2, f3, f4, putAt_z1]
        exact pan_intro (kp 7 _ _ _ hss (Hp.set_same _ _ _) hss3 (by rw [parseL, e6]; simp [hl', hneg]))
      | false =>
        simp (dsimp := false) (implicitDefEqProofs := false) (disch := first | omega | assumption | (simp only [rL, Nat.reduceAdd]; try omega)) only [↓rA, rZ, List.drop_succ_cons, ne_eq, not_true_eq_false, not_false_eq_true, List.getElem?_cons_zero, List.getElem?_cons_succ, ev, ofConst, ofCell, ↓reduceIte, Nat.reduceEqDiff, Nat.reduceAdd, Nat.reduceSub, Nat.reduceMul, Nat.reduceLeDiff, Nat.reduceLT, Int.reduceNeg, Int.reduceToNat, Int.reduceAdd, Int.reduceSub, Int.reduceMul, Int.reduceLT, Int.reduceLE, Int.reduceEq, Int.reduceNe, ↓rR, f2, f3, f4, putAt_z1, hac, Hp.stA_of c3, Hp.set_ne, d23, d32, Hp.read_of c3, mkv_one]
        refine parse1_ret l2 l3 _ _ (resK_two (l2 := l2) (l3 := l3) (a := a) (b := .v (.int .i64 0)) ?_ ?_ ?_ (Hp.set_same _ _ _) ⟨?_, ?_⟩)
        · simp (dsimp := false) (implicitDefEqProofs := false) (disch := first | omega | assumption | (simp only [rL, Nat.reduceAdd]; try omega)) only [↓rA, rZ, List.drop_succ_cons, ne_eq, not_true_eq_false, not_false_eq_true, List.getElem?_cons_zero, List.getElem?_cons_succ, ev, ofConst, ofCell, ↓reduceIte, Nat.reduceEqDiff, Nat.reduceAdd, Nat.reduceSub, Nat.reduceMul, Nat.reduceLeDiff, Nat.reduceLT, Int.reduceNeg, Int.reduceToNat, Int.reduceAdd, Int.reduceSub, Int.reduceMul, Int.reduceLT, Int.reduceLE, Int.reduceEq, Int.reduceNe, f2]
        · simp (dsimp := false) (implicitDefEqProofs := false) (disch := first | omega | assumption | (simp only [rL, Nat.reduceAdd]; try omega)) only [↓rA, rZ, List.drop_succ_cons, ne_eq, not_true_eq_false, not_false_eq_true, List.getElem?_cons_zero, List.getElem?_cons_succ, ev, ofConst, ofCell, ↓reduceIte, Nat.reduceEqDiff, Nat.reduceAdd, Nat.reduceSub, Nat.reduceMul, Nat.reduceLeDiff, Nat.reduceLT, Int.reduceNeg, Int.reduceToNat, Int.reduceAdd, Int.reduceSub, Int.reduceMul, Int.reduceLT, Int.reduceLE, Int.reduceEq, Int.reduceNe, f3]
        · rw [Hp.set_ne _ _ d23, Hp.set_same]
        · exact Hp.sub_new hss n3s
        · rw [parseL, e6]; simp only [hl', hneg, if_true]; exact ⟨a, hR, rfl⟩
    · have hz : ((0 : Int) < (xs.length : Int)) := by
        rw [hxl]; have := List.length_pos_iff.2 hl'; omega
      simp (dsimp := false) (implicitDefEqProofs := false) (disch := first | omega | assumption | (simp only [rL, Nat.reduceAdd]; try omega)) only [↓rA, rZ, List.drop_succ_cons, ne_eq, not_true_eq_false, not_false_eq_true, List.getElem?_cons_zero, List.getElem?_cons_succ, ev, ofConst, ofCell, ↓reduceIte, Nat.reduceEqDiff, Nat.reduceAdd, Nat.reduceSub, Nat.reduceMul, Nat.reduceLeDiff, Nat.reduceLT, Int.reduceNeg, Int.reduceToNat, Int.reduceAdd, Int.reduceSub, Int.reduceMul, Int.reduceLT, Int.reduceLE, Int.reduceEq, Int.reduceNe, ↓rR, f2, f3, f4, putAt_z1, hac, Hp.stA_of c2, Hp.set_ne, b2t, bt2, b2l, bl2, Hp.read_of hx2, hz, Hp.read_of hl2]
      refine callp_intro (fail_spec _) (fun _ _ h => h.elim) ?_
      rintro r s' ⟨rfl, hs⟩
      exact kp 2 s' _ _ (Hp.sub_trans hss hs) (hs _ _ (Hp.set_same _ _ _)) (hs _ _ hss3) (by rw [parseL, e6]; simp [hl'])
end Go.Proofs.YtgfbealjkdhdbaaGreatDoor
/-
  Reading lists of rows.
-/
set_option maxRecDepth 100000
namespace Go.Proofs.YtgfbealjkdhdbaaGreatDoor
open Go Go.Av
theorem putAt_full {xs ys : List AV} (h : ys.length = xs.length) : putAt xs 0 ys = ys := by simp [putAt, h]
theorem AllV.get {α : Type} {V : α → AV → Prop} : ∀ {xs : List α} {av : List AV} {i : Nat} {x : α}, AllV V xs av → xs[i]? = some x → ∃ a, av[i]? = some a ∧ V x a
  | [], [], _, _, _, h => by simp at h
  | x :: r, a :: q, 0, y, h, hi => by
    simp only [List.getElem?_cons_zero, Option.some.injEq] at hi; subst hi
    exact ⟨a, rfl, h.1⟩
  | x :: r, a :: q, i + 1, y, h, hi => by
    rw [List.getElem?_cons_succ] at hi
    obtain ⟨b, h1, h2⟩ := AllV.get h.2 hi
    exact ⟨b, by rw [List.getElem?_cons_succ]; exact h1, h2⟩
  | [], _ :: _, _, _, h, _ => h.elim
  | _ :: _, [], _, _, h, _ => h.elim
theorem iaSA_row {rows : List (List Int)} {av : List AV} {o : Own} {i : Nat} {r : List Int} (hA : AllV rowR rows av) (hi : rows[i]? = some r) : ∃ o2, iaSA 1 (.sl av o) (.v (.int .i64 (i : Int))) = some (.rptr [.sl (intsV r) o2]) := by
  obtain ⟨a, h1, ⟨av2, o2, h2, rfl⟩⟩ := hA.get hi
  refine ⟨o2, ?_⟩
  have h0 : (0 : Int) ≤ (i : Int) := by omega
  simp only [iaSA, h0, if_true, Int.toNat_natCast, h1]
  rw [elA_some (e := .sl av2 o2) (k := 1) rfl, AllV_int h2]; rfl
end Go.Proofs.YtgfbealjkdhdbaaGreatDoor
/-
  law24.Of.
-/
set_option maxRecDepth 100000
namespace Go.Proofs.YtgfbealjkdhdbaaGreatDoor
open Go Go.Av
structure RStm where
  kind : Int
  tab : List UInt8
  cols : List (List UInt8)
  rows : List (List Int)
  wh : List Cond
  sets : List Asg
  count : Bool
  asof : Int
  col : List UInt8
  down : Bool
  pt : List Int
  lim : Int
  tx : Int
def zRS : RStm := ⟨0, [], [], [], [], [], false, 0, [], false, [], 0, 0⟩
def rsR (x : RStm) (cs : List AV) : Prop := ∃ c r w t p, slR strR x.cols c ∧ slR rowR x.rows r ∧ slR condR x.wh w ∧ slR asgR x.sets t ∧ slR intR x.pt p ∧
  cs = [.v (.int .i64 x.kind), strV x.tab, c, r, w, t, .v (.bool x.count), .v (.int .i64 x.asof), strV x.col, .v (.bool x.down), p, .v (.int .i64 x.lim), .v (.int .u8 x.tx)]
def ofS : Stm → RStm
  | .create t c => { zRS with kind := 1, tab := t, cols := c }
  | .drop t => { zRS with kind := 2, tab := t }
  | .insert t r => { zRS with kind := 3, tab := t, rows := r }
  | .delete t w => { zRS with kind := 4, tab := t, wh := w }
  | .update t a w => { zRS with kind := 5, tab := t, sets := a, wh := w }
  | .sel x => { zRS with kind := 6, tab := x.tab, count := x.count, asof := x.asof, wh := x.wh, col := x.srt.col, down := x.srt.down, pt := x.srt.pt, lim := x.lim }
  | .tx k => { zRS with kind := 7, tx := k }
def zCells : List AV := [.v (.int .i64 0), .v (.string ⟨#[]⟩), .sl [] .nil, .sl [] .nil, .sl [] .nil, .sl [] .nil, .v (.bool false), .v (.int .i64 0), .v (.string ⟨#[]⟩), .v (.bool false), .sl [] .nil, .v (.int .i64 0), .v (.int .u8 0)]
theorem rsR_len {x : RStm} {cs : List AV} (h : rsR x cs) : cs.length = 13 := by
  obtain ⟨_, _, _, _, _, _, _, _, _, _, rfl⟩ := h; rfl
theorem take3 {a b c : AV} {r : List AV} : List.take 3 (a :: b :: c :: r) = [a, b, c] := rfl
theorem rep4s {x : AV} : List.replicate 4 x = [x, x, x, x] := rfl
theorem z_cells : ([AV.v (.int .i64 0)] ++ [AV.v (.string ⟨#[]⟩)] ++ List.replicate 4 (.sl [] .nil) ++ [.v (.bool false)] ++ [.v (.int .i64 0)] ++ [.v (.string ⟨#[]⟩)] ++ [.v (.bool false)] ++ [.sl [] .nil] ++ [.v (.int .i64 0)] ++ [.v (.int .u8 0)]) = zCells := rfl
theorem Of_nil (s : Hp) : AC Tryz.prog 14 [.v .nilIface] s fun r s' => s.sub s' ∧ ∃ cs, rsR zRS cs ∧ r = .agg cs := by
  refine AC_run hm prep14 (by simp) ?_
  simp (dsimp := false) (implicitDefEqProofs := false) (disch := first | omega | assumption | (simp only [rL, Nat.reduceAdd]; try omega)) only [↓rA, rZ, List.drop_succ_cons, ne_eq, not_true_eq_false, not_false_eq_true, List.getElem?_cons_zero, List.getElem?_cons_succ, ev, ofConst, ofCell, ↓reduceIte, Nat.reduceEqDiff, Nat.reduceAdd, Nat.reduceSub, Nat.reduceMul, Nat.reduceLeDiff, Nat.reduceLT, Int.reduceNeg, Int.reduceToNat, Int.reduceAdd, Int.reduceSub, Int.reduceMul, Int.reduceLT, Int.reduceLE, Int.reduceEq, Int.reduceNe, z_cells]
  refine newK_intro fun l2 n2 => ?_
  simp (dsimp := false) (implicitDefEqProofs := false) (disch := first | omega | assumption | (simp only [rL, Nat.reduceAdd]; try omega)) only [↓rA, rZ, List.drop_succ_cons, ne_eq, not_true_eq_false, not_false_eq_true, List.getElem?_cons_zero, List.getElem?_cons_succ, ev, ofConst, ofCell, ↓reduceIte, Nat.reduceEqDiff, Nat.reduceAdd, Nat.reduceSub, Nat.reduceMul, Nat.reduceLeDiff, Nat.reduceLT, Int.reduceNeg, Int.reduceToNat, Int.reduceAdd, Int.reduceSub, Int.reduceMul, Int.reduceLT, Int.reduceLE, Int.reduceEq, Int.reduceNe, z_cells, zCells, asrtA_nil, putAt_full]
  exact ⟨_, Hp.sub_refl, Hp.sub_new Hp.sub_refl n2, _, ⟨_, _, _, _, _, slR_nil, slR_nil, slR_nil, slR_nil, slR_nil, rfl⟩, rfl⟩
theorem Of_spec (x : Stm) (a : AV) (h : stmR x a) (s : Hp) : AC Tryz.prog 14 [a] s fun r s' => s.sub s' ∧ ∃ cs, rsR (ofS x) cs ∧ r = .agg cs := by
  refine AC_run hm prep14 (by simp) ?_
  simp (dsimp := false) (implicitDefEqProofs := false) (disch := first | omega | assumption | (simp only [rL, Nat.reduceAdd]; try omega)) only [↓rA, rZ, List.drop_succ_cons, ne_eq, not_true_eq_false, not_false_eq_true, List.getElem?_cons_zero, List.getElem?_cons_succ, ev, ofConst, ofCell, ↓reduceIte, Nat.reduceEqDiff, Nat.reduceAdd, Nat.reduceSub, Nat.reduceMul, Nat.reduceLeDiff, Nat.reduceLT, Int.reduceNeg, Int.reduceToNat, Int.reduceAdd, Int.reduceSub, Int.reduceMul, Int.reduceLT, Int.reduceLE, Int.reduceEq, Int.reduceNe, z_cells]
  refine newK_intro fun l2 n2 => ?_
  cases x with
  | create t c =>
    obtain ⟨c', hc, rfl⟩ := h
    obtain ⟨av, o, hA, rfl⟩ := id hc
    simp (dsimp := false) (implicitDefEqProofs := false) (disch := first | omega | assumption | (simp only [rL, Nat.reduceAdd]; try omega)) only [↓rA, rZ, List.drop_succ_cons, ne_eq, not_true_eq_false, not_false_eq_true, List.getElem?_cons_zero, List.getElem?_cons_succ, ev, ofConst, ofCell, ↓reduceIte, Nat.reduceEqDiff, Nat.reduceAdd, Nat.reduceSub, Nat.reduceMul, Nat.reduceLeDiff, Nat.reduceLT, Int.reduceNeg, Int.reduceToNat, Int.reduceAdd, Int.reduceSub, Int.reduceMul, Int.reduceLT, Int.reduceLE, Int.reduceEq, Int.reduceNe, z_cells, asrtA_yes, asrtA_no, strV]
    refine newK_intro fun l3 n3 => ?_
    have d : l2 ≠ l3 := by rintro rfl; rw [Hp.set_same] at n3; cases n3
    have d' := Ne.symm d
    have n3s : s l3 = none := by rw [Hp.set_ne _ _ d'] at n3; exact n3
    simp (dsimp := false) (implicitDefEqProofs := false) (disch := first | omega | assumption | (simp only [rL, Nat.reduceAdd]; try omega)) only [↓rA, rZ, List.drop_succ_cons, ne_eq, not_true_eq_false, not_false_eq_true, List.getElem?_cons_zero, List.getElem?_cons_succ, ev, ofConst, ofCell, ↓reduceIte, Nat.reduceEqDiff, Nat.reduceAdd, Nat.reduceSub, Nat.reduceMul, Nat.reduceLeDiff, Nat.reduceLT, Int.reduceNeg, Int.reduceToNat, Int.reduceAdd, Int.reduceSub, Int.reduceMul, Int.reduceLT, Int.reduceLE, Int.reduceEq, Int.reduceNe, z_cells, strV, Hp.set_ne, d, d', take3, putAt_full, putAt_z1, putAt_z3, putAt_sc, zCells]
    exact ⟨_, Hp.sub_refl, Hp.sub_new (Hp.sub_new Hp.sub_refl n2) n3s, _, ⟨_, _, _, _, _, hc, slR_nil, slR_nil, slR_nil, slR_nil, rfl⟩, rfl⟩
  | drop t =>
    obtain rfl := h
    have k0 : (91 : TypeId) ≠ 89 := by decide
    simp (dsimp := false) (implicitDefEqProofs := false) (disch := first | omega | assumption | (simp only [rL, Nat.reduceAdd]; try omega)) only [↓rA, rZ, List.drop_succ_cons, ne_eq, not_true_eq_false, not_false_eq_true, List.getElem?_cons_zero, List.getElem?_cons_succ, ev, ofConst, ofCell, ↓reduceIte, Nat.reduceEqDiff, Nat.reduceAdd, Nat.reduceSub, Nat.reduceMul, Nat.reduceLeDiff, Nat.reduceLT, Int.reduceNeg, Int.reduceToNat, Int.reduceAdd, Int.reduceSub, Int.reduceMul, Int.reduceLT, Int.reduceLE, Int.reduceEq, Int.reduceNe, z_cells, asrtA_yes, asrtA_no, strV]
    refine newK_intro fun l3 n3 => ?_
    have d : l2 ≠ l3 := by rintro rfl; rw [Hp.set_same] at n3; cases n3
    have d' := Ne.symm d
    have n3s : s l3 = none := by rw [Hp.set_ne _ _ d'] at n3; exact n3
    simp (dsimp := false) (implicitDefEqProofs := false) (disch := first | omega | assumption | (simp only [rL, Nat.reduceAdd]; try omega)) only [↓rA, rZ, List.drop_succ_cons, ne_eq, not_true_eq_false, not_false_eq_true, List.getElem?_cons_zero, List.getElem?_cons_succ, ev, ofConst, ofCell, ↓reduceIte, Nat.reduceEqDiff, Nat.reduceAdd, Nat.reduceSub, Nat.reduceMul, Nat.reduceLeDiff, Nat.reduceLT, Int.reduceNeg, Int.reduceToNat, Int.reduceAdd, Int.reduceSub, Int.reduceMul, Int.reduceLT, Int.reduceLE, Int.reduceEq, Int.reduceNe, z_cells, strV, Hp.set_ne, d, d', take3, putAt_full, putAt_z1, putAt_z3, putAt_sc, zCells]
    exact ⟨_, Hp.sub_refl, Hp.sub_new (Hp.sub_new Hp.sub_refl n2) n3s, _, ⟨_, _, _, _, _, slR_nil, slR_nil, slR_nil, slR_nil, slR_nil, rfl⟩, rfl⟩
  | insert t c =>
    obtain ⟨c', hc, rfl⟩ := h
    obtain ⟨av, o, hA, rfl⟩ := id hc
    have k0 : (93 : TypeId) ≠ 89 := by decide
    have k1 : (93 : TypeId) ≠ 91 := by decide
    simp (dsimp := false) (implicitDefEqProofs := false) (disch := first | omega | assumption | (simp only [rL, Nat.reduceAdd]; try omega)) only [↓rA, rZ, List.drop_succ_cons, ne_eq, not_true_eq_false, not_false_eq_true, List.getElem?_cons_zero, List.getElem?_cons_succ, ev, ofConst, ofCell, ↓reduceIte, Nat.reduceEqDiff, Nat.reduceAdd, Nat.reduceSub, Nat.reduceMul, Nat.reduceLeDiff, Nat.reduceLT, Int.reduceNeg, Int.reduceToNat, Int.reduceAdd, Int.reduceSub, Int.reduceMul, Int.reduceLT, Int.reduceLE, Int.reduceEq, Int.reduceNe, z_cells, asrtA_yes, asrtA_no, strV]
    refine newK_intro fun l3 n3 => ?_
    have d : l2 ≠ l3 := by rintro rfl; rw [Hp.set_same] at n3; cases n3
    have d' := Ne.symm d
    have n3s : s l3 = none := by rw [Hp.set_ne _ _ d'] at n3; exact n3
    simp (dsimp := false) (implicitDefEqProofs := false) (disch := first | omega | assumption | (simp only [rL, Nat.reduceAdd]; try omega)) only [↓rA, rZ, List.drop_succ_cons, ne_eq, not_true_eq_false, not_false_eq_true, List.getElem?_cons_zero, List.getElem?_cons_succ, ev, ofConst, ofCell, ↓reduceIte, Nat.reduceEqDiff, Nat.reduceAdd, Nat.reduceSub, Nat.reduceMul, Nat.reduceLeDiff, Nat.reduceLT, Int.reduceNeg, Int.reduceToNat, Int.reduceAdd, Int.reduceSub, Int.reduceMul, Int.reduceLT, Int.reduceLE, Int.reduceEq, Int.reduceNe, z_cells, strV, Hp.set_ne, d, d', take3, putAt_full, putAt_z1, putAt_z3, putAt_sc, zCells]
    exact ⟨_, Hp.sub_refl, Hp.sub_new (Hp.sub_new Hp.sub_refl n2) n3s, _, ⟨_, _, _, _, _, slR_nil, hc, slR_nil, slR_nil, slR_nil, rfl⟩, rfl⟩
  | delete t c =>
    obtain ⟨c', hc, rfl⟩ := h
    obtain ⟨av, o, hA, rfl⟩ := id hc
    have k0 : (95 : TypeId) ≠ 89 := by decide
    have k1 : (95 : TypeId) ≠ 91 := by decide
    have k2 : (95 : TypeId) ≠ 93 := by decide
    simp (dsimp := false) (implicitDefEqProofs := false) (disch := first | omega | assumption | (simp only [rL, Nat.reduceAdd]; try omega)) only [↓rA, rZ, List.drop_succ_cons, ne_eq, not_true_eq_false, not_false_eq_true, List.getElem?_cons_zero, List.getElem?_cons_succ, ev, ofConst, ofCell, ↓reduceIte, Nat.reduceEqDiff, Nat.reduceAdd, Nat.reduceSub, Nat.reduceMul, Nat.reduceLeDiff, Nat.reduceLT, Int.reduceNeg, Int.reduceToNat, Int.reduceAdd, Int.reduceSub, Int.reduceMul, Int.reduceLT, Int.reduceLE, Int.reduceEq, Int.reduceNe, z_cells, asrtA_yes, asrtA_no, strV]
    refine newK_intro fun l3 n3 => ?_
    have d : l2 ≠ l3 := by rintro rfl; rw [Hp.set_same] at n3; cases n3
    have d' := Ne.symm d
    have n3s : s l3 = none := by rw [Hp.set_ne _ _ d'] at n3; exact n3
    simp (dsimp := false) (implicitDefEqProofs := false) (disch := first | omega | assumption | (simp only [rL, Nat.reduceAdd]; try omega)) only [↓rA, rZ, List.drop_succ_cons, ne_eq, not_true_eq_false, not_false_eq_true, List.getElem?_cons_zero, List.getElem?_cons_succ, ev, ofConst, ofCell, ↓reduceIte, Nat.reduceEqDiff, Nat.reduceAdd, Nat.reduceSub, Nat.reduceMul, Nat.reduceLeDiff, Nat.reduceLT, Int.reduceNeg, Int.reduceToNat, Int.reduceAdd, Int.reduceSub, Int.reduceMul, Int.reduceLT, Int.reduceLE, Int.reduceEq, Int.reduceNe, z_cells, strV, Hp.set_ne, d, d', take3, putAt_full, putAt_z1, putAt_z3, putAt_sc, zCells]
    exact ⟨_, Hp.sub_refl, Hp.sub_new (Hp.sub_new Hp.sub_refl n2) n3s, _, ⟨_, _, _, _, _, slR_nil, slR_nil, hc, slR_nil, slR_nil, rfl⟩, rfl⟩
  | update t c d =>
    obtain ⟨c', d', hc, hd, rfl⟩ := h
    obtain ⟨av, o, hA, rfl⟩ := id hc
    obtain ⟨aw, ow, hB, rfl⟩ := id hd
    have k0 : (97 : TypeId) ≠ 89 := by decide
    have k1 : (97 : TypeId) ≠ 91 := by decide
    have k2 : (97 : TypeId) ≠ 93 := by decide
    have k3 : (97 : TypeId) ≠ 95 := by decide
    simp (dsimp := false) (implicitDefEqProofs := false) (disch := first | omega | assumption | (simp only [rL, Nat.reduceAdd]; try omega)) only [↓rA, rZ, List.drop_succ_cons, ne_eq, not_true_eq_false, not_false_eq_true, List.getElem?_cons_zero, List.getElem?_cons_succ, ev, ofConst, ofCell, ↓reduceIte, Nat.reduceEqDiff, Nat.reduceAdd, Nat.reduceSub, Nat.reduceMul, Nat.reduceLeDiff, Nat.reduceLT, Int.reduceNeg, Int.reduceToNat, Int.reduceAdd, Int.reduceSub, Int.reduceMul, Int.reduceLT, Int.reduceLE, Int.reduceEq, Int.reduceNe, z_cells, asrtA_yes, asrtA_no, strV]
    refine newK_intro fun l3 n3 => ?_
    have d : l2 ≠ l3 := by rintro rfl; rw [Hp.set_same] at n3; cases n3
    have d' := Ne.symm d
    have n3s : s l3 = none := by rw [Hp.set_ne _ _ d'] at n3; exact n3
    simp (dsimp := false) (implicitDefEqProofs := false) (disch := first | omega | assumption | (simp only [rL, Nat.reduceAdd]; try omega)) only [↓rA, rZ, List.drop_succ_cons, ne_eq, not_true_eq_false, not_false_eq_true, List.getElem?_cons_zero, List.getElem?_cons_succ, ev, ofConst, ofCell, ↓reduceIte, Nat.reduceEqDiff, Nat.reduceAdd, Nat.reduceSub, Nat.reduceMul, Nat.reduceLeDiff, Nat.reduceLT, Int.reduceNeg, Int.reduceToNat, Int.reduceAdd, Int.reduceSub, Int.reduceMul, Int.reduceLT, Int.reduceLE, Int.reduceEq, Int.reduceNe, z_cells, strV, Hp.set_ne, d, d', take3, putAt_full, putAt_z1, putAt_z3, putAt_sc, zCells]
    exact ⟨_, Hp.sub_refl, Hp.sub_new (Hp.sub_new Hp.sub_refl n2) n3s, _, ⟨_, _, _, _, _, slR_nil, slR_nil, hd, hc, slR_nil, rfl⟩, rfl⟩
  | sel x =>
    obtain ⟨c', p', hc, hp, rfl⟩ := h
    obtain ⟨av, o, hA, rfl⟩ := id hc
    obtain ⟨ap, op, hP, rfl⟩ := id hp
    have k0 : (99 : TypeId) ≠ 89 := by decide
    have k1 : (99 : TypeId) ≠ 91 := by decide
    have k2 : (99 : TypeId) ≠ 93 := by decide
    have k3 : (99 : TypeId) ≠ 95 := by decide
    have k4 : (99 : TypeId) ≠ 97 := by decide
    simp (dsimp := false) (implicitDefEqProofs := false) (disch := first | omega | assumption | (simp only [rL, Nat.reduceAdd]; try omega)) only [↓rA, rZ, List.drop_succ_cons, ne_eq, not_true_eq_false, not_false_eq_true, List.getElem?_cons_zero, List.getElem?_cons_succ, ev, ofConst, ofCell, ↓reduceIte, Nat.reduceEqDiff, Nat.reduceAdd, Nat.reduceSub, Nat.reduceMul, Nat.reduceLeDiff, Nat.reduceLT, Int.reduceNeg, Int.reduceToNat, Int.reduceAdd, Int.reduceSub, Int.reduceMul, Int.reduceLT, Int.reduceLE, Int.reduceEq, Int.reduceNe, z_cells, asrtA_yes, asrtA_no, strV]
    refine newK_intro fun l3 n3 => ?_
    have d : l2 ≠ l3 := by rintro rfl; rw [Hp.set_same] at n3; cases n3
    have d' := Ne.symm d
    have n3s : s l3 = none := by rw [Hp.set_ne _ _ d'] at n3; exact n3
    simp (dsimp := false) (implicitDefEqProofs := false) (disch := first | omega | assumption | (simp only [rL, Nat.reduceAdd]; try omega)) only [↓rA, rZ, List.drop_succ_cons, ne_eq, not_true_eq_false, not_false_eq_true, List.getElem?_cons_zero, List.getElem?_cons_succ, ev, ofConst, ofCell, ↓reduceIte, Nat.reduceEqDiff, Nat.reduceAdd, Nat.reduceSub, Nat.reduceMul, Nat.reduceLeDiff, Nat.reduceLT, Int.reduceNeg, Int.reduceToNat, Int.reduceAdd, Int.reduceSub, Int.reduceMul, Int.reduceLT, Int.reduceLE, Int.reduceEq, Int.reduceNe, z_cells, strV, Hp.set_ne, d, d', take3, putAt_full, putAt_z1, putAt_z3, putAt_sc, zCells]
    exact ⟨_, Hp.sub_refl, Hp.sub_new (Hp.sub_new Hp.sub_refl n2) n3s, _, ⟨_, _, _, _, _, slR_nil, slR_nil, hc, slR_nil, hp, rfl⟩, rfl⟩
  | tx k =>
    obtain rfl := h
    have k0 : (101 : TypeId) ≠ 89 := by decide
    have k1 : (101 : TypeId) ≠ 91 := by decide
    have k2 : (101 : TypeId) ≠ 93 := by decide
    have k3 : (101 : TypeId) ≠ 95 := by decide
    have k4 : (101 : TypeId) ≠ 97 := by decide
    have k5 : (101 : TypeId) ≠ 99 := by decide
    simp (dsimp := false) (implicitDefEqProofs := false) (disch := first | omega | assumption | (simp only [rL, Nat.reduceAdd]; try omega)) only [↓rA, rZ, List.drop_succ_cons, ne_eq, not_true_eq_false, not_false_eq_true, List.getElem?_cons_zero, List.getElem?_cons_succ, ev, ofConst, ofCell, ↓reduceIte, Nat.reduceEqDiff, Nat.reduceAdd, Nat.reduceSub, Nat.reduceMul, Nat.reduceLeDiff, Nat.reduceLT, Int.reduceNeg, Int.reduceToNat, Int.reduceAdd, Int.reduceSub, Int.reduceMul, Int.reduceLT, Int.reduceLE, Int.reduceEq, Int.reduceNe, z_cells, asrtA_yes, asrtA_no, strV]
    refine newK_intro fun l3 n3 => ?_
    have d : l2 ≠ l3 := by rintro rfl; rw [Hp.set_same] at n3; cases n3
    have d' := Ne.symm d
    have n3s : s l3 = none := by rw [Hp.set_ne _ _ d'] at n3; exact n3
    simp (dsimp := false) (implicitDefEqProofs := false) (disch := first | omega | assumption | (simp only [rL, Nat.reduceAdd]; try omega)) only [↓rA, rZ, List.drop_succ_cons, ne_eq, not_true_eq_false, not_false_eq_true, List.getElem?_cons_zero, List.getElem?_cons_succ, ev, ofConst, ofCell, ↓reduceIte, Nat.reduceEqDiff, Nat.reduceAdd, Nat.reduceSub, Nat.reduceMul, Nat.reduceLeDiff, Nat.reduceLT, Int.reduceNeg, Int.reduceToNat, Int.reduceAdd, Int.reduceSub, Int.reduceMul, Int.reduceLT, Int.reduceLE, Int.reduceEq, Int.reduceNe, z_cells, strV, Hp.set_ne, d, d', take3, putAt_full, putAt_z1, putAt_z3, putAt_sc, zCells]
    exact ⟨_, Hp.sub_refl, Hp.sub_new (Hp.sub_new Hp.sub_refl n2) n3s, _, ⟨_, _, _, _, _, slR_nil, slR_nil, slR_nil, slR_nil, slR_nil, rfl⟩, rfl⟩
end Go.Proofs.YtgfbealjkdhdbaaGreatDoor
/-
  law24: To, parse.Table, table.
-/
set_option maxRecDepth 100000
namespace Go.Proofs.YtgfbealjkdhdbaaGreatDoor
open Go Go.Av
def toS (x : RStm) : Option Stm :=
  if x.kind = 1 then some (.create x.tab x.cols)
  else if x.kind = 2 then some (.drop x.tab)
  else if x.kind = 3 then some (.insert x.tab x.rows)
  else if x.kind = 4 then some (.delete x.tab x.wh)
  else if x.kind = 5 then some (.update x.tab x.sets x.wh)
  else if x.kind = 6 then some (.sel ⟨x.tab, x.count, x.asof, x.wh, ⟨x.col, x.down, x.pt⟩, x.lim⟩)
  else if x.kind = 7 then some (.tx x.tx.toNat)
  else none
def toR (o : Option Stm) (r : AV) : Prop :=
  match o with
  | some st => stmR st r
  | none => r = .v .nilIface
theorem To_spec (x : RStm) (cs : List AV) (hcs : rsR x cs) (htx : 0 ≤ x.tx) (s : Hp) : AC Tryz.prog 15 [.agg cs] s fun r s' => s.sub s' ∧ toR (toS x) r := by
  obtain ⟨c, r, w, t, p, h1, h2, h3, h4, h5, rfl⟩ := hcs
  obtain ⟨ac, oc, hc, rfl⟩ := id h1
  obtain ⟨ar, or1, hr, rfl⟩ := id h2
  obtain ⟨aw, ow, hw, rfl⟩ := id h3
  obtain ⟨at_, ot, ht, rfl⟩ := id h4
  obtain ⟨ap, op, hp, rfl⟩ := id h5
  refine AC_run hm prep15 (by simp) ?_
  simp (dsimp := false) (implicitDefEqProofs := false) (disch := first | omega | assumption | (simp only [rL, Nat.reduceAdd]; try omega)) only [↓rA, rZ, List.drop_succ_cons, ne_eq, not_true_eq_false, not_false_eq_true, List.getElem?_cons_zero, List.getElem?_cons_succ, ev, ofConst, ofCell, ↓reduceIte, Nat.reduceEqDiff, Nat.reduceAdd, Nat.reduceSub, Nat.reduceMul, Nat.reduceLeDiff, Nat.reduceLT, Int.reduceNeg, Int.reduceToNat, Int.reduceAdd, Int.reduceSub, Int.reduceMul, Int.reduceLT, Int.reduceLE, Int.reduceEq, Int.reduceNe]
  refine newK_intro fun l1 n1 => ?_
  have hs1 : ∀ ob, s.sub (s.set l1 ob) := fun ob => Hp.sub_new Hp.sub_refl n1
  by_cases c1 : x.kind = 1
  · simp (dsimp := false) (implicitDefEqProofs := false) (disch := first | omega | assumption | (simp only [rL, Nat.reduceAdd]; try omega)) only [↓rA, rZ, List.drop_succ_cons, ne_eq, not_true_eq_false, not_false_eq_true, List.getElem?_cons_zero, List.getElem?_cons_succ, ev, ofConst, ofCell, ↓reduceIte, Nat.reduceEqDiff, Nat.reduceAdd, Nat.reduceSub, Nat.reduceMul, Nat.reduceLeDiff, Nat.reduceLT, Int.reduceNeg, Int.reduceToNat, Int.reduceAdd, Int.reduceSub, Int.reduceMul, Int.reduceLT, Int.reduceLE, Int.reduceEq, Int.reduceNe, c1, putAt_z1, putAt_sc, putAt_z3, take3, strV]
    exact ⟨_, Hp.sub_refl, hs1 _, by simp only [toS, c1, if_true]; exact ⟨_, h1, rfl⟩⟩
  by_cases c2 : x.kind = 2
  · simp (dsimp := false) (implicitDefEqProofs := false) (disch := first | omega | assumption | (simp only [rL, Nat.reduceAdd]; try omega)) only [↓rA, rZ, List.drop_succ_cons, ne_eq, not_true_eq_false, not_false_eq_true, List.getElem?_cons_zero, List.getElem?_cons_succ, ev, ofConst, ofCell, ↓reduceIte, Nat.reduceEqDiff, Nat.reduceAdd, Nat.reduceSub, Nat.reduceMul, Nat.reduceLeDiff, Nat.reduceLT, Int.reduceNeg, Int.reduceToNat, Int.reduceAdd, Int.reduceSub, Int.reduceMul, Int.reduceLT, Int.reduceLE, Int.reduceEq, Int.reduceNe, c1, c2, putAt_z1, putAt_sc, putAt_z3, take3, strV]
    exact ⟨_, Hp.sub_refl, hs1 _, by simp only [toS]; rw [if_neg c1, if_pos c2]; exact rfl⟩
  by_cases c3 : x.kind = 3
  · simp (dsimp := false) (implicitDefEqProofs := false) (disch := first | omega | assumption | (simp only [rL, Nat.reduceAdd]; try omega)) only [↓rA, rZ, List.drop_succ_cons, ne_eq, not_true_eq_false, not_false_eq_true, List.getElem?_cons_zero, List.getElem?_cons_succ, ev, ofConst, ofCell, ↓reduceIte, Nat.reduceEqDiff, Nat.reduceAdd, Nat.reduceSub, Nat.reduceMul, Nat.reduceLeDiff, Nat.reduceLT, Int.reduceNeg, Int.reduceToNat, Int.reduceAdd, Int.reduceSub, Int.reduceMul, Int.reduceLT, Int.reduceLE, Int.reduceEq, Int.reduceNe, c1, c2, c3, putAt_z1, putAt_sc, putAt_z3, take3, strV]
    exact ⟨_, Hp.sub_refl, hs1 _, by simp only [toS]; rw [if_neg c1, if_neg c2, if_pos c3]; exact ⟨_, h2, rfl⟩⟩
  by_cases c4 : x.kind = 4
  · simp (dsimp := false) (implicitDefEqProofs := false) (disch := first | omega | assumption | (simp only [rL, Nat.reduceAdd]; try omega)) only [↓rA, rZ, List.drop_succ_cons, ne_eq, not_true_eq_false, not_false_eq_true, List.getElem?_cons_zero, List.getElem?_cons_succ, ev, ofConst, ofCell, ↓reduceIte, Nat.reduceEqDiff, Nat.reduceAdd, Nat.reduceSub, Nat.reduceMul, Nat.reduceLeDiff, Nat.reduceLT, Int.reduceNeg, Int.reduceToNat, Int.reduceAdd, Int.reduceSub, Int.reduceMul, Int.reduceLT, Int.reduceLE, Int.reduceEq, Int.reduceNe, c1, c2, c3, c4, putAt_z1, putAt_sc, putAt_z3, take3, strV]
    exact ⟨_, Hp.sub_refl, hs1 _, by simp only [toS]; rw [if_neg c1, if_neg c2, if_neg c3, if_pos c4]; exact ⟨_, h3, rfl⟩⟩
  by_cases c5 : x.kind = 5
  · simp (dsimp := false) (implicitDefEqProofs := false) (disch := first | omega | assumption | (simp only [rL, Nat.reduceAdd]; try omega)) only [↓rA, rZ, List.drop_succ_cons, ne_eq, not_true_eq_false, not_false_eq_true, List.getElem?_cons_zero, List.getElem?_cons_succ, ev, ofConst, ofCell, ↓reduceIte, Nat.reduceEqDiff, Nat.reduceAdd, Nat.reduceSub, Nat.reduceMul, Nat.reduceLeDiff, Nat.reduceLT, Int.reduceNeg, Int.reduceToNat, Int.reduceAdd, Int.reduceSub, Int.reduceMul, Int.reduceLT, Int.reduceLE, Int.reduceEq, Int.reduceNe, c1, c2, c3, c4, c5, putAt_z1, putAt_sc, putAt_z3, take3, strV]
    exact ⟨_, Hp.sub_refl, hs1 _, by simp only [toS]; rw [if_neg c1, if_neg c2, if_neg c3, if_neg c4, if_pos c5]; exact ⟨_, _, h4, h3, rfl⟩⟩
  by_cases c6 : x.kind = 6
  · simp (dsimp := false) (implicitDefEqProofs := false) (disch := first | omega | assumption | (simp only [rL, Nat.reduceAdd]; try omega)) only [↓rA, rZ, List.drop_succ_cons, ne_eq, not_true_eq_false, not_false_eq_true, List.getElem?_cons_zero, List.getElem?_cons_succ, ev, ofConst, ofCell, ↓reduceIte, Nat.reduceEqDiff, Nat.reduceAdd, Nat.reduceSub, Nat.reduceMul, Nat.reduceLeDiff, Nat.reduceLT, Int.reduceNeg, Int.reduceToNat, Int.reduceAdd, Int.reduceSub, Int.reduceMul, Int.reduceLT, Int.reduceLE, Int.reduceEq, Int.reduceNe, c1, c2, c3, c4, c5, c6, putAt_z1, putAt_sc, putAt_z3, take3, strV]
    exact ⟨_, Hp.sub_refl, hs1 _, by simp only [toS]; rw [if_neg c1, if_neg c2, if_neg c3, if_neg c4, if_neg c5, if_pos c6]; exact ⟨_, _, h3, h5, rfl⟩⟩
  by_cases c7 : x.kind = 7
  · have etx : ((x.tx.toNat : Nat) : Int) = x.tx := Int.toNat_of_nonneg htx
    simp (dsimp := false) (implicitDefEqProofs := false) (disch := first | omega | assumption | (simp only [rL, Nat.reduceAdd]; try omega)) only [↓rA, rZ, List.drop_succ_cons, ne_eq, not_true_eq_false, not_false_eq_true, List.getElem?_cons_zero, List.getElem?_cons_succ, ev, ofConst, ofCell, ↓reduceIte, Nat.reduceEqDiff, Nat.reduceAdd, Nat.reduceSub, Nat.reduceMul, Nat.reduceLeDiff, Nat.reduceLT, Int.reduceNeg, Int.reduceToNat, Int.reduceAdd, Int.reduceSub, Int.reduceMul, Int.reduceLT, Int.reduceLE, Int.reduceEq, Int.reduceNe, c1, c2, c3, c4, c5, c6, c7, putAt_z1, putAt_sc, putAt_z3, take3, strV]
    exact ⟨_, Hp.sub_refl, hs1 _, by simp only [toS]; rw [if_neg c1, if_neg c2, if_neg c3, if_neg c4, if_neg c5, if_neg c6, if_pos c7]; simp only [toR, stmR, etx]⟩
  simp (dsimp := false) (implicitDefEqProofs := false) (disch := first | omega | assumption | (simp only [rL, Nat.reduceAdd]; try omega)) only [↓rA, rZ, List.drop_succ_cons, ne_eq, not_true_eq_false, not_false_eq_true, List.getElem?_cons_zero, List.getElem?_cons_succ, ev, ofConst, ofCell, ↓reduceIte, Nat.reduceEqDiff, Nat.reduceAdd, Nat.reduceSub, Nat.reduceMul, Nat.reduceLeDiff, Nat.reduceLT, Int.reduceNeg, Int.reduceToNat, Int.reduceAdd, Int.reduceSub, Int.reduceMul, Int.reduceLT, Int.reduceLE, Int.reduceEq, Int.reduceNe, c1, c2, c3, c4, c5, c6, c7, putAt_z1, putAt_sc, putAt_z3, take3, strV]
  exact ⟨_, Hp.sub_refl, hs1 _, by simp only [toS]; rw [if_neg c1, if_neg c2, if_neg c3, if_neg c4, if_neg c5, if_neg c6, if_neg c7]; rfl⟩
theorem sub_then {a b : Hp} {l : Nat} {o : Ob} (h : a.sub b) (hl : b l = none) : a.sub (b.set l o) := Hp.sub_new h (Hp.sub_none h hl)
def tabOf : Stm → List UInt8
  | .create t _ => t
  | .drop t => t
  | .insert t _ => t
  | .delete t _ => t
  | .update t _ _ => t
  | .sel x => x.tab
  | .tx _ => []
theorem Table_spec (x : Stm) (a : AV) (h : stmR x a) (s : Hp) : AC Tryz.prog 37 [a] s fun r s' => s.sub s' ∧ r = strV (tabOf x) := by
  refine AC_run hm prep37 (by simp) ?_
  cases x with
  | create t c =>
    obtain ⟨c', ⟨av, o, hA, rfl⟩, rfl⟩ := h
    simp (dsimp := false) (implicitDefEqProofs := false) (disch := first | omega | assumption | (simp only [rL, Nat.reduceAdd]; try omega)) only [↓rA, rZ, List.drop_succ_cons, ne_eq, not_true_eq_false, not_false_eq_true, List.getElem?_cons_zero, List.getElem?_cons_succ, ev, ofConst, ofCell, ↓reduceIte, Nat.reduceEqDiff, Nat.reduceAdd, Nat.reduceSub, Nat.reduceMul, Nat.reduceLeDiff, Nat.reduceLT, Int.reduceNeg, Int.reduceToNat, Int.reduceAdd, Int.reduceSub, Int.reduceMul, Int.reduceLT, Int.reduceLE, Int.reduceEq, Int.reduceNe, asrtA_yes, asrtA_no, strV, putAt_full]
    refine newK_intro fun l0 n0 => ?_
    simp (dsimp := false) (implicitDefEqProofs := false) (disch := first | omega | assumption | (simp only [rL, Nat.reduceAdd]; try omega)) only [↓rA, rZ, List.drop_succ_cons, ne_eq, not_true_eq_false, not_false_eq_true, List.getElem?_cons_zero, List.getElem?_cons_succ, ev, ofConst, ofCell, ↓reduceIte, Nat.reduceEqDiff, Nat.reduceAdd, Nat.reduceSub, Nat.reduceMul, Nat.reduceLeDiff, Nat.reduceLT, Int.reduceNeg, Int.reduceToNat, Int.reduceAdd, Int.reduceSub, Int.reduceMul, Int.reduceLT, Int.reduceLE, Int.reduceEq, Int.reduceNe, asrtA_yes, asrtA_no, strV, putAt_full]
    exact ⟨_, Hp.sub_refl, sub_then Hp.sub_refl n0, rfl⟩
  | drop t =>
    obtain rfl := h
    have k0 : (91 : TypeId) ≠ 89 := by decide
    simp (dsimp := false) (implicitDefEqProofs := false) (disch := first | omega | assumption | (simp only [rL, Nat.reduceAdd]; try omega)) only [↓rA, rZ, List.drop_succ_cons, ne_eq, not_true_eq_false, not_false_eq_true, List.getElem?_cons_zero, List.getElem?_cons_succ, ev, ofConst, ofCell, ↓reduceIte, Nat.reduceEqDiff, Nat.reduceAdd, Nat.reduceSub, Nat.reduceMul, Nat.reduceLeDiff, Nat.reduceLT, Int.reduceNeg, Int.reduceToNat, Int.reduceAdd, Int.reduceSub, Int.reduceMul, Int.reduceLT, Int.reduceLE, Int.reduceEq, Int.reduceNe, asrtA_yes, asrtA_no, strV, putAt_full]
    refine newK_intro fun l0 n0 => ?_
    simp (dsimp := false) (implicitDefEqProofs := false) (disch := first | omega | assumption | (simp only [rL, Nat.reduceAdd]; try omega)) only [↓rA, rZ, List.drop_succ_cons, ne_eq, not_true_eq_false, not_false_eq_true, List.getElem?_cons_zero, List.getElem?_cons_succ, ev, ofConst, ofCell, ↓reduceIte, Nat.reduceEqDiff, Nat.reduceAdd, Nat.reduceSub, Nat.reduceMul, Nat.reduceLeDiff, Nat.reduceLT, Int.reduceNeg, Int.reduceToNat, Int.reduceAdd, Int.reduceSub, Int.reduceMul, Int.reduceLT, Int.reduceLE, Int.reduceEq, Int.reduceNe, asrtA_yes, asrtA_no, strV, putAt_full]
    refine newK_intro fun l1 n1 => ?_
    simp (dsimp := false) (implicitDefEqProofs := false) (disch := first | omega | assumption | (simp only [rL, Nat.reduceAdd]; try omega)) only [↓rA, rZ, List.drop_succ_cons, ne_eq, not_true_eq_false, not_false_eq_true, List.getElem?_cons_zero, List.getElem?_cons_succ, ev, ofConst, ofCell, ↓reduceIte, Nat.reduceEqDiff, Nat.reduceAdd, Nat.reduceSub, Nat.reduceMul, Nat.reduceLeDiff, Nat.reduceLT, Int.reduceNeg, Int.reduceToNat, Int.reduceAdd, Int.reduceSub, Int.reduceMul, Int.reduceLT, Int.reduceLE, Int.reduceEq, Int.reduceNe, asrtA_yes, asrtA_no, strV, putAt_full]
    exact ⟨_, Hp.sub_refl, sub_then (sub_then Hp.sub_refl n0) n1, rfl⟩
  | insert t c =>
    obtain ⟨c', ⟨av, o, hA, rfl⟩, rfl⟩ := h
    have k0 : (93 : TypeId) ≠ 89 := by decide
    have k1 : (93 : TypeId) ≠ 91 := by decide
    simp (dsimp := false) (implicitDefEqProofs := false) (disch := first | omega | assumption | (simp only [rL, Nat.reduceAdd]; try omega)) only [↓rA, rZ, List.drop_succ_cons, ne_eq, not_true_eq_false, not_false_eq_true, List.getElem?_cons_zero, List.getElem?_cons_succ, ev, ofConst, ofCell, ↓reduceIte, Nat.reduceEqDiff, Nat.reduceAdd, Nat.reduceSub, Nat.reduceMul, Nat.reduceLeDiff, Nat.reduceLT, Int.reduceNeg, Int.reduceToNat, Int.reduceAdd, Int.reduceSub, Int.reduceMul, Int.reduceLT, Int.reduceLE, Int.reduceEq, Int.reduceNe, asrtA_yes, asrtA_no, strV, putAt_full]
    refine newK_intro fun l0 n0 => ?_
    simp (dsimp := false) (implicitDefEqProofs := false) (disch := first | omega | assumption | (simp only [rL, Nat.reduceAdd]; try omega)) only [↓rA, rZ, List.drop_succ_cons, ne_eq, not_true_eq_false, not_false_eq_true, List.getElem?_cons_zero, List.getElem?_cons_succ, ev, ofConst, ofCell, ↓reduceIte, Nat.reduceEqDiff, Nat.reduceAdd, Nat.reduceSub, Nat.reduceMul, Nat.reduceLeDiff, Nat.reduceLT, Int.reduceNeg, Int.reduceToNat, Int.reduceAdd, Int.reduceSub, Int.reduceMul, Int.reduceLT, Int.reduceLE, Int.reduceEq, Int.reduceNe, asrtA_yes, asrtA_no, strV, putAt_full]
    refine newK_intro fun l1 n1 => ?_
    simp (dsimp := false) (implicitDefEqProofs := false) (disch := first | omega | assumption | (simp only [rL, Nat.reduceAdd]; try omega)) only [↓rA, rZ, List.drop_succ_cons, ne_eq, not_true_eq_false, not_false_eq_true, List.getElem?_cons_zero, List.getElem?_cons_succ, ev, ofConst, ofCell, ↓reduceIte, Nat.reduceEqDiff, Nat.reduceAdd, Nat.reduceSub, Nat.reduceMul, Nat.reduceLeDiff, Nat.reduceLT, Int.reduceNeg, Int.reduceToNat, Int.reduceAdd, Int.reduceSub, Int.reduceMul, Int.reduceLT, Int.reduceLE, Int.reduceEq, Int.reduceNe, asrtA_yes, asrtA_no, strV, putAt_full]
    refine newK_intro fun l2 n2 => ?_
    simp (dsimp := false) (implicitDefEqProofs := false) (disch := first | omega | assumption | (simp only [rL, Nat.reduceAdd]; try omega)) only [↓rA, rZ, List.drop_succ_cons, ne_eq, not_true_eq_false, not_false_eq_true, List.getElem?_cons_zero, List.getElem?_cons_succ, ev, ofConst, ofCell, ↓reduceIte, Nat.reduceEqDiff, Nat.reduceAdd, Nat.reduceSub, Nat.reduceMul, Nat.reduceLeDiff, Nat.reduceLT, Int.reduceNeg, Int.reduceToNat, Int.reduceAdd, Int.reduceSub, Int.reduceMul, Int.reduceLT, Int.reduceLE, Int.reduceEq, Int.reduceNe, asrtA_yes, asrtA_no, strV, putAt_full]
    exact ⟨_, Hp.sub_refl, sub_then (sub_then (sub_then Hp.sub_refl n0) n1) n2, rfl⟩
  | delete t c =>
    obtain ⟨c', ⟨av, o, hA, rfl⟩, rfl⟩ := h
    have k0 : (95 : TypeId) ≠ 89 := by decide
    have k1 : (95 : TypeId) ≠ 91 := by decide
    have k2 : (95 : TypeId) ≠ 93 := by decide
    simp (dsimp := false) (implicitDefEqProofs := false) (disch := first | omega | assumption | (simp only [rL, Nat.reduceAdd]; try omega)) only [↓rA, rZ, List.drop_succ_cons, ne_eq, not_true_eq_false, not_false_eq_true, List.getElem?_cons_zero, List.getElem?_cons_succ, ev, ofConst, ofCell, ↓reduceIte, Nat.reduceEqDiff, Nat.reduceAdd, Nat.reduceSub, Nat.reduceMul, Nat.reduceLeDiff, Nat.reduceLT, Int.reduceNeg, Int.reduceToNat, Int.reduceAdd, Int.reduceSub, Int.reduceMul, Int.reduceLT, Int.reduceLE, Int.reduceEq, Int.reduceNe, asrtA_yes, asrtA_no, strV, putAt_full]
    refine newK_intro fun l0 n0 => ?_
    simp (dsimp := false) (implicitDefEqProofs := false) (disch := first | omega | assumption | (simp only [rL, Nat.reduceAdd]; try omega)) only [↓rA, rZ, List.drop_succ_cons, ne_eq, not_true_eq_false, not_false_eq_true, List.getElem?_cons_zero, List.getElem?_cons_succ, ev, ofConst, ofCell, ↓reduceIte, Nat.reduceEqDiff, Nat.reduceAdd, Nat.reduceSub, Nat.reduceMul, Nat.reduceLeDiff, Nat.reduceLT, Int.reduceNeg, Int.reduceToNat, Int.reduceAdd, Int.reduceSub, Int.reduceMul, Int.reduceLT, Int.reduceLE, Int.reduceEq, Int.reduceNe, asrtA_yes, asrtA_no, strV, putAt_full]
    refine newK_intro fun l1 n1 => ?_
    simp (dsimp := false) (implicitDefEqProofs := false) (disch := first | omega | assumption | (simp only [rL, Nat.reduceAdd]; try omega)) only [↓rA, rZ, List.drop_succ_cons, ne_eq, not_true_eq_false, not_false_eq_true, List.getElem?_cons_zero, List.getElem?_cons_succ, ev, ofConst, ofCell, ↓reduceIte, Nat.reduceEqDiff, Nat.reduceAdd, Nat.reduceSub, Nat.reduceMul, Nat.reduceLeDiff, Nat.reduceLT, Int.reduceNeg, Int.reduceToNat, Int.reduceAdd, Int.reduceSub, Int.reduceMul, Int.reduceLT, Int.reduceLE, Int.reduceEq, Int.reduceNe, asrtA_yes, asrtA_no, strV, putAt_full]
    refine newK_intro fun l2 n2 => ?_
    simp (dsimp := false) (implicitDefEqProofs := false) (disch := first | omega | assumption | (simp only [rL, Nat.reduceAdd]; try omega)) only [↓rA, rZ, List.drop_succ_cons, ne_eq, not_true_eq_false, not_false_eq_true, List.getElem?_cons_zero, List.getElem?_cons_succ, ev, ofConst, ofCell, ↓reduceIte, Nat.reduceEqDiff, Nat.reduceAdd, Nat.reduceSub, Nat.reduceMul, Nat.reduceLeDiff, Nat.reduceLT, Int.reduceNeg, Int.reduceToNat, Int.reduceAdd, Int.reduceSub, Int.reduceMul, Int.reduceLT, Int.reduceLE, Int.reduceEq, Int.reduceNe, asrtA_yes, asrtA_no, strV, putAt_full]
    refine newK_intro fun l3 n3 => ?_
    simp (dsimp := false) (implicitDefEqProofs := false) (disch := first | omega | assumption | (simp only [rL, Nat.reduceAdd]; try omega)) only [↓rA, rZ, List.drop_succ_cons, ne_eq, not_true_eq_false, not_false_eq_true, List.getElem?_cons_zero, List.getElem?_cons_succ, ev, ofConst, ofCell, ↓reduceIte, Nat.reduceEqDiff, Nat.reduceAdd, Nat.reduceSub, Nat.reduceMul, Nat.reduceLeDiff, Nat.reduceLT, Int.reduceNeg, Int.reduceToNat, Int.reduceAdd, Int.reduceSub, Int.reduceMul, Int.reduceLT, Int.reduceLE, Int.reduceEq, Int.reduceNe, asrtA_yes, asrtA_no, strV, putAt_full]
    exact ⟨_, Hp.sub_refl, sub_then (sub_then (sub_then (sub_then Hp.sub_refl n0) n1) n2) n3, rfl⟩
  | update t c d =>
    obtain ⟨c', d', ⟨av, o, hA, rfl⟩, ⟨aw, ow, hB, rfl⟩, rfl⟩ := h
    have k0 : (97 : TypeId) ≠ 89 := by decide
    have k1 : (97 : TypeId) ≠ 91 := by decide
    have k2 : (97 : TypeId) ≠ 93 := by decide
    have k3 : (97 : TypeId) ≠ 95 := by decide
    simp (dsimp := false) (implicitDefEqProofs := false) (disch := first | omega | assumption | (simp only [rL, Nat.reduceAdd]; try omega)) only [↓rA, rZ, List.drop_succ_cons, ne_eq, not_true_eq_false, not_false_eq_true, List.getElem?_cons_zero, List.getElem?_cons_succ, ev, ofConst, ofCell, ↓reduceIte, Nat.reduceEqDiff, Nat.reduceAdd, Nat.reduceSub, Nat.reduceMul, Nat.reduceLeDiff, Nat.reduceLT, Int.reduceNeg, Int.reduceToNat, Int.reduceAdd, Int.reduceSub, Int.reduceMul, Int.reduceLT, Int.reduceLE, Int.reduceEq, Int.reduceNe, asrtA_yes, asrtA_no, strV, putAt_full]
    refine newK_intro fun l0 n0 => ?_
    simp (dsimp := false) (implicitDefEqProofs := false) (disch := first | omega | assumption | (simp only [rL, Nat.reduceAdd]; try omega)) only [↓rA, rZ, List.drop_succ_cons, ne_eq, not_true_eq_false, not_false_eq_true, List.getElem?_cons_zero, List.getElem?_cons_succ, ev, ofConst, ofCell, ↓reduceIte, Nat.reduceEqDiff, Nat.reduceAdd, Nat.reduceSub, Nat.reduceMul, Nat.reduceLeDiff, Nat.reduceLT, Int.reduceNeg, Int.reduceToNat, Int.reduceAdd, Int.reduceSub, Int.reduceMul, Int.reduceLT, Int.reduceLE, Int.reduceEq, Int.reduceNe, asrtA_yes, asrtA_no, strV, putAt_full]
    refine newK_intro fun l1 n1 => ?_
    simp (dsimp := false) (implicitDefEqProofs := false) (disch := first | omega | assumption | (simp only [rL, Nat.reduceAdd]; try omega)) only [↓rA, rZ, List.drop_succ_cons, ne_eq, not_true_eq_false, not_false_eq_true, List.getElem?_cons_zero, List.getElem?_cons_succ, ev, ofConst, ofCell, ↓reduceIte, Nat.reduceEqDiff, Nat.reduceAdd, Nat.reduceSub, Nat.reduceMul, Nat.reduceLeDiff, Nat.reduceLT, Int.reduceNeg, Int.reduceToNat, Int.reduceAdd, Int.reduceSub, Int.reduceMul, Int.reduceLT, Int.reduceLE, Int.reduceEq, Int.reduceNe, asrtA_yes, asrtA_no, strV, putAt_full]
    refine newK_intro fun l2 n2 => ?_
    simp (dsimp := false) (implicitDefEqProofs := false) (disch := first | omega | assumption | (simp only [rL, Nat.reduceAdd]; try omega)) only [↓rA, rZ, List.drop_succ_cons, ne_eq, not_true_eq_false, not_false_eq_true, List.getElem?_cons_zero, List.getElem?_cons_succ, ev, ofConst, ofCell, ↓reduceIte, Nat.reduceEqDiff, Nat.reduceAdd, Nat.reduceSub, Nat.reduceMul, Nat.reduceLeDiff, Nat.reduceLT, Int.reduceNeg, Int.reduceToNat, Int.reduceAdd, Int.reduceSub, Int.reduceMul, Int.reduceLT, Int.reduceLE, Int.reduceEq, Int.reduceNe, asrtA_yes, asrtA_no, strV, putAt_full]
    refine newK_intro fun l3 n3 => ?_
    simp (dsimp := false) (implicitDefEqProofs := false) (disch := first | omega | assumption | (simp only [rL, Nat.reduceAdd]; try omega)) only [↓rA, rZ, List.drop_succ_cons, ne_eq, not_true_eq_false, not_false_eq_true, List.getElem?_cons_zero, List.getElem?_cons_succ, ev, ofConst, ofCell, ↓reduceIte, Nat.reduceEqDiff, Nat.reduceAdd, Nat.reduceSub, Nat.reduceMul, Nat.reduceLeDiff, Nat.reduceLT, Int.reduceNeg, Int.reduceToNat, Int.reduceAdd, Int.reduceSub, Int.reduceMul, Int.reduceLT, Int.reduceLE, Int.reduceEq, Int.reduceNe, asrtA_yes, asrtA_no, strV, putAt_full]
    refine newK_intro fun l4 n4 => ?_
    simp (dsimp := false) (implicitDefEqProofs := false) (disch := first | omega | assumption | (simp only [rL, Nat.reduceAdd]; try omega)) only [↓rA, rZ, List.drop_succ_cons, ne_eq, not_true_eq_false, not_false_eq_true, List.getElem?_cons_zero, List.getElem?_cons_succ, ev, ofConst, ofCell, ↓reduceIte, Nat.reduceEqDiff, Nat.reduceAdd, Nat.reduceSub, Nat.reduceMul, Nat.reduceLeDiff, Nat.reduceLT, Int.reduceNeg, Int.reduceToNat, Int.reduceAdd, Int.reduceSub, Int.reduceMul, Int.reduceLT, Int.reduceLE, Int.reduceEq, Int.reduceNe, asrtA_yes, asrtA_no, strV, putAt_full]
    exact ⟨_, Hp.sub_refl, sub_then (sub_then (sub_then (sub_then (sub_then Hp.sub_refl n0) n1) n2) n3) n4, rfl⟩
  | sel x =>
    obtain ⟨c', p', ⟨av, o, hA, rfl⟩, ⟨ap, op, hP, rfl⟩, rfl⟩ := h
    have k0 : (99 : TypeId) ≠ 89 := by decide
    have k1 : (99 : TypeId) ≠ 91 := by decide
    have k2 : (99 : TypeId) ≠ 93 := by decide
    have k3 : (99 : TypeId) ≠ 95 := by decide
    have k4 : (99 : TypeId) ≠ 97 := by decide
    simp (dsimp := false) (implicitDefEqProofs := false) (disch := first | omega | assumption | (simp only [rL, Nat.reduceAdd]; try omega)) only [↓rA, rZ, List.drop_succ_cons, ne_eq, not_true_eq_false, not_false_eq_true, List.getElem?_cons_zero, List.getElem?_cons_succ, ev, ofConst, ofCell, ↓reduceIte, Nat.reduceEqDiff, Nat.reduceAdd, Nat.reduceSub, Nat.reduceMul, Nat.reduceLeDiff, Nat.reduceLT, Int.reduceNeg, Int.reduceToNat, Int.reduceAdd, Int.reduceSub, Int.reduceMul, Int.reduceLT, Int.reduceLE, Int.reduceEq, Int.reduceNe, asrtA_yes, asrtA_no, strV, putAt_full]
    refine newK_intro fun l0 n0 => ?_
    simp (dsimp := false) (implicitDefEqProofs := false) (disch := first | omega | assumption | (simp only [rL, Nat.reduceAdd]; try omega)) only [↓rA, rZ, List.drop_succ_cons, ne_eq, not_true_eq_false, not_false_eq_true, List.getElem?_cons_zero, List.getElem?_cons_succ, ev, ofConst, ofCell, ↓reduceIte, Nat.reduceEqDiff, Nat.reduceAdd, Nat.reduceSub, Nat.reduceMul, Nat.reduceLeDiff, Nat.reduceLT, Int.reduceNeg, Int.reduceToNat, Int.reduceAdd, Int.reduceSub, Int.reduceMul, Int.reduceLT, Int.reduceLE, Int.reduceEq, Int.reduceNe, asrtA_yes, asrtA_no, strV, putAt_full]
    refine newK_intro fun l1 n1 => ?_
    simp (dsimp := false) (implicitDefEqProofs := false) (disch := first | omega | assumption | (simp only [rL, Nat.reduceAdd]; try omega)) only [↓rA, rZ, List.drop_succ_cons, ne_eq, not_true_eq_false, not_false_eq_true, List.getElem?_cons_zero, List.getElem?_cons_succ, ev, ofConst, ofCell, ↓reduceIte, Nat.reduceEqDiff, Nat.reduceAdd, Nat.reduceSub, Nat.reduceMul, Nat.reduceLeDiff, Nat.reduceLT, Int.reduceNeg, Int.reduceToNat, Int.reduceAdd, Int.reduceSub, Int.reduceMul, Int.reduceLT, Int.reduceLE, Int.reduceEq, Int.reduceNe, asrtA_yes, asrtA_no, strV, putAt_full]
    refine newK_intro fun l2 n2 => ?_
    simp (dsimp := false) (implicitDefEqProofs := false) (disch := first | omega | assumption | (simp only [rL, Nat.reduceAdd]; try omega)) only [↓rA, rZ, List.drop_succ_cons, ne_eq, not_true_eq_false, not_false_eq_true, List.getElem?_cons_zero, List.getElem?_cons_succ, ev, ofConst, ofCell, ↓reduceIte, Nat.reduceEqDiff, Nat.reduceAdd, Nat.reduceSub, Nat.reduceMul, Nat.reduceLeDiff, Nat.reduceLT, Int.reduceNeg, Int.reduceToNat, Int.reduceAdd, Int.reduceSub, Int.reduceMul, Int.reduceLT, Int.reduceLE, Int.reduceEq, Int.reduceNe, asrtA_yes, asrtA_no, strV, putAt_full]
    refine newK_intro fun l3 n3 => ?_
    simp (dsimp := false) (implicitDefEqProofs := false) (disch := first | omega | assumption | (simp only [rL, Nat.reduceAdd]; try omega)) only [↓rA, rZ, List.drop_succ_cons, ne_eq, not_true_eq_false, not_false_eq_true, List.getElem?_cons_zero, List.getElem?_cons_succ, ev, ofConst, ofCell, ↓reduceIte, Nat.reduceEqDiff, Nat.reduceAdd, Nat.reduceSub, Nat.reduceMul, Nat.reduceLeDiff, Nat.reduceLT, Int.reduceNeg, Int.reduceToNat, Int.reduceAdd, Int.reduceSub, Int.reduceMul, Int.reduceLT, Int.reduceLE, Int.reduceEq, Int.reduceNe, asrtA_yes, asrtA_no, strV, putAt_full]
    refine newK_intro fun l4 n4 => ?_
    simp (dsimp := false) (implicitDefEqProofs := false) (disch := first | omega | assumption | (simp only [rL, Nat.reduceAdd]; try omega)) only [↓rA, rZ, List.drop_succ_cons, ne_eq, not_true_eq_false, not_false_eq_true, List.getElem?_cons_zero, List.getElem?_cons_succ, ev, ofConst, ofCell, ↓reduceIte, Nat.reduceEqDiff, Nat.reduceAdd, Nat.reduceSub, Nat.reduceMul, Nat.reduceLeDiff, Nat.reduceLT, Int.reduceNeg, Int.reduceToNat, Int.reduceAdd, Int.reduceSub, Int.reduceMul, Int.reduceLT, Int.reduceLE, Int.reduceEq, Int.reduceNe, asrtA_yes, asrtA_no, strV, putAt_full]
    refine newK_intro fun l5 n5 => ?_
    simp (dsimp := false) (implicitDefEqProofs := false) (disch := first | omega | assumption | (simp only [rL, Nat.reduceAdd]; try omega)) only [↓rA, rZ, List.drop_succ_cons, ne_eq, not_true_eq_false, not_false_eq_true, List.getElem?_cons_zero, List.getElem?_cons_succ, ev, ofConst, ofCell, ↓reduceIte, Nat.reduceEqDiff, Nat.reduceAdd, Nat.reduceSub, Nat.reduceMul, Nat.reduceLeDiff, Nat.reduceLT, Int.reduceNeg, Int.reduceToNat, Int.reduceAdd, Int.reduceSub, Int.reduceMul, Int.reduceLT, Int.reduceLE, Int.reduceEq, Int.reduceNe, asrtA_yes, asrtA_no, strV, putAt_full]
    exact ⟨_, Hp.sub_refl, sub_then (sub_then (sub_then (sub_then (sub_then (sub_then Hp.sub_refl n0) n1) n2) n3) n4) n5, rfl⟩
  | tx k =>
    obtain rfl := h
    have k0 : (101 : TypeId) ≠ 89 := by decide
    have k1 : (101 : TypeId) ≠ 91 := by decide
    have k2 : (101 : TypeId) ≠ 93 := by decide
    have k3 : (101 : TypeId) ≠ 95 := by decide
    have k4 : (101 : TypeId) ≠ 97 := by decide
    have k5 : (101 : TypeId) ≠ 99 := by decide
    simp (dsimp := false) (implicitDefEqProofs := false) (disch := first | omega | assumption | (simp only [rL, Nat.reduceAdd]; try omega)) only [↓rA, rZ, List.drop_succ_cons, ne_eq, not_true_eq_false, not_false_eq_true, List.getElem?_cons_zero, List.getElem?_cons_succ, ev, ofConst, ofCell, ↓reduceIte, Nat.reduceEqDiff, Nat.reduceAdd, Nat.reduceSub, Nat.reduceMul, Nat.reduceLeDiff, Nat.reduceLT, Int.reduceNeg, Int.reduceToNat, Int.reduceAdd, Int.reduceSub, Int.reduceMul, Int.reduceLT, Int.reduceLE, Int.reduceEq, Int.reduceNe, asrtA_yes, asrtA_no, strV, putAt_full]
    refine newK_intro fun l0 n0 => ?_
    simp (dsimp := false) (implicitDefEqProofs := false) (disch := first | omega | assumption | (simp only [rL, Nat.reduceAdd]; try omega)) only [↓rA, rZ, List.drop_succ_cons, ne_eq, not_true_eq_false, not_false_eq_true, List.getElem?_cons_zero, List.getElem?_cons_succ, ev, ofConst, ofCell, ↓reduceIte, Nat.reduceEqDiff, Nat.reduceAdd, Nat.reduceSub, Nat.reduceMul, Nat.reduceLeDiff, Nat.reduceLT, Int.reduceNeg, Int.reduceToNat, Int.reduceAdd, Int.reduceSub, Int.reduceMul, Int.reduceLT, Int.reduceLE, Int.reduceEq, Int.reduceNe, asrtA_yes, asrtA_no, strV, putAt_full]
    refine newK_intro fun l1 n1 => ?_
    simp (dsimp := false) (implicitDefEqProofs := false) (disch := first | omega | assumption | (simp only [rL, Nat.reduceAdd]; try omega)) only [↓rA, rZ, List.drop_succ_cons, ne_eq, not_true_eq_false, not_false_eq_true, List.getElem?_cons_zero, List.getElem?_cons_succ, ev, ofConst, ofCell, ↓reduceIte, Nat.reduceEqDiff, Nat.reduceAdd, Nat.reduceSub, Nat.reduceMul, Nat.reduceLeDiff, Nat.reduceLT, Int.reduceNeg, Int.reduceToNat, Int.reduceAdd, Int.reduceSub, Int.reduceMul, Int.reduceLT, Int.reduceLE, Int.reduceEq, Int.reduceNe, asrtA_yes, asrtA_no, strV, putAt_full]
    refine newK_intro fun l2 n2 => ?_
    simp (dsimp := false) (implicitDefEqProofs := false) (disch := first | omega | assumption | (simp only [rL, Nat.reduceAdd]; try omega)) only [↓rA, rZ, List.drop_succ_cons, ne_eq, not_true_eq_false, not_false_eq_true, List.getElem?_cons_zero, List.getElem?_cons_succ, ev, ofConst, ofCell, ↓reduceIte, Nat.reduceEqDiff, Nat.reduceAdd, Nat.reduceSub, Nat.reduceMul, Nat.reduceLeDiff, Nat.reduceLT, Int.reduceNeg, Int.reduceToNat, Int.reduceAdd, Int.reduceSub, Int.reduceMul, Int.reduceLT, Int.reduceLE, Int.reduceEq, Int.reduceNe, asrtA_yes, asrtA_no, strV, putAt_full]
    refine newK_intro fun l3 n3 => ?_
    simp (dsimp := false) (implicitDefEqProofs := false) (disch := first | omega | assumption | (simp only [rL, Nat.reduceAdd]; try omega)) only [↓rA, rZ, List.drop_succ_cons, ne_eq, not_true_eq_false, not_false_eq_true, List.getElem?_cons_zero, List.getElem?_cons_succ, ev, ofConst, ofCell, ↓reduceIte, Nat.reduceEqDiff, Nat.reduceAdd, Nat.reduceSub, Nat.reduceMul, Nat.reduceLeDiff, Nat.reduceLT, Int.reduceNeg, Int.reduceToNat, Int.reduceAdd, Int.reduceSub, Int.reduceMul, Int.reduceLT, Int.reduceLE, Int.reduceEq, Int.reduceNe, asrtA_yes, asrtA_no, strV, putAt_full]
    refine newK_intro fun l4 n4 => ?_
    simp (dsimp := false) (implicitDefEqProofs := false) (disch := first | omega | assumption | (simp only [rL, Nat.reduceAdd]; try omega)) only [↓rA, rZ, List.drop_succ_cons, ne_eq, not_true_eq_false, not_false_eq_true, List.getElem?_cons_zero, List.getElem?_cons_succ, ev, ofConst, ofCell, ↓reduceIte, Nat.reduceEqDiff, Nat.reduceAdd, Nat.reduceSub, Nat.reduceMul, Nat.reduceLeDiff, Nat.reduceLT, Int.reduceNeg, Int.reduceToNat, Int.reduceAdd, Int.reduceSub, Int.reduceMul, Int.reduceLT, Int.reduceLE, Int.reduceEq, Int.reduceNe, asrtA_yes, asrtA_no, strV, putAt_full]
    refine newK_intro fun l5 n5 => ?_
    simp (dsimp := false) (implicitDefEqProofs := false) (disch := first | omega | assumption | (simp only [rL, Nat.reduceAdd]; try omega)) only [↓rA, rZ, List.drop_succ_cons, ne_eq, not_true_eq_false, not_false_eq_true, List.getElem?_cons_zero, List.getElem?_cons_succ, ev, ofConst, ofCell, ↓reduceIte, Nat.reduceEqDiff, Nat.reduceAdd, Nat.reduceSub, Nat.reduceMul, Nat.reduceLeDiff, Nat.reduceLT, Int.reduceNeg, Int.reduceToNat, Int.reduceAdd, Int.reduceSub, Int.reduceMul, Int.reduceLT, Int.reduceLE, Int.reduceEq, Int.reduceNe, asrtA_yes, asrtA_no, strV, putAt_full]
    refine newK_intro fun l6 n6 => ?_
    simp (dsimp := false) (implicitDefEqProofs := false) (disch := first | omega | assumption | (simp only [rL, Nat.reduceAdd]; try omega)) only [↓rA, rZ, List.drop_succ_cons, ne_eq, not_true_eq_false, not_false_eq_true, List.getElem?_cons_zero, List.getElem?_cons_succ, ev, ofConst, ofCell, ↓reduceIte, Nat.reduceEqDiff, Nat.reduceAdd, Nat.reduceSub, Nat.reduceMul, Nat.reduceLeDiff, Nat.reduceLT, Int.reduceNeg, Int.reduceToNat, Int.reduceAdd, Int.reduceSub, Int.reduceMul, Int.reduceLT, Int.reduceLE, Int.reduceEq, Int.reduceNe, asrtA_yes, asrtA_no, strV, putAt_full]
    exact ⟨_, Hp.sub_refl, sub_then (sub_then (sub_then (sub_then (sub_then (sub_then (sub_then Hp.sub_refl n0) n1) n2) n3) n4) n5) n6, rfl⟩
def NoStm (a : AV) : Prop := a = .v .nilIface ∨ ∃ (T : TypeId) (v : AV), a = .iface T v ∧ T ≠ 89 ∧ T ≠ 91 ∧ T ≠ 93 ∧ T ≠ 95 ∧ T ≠ 97 ∧ T ≠ 99 ∧ T ≠ 101
def msgV : AV := .iface 9 (.v (.string ⟨#[110, 111, 32, 115, 116, 97, 116, 101, 109, 101, 110, 116]⟩))
theorem Table_none (a : AV) (h : NoStm a) (s : Hp) : ACp Tryz.prog 37 [a] s (fun _ _ => False) (up fun r s' => r = msgV ∧ s.sub s') := by
  refine ACp_run hm prep37 (by simp) ?_
  rcases h with rfl | ⟨T, v, rfl, k0, k1, k2, k3, k4, k5, k6⟩
  · simp (dsimp := false) (implicitDefEqProofs := false) (disch := first | omega | assumption | (simp only [rL, Nat.reduceAdd]; try omega)) only [↓rA, rZ, List.drop_succ_cons, ne_eq, not_true_eq_false, not_false_eq_true, List.getElem?_cons_zero, List.getElem?_cons_succ, ev, ofConst, ofCell, ↓reduceIte, Nat.reduceEqDiff, Nat.reduceAdd, Nat.reduceSub, Nat.reduceMul, Nat.reduceLeDiff, Nat.reduceLT, Int.reduceNeg, Int.reduceToNat, Int.reduceAdd, Int.reduceSub, Int.reduceMul, Int.reduceLT, Int.reduceLE, Int.reduceEq, Int.reduceNe, asrtA_nil]
    refine newK_intro fun l0 n0 => ?_
    simp (dsimp := false) (implicitDefEqProofs := false) (disch := first | omega | assumption | (simp only [rL, Nat.reduceAdd]; try omega)) only [↓rA, rZ, List.drop_succ_cons, ne_eq, not_true_eq_false, not_false_eq_true, List.getElem?_cons_zero, List.getElem?_cons_succ, ev, ofConst, ofCell, ↓reduceIte, Nat.reduceEqDiff, Nat.reduceAdd, Nat.reduceSub, Nat.reduceMul, Nat.reduceLeDiff, Nat.reduceLT, Int.reduceNeg, Int.reduceToNat, Int.reduceAdd, Int.reduceSub, Int.reduceMul, Int.reduceLT, Int.reduceLE, Int.reduceEq, Int.reduceNe, asrtA_nil, asrtA_no, putAt_full]
    refine newK_intro fun l1 n1 => ?_
    simp (dsimp := false) (implicitDefEqProofs := false) (disch := first | omega | assumption | (simp only [rL, Nat.reduceAdd]; try omega)) only [↓rA, rZ, List.drop_succ_cons, ne_eq, not_true_eq_false, not_false_eq_true, List.getElem?_cons_zero, List.getElem?_cons_succ, ev, ofConst, ofCell, ↓reduceIte, Nat.reduceEqDiff, Nat.reduceAdd, Nat.reduceSub, Nat.reduceMul, Nat.reduceLeDiff, Nat.reduceLT, Int.reduceNeg, Int.reduceToNat, Int.reduceAdd, Int.reduceSub, Int.reduceMul, Int.reduceLT, Int.reduceLE, Int.reduceEq, Int.reduceNe, asrtA_nil, asrtA_no, putAt_full]
    refine newK_intro fun l2 n2 => ?_
    simp (dsimp := false) (implicitDefEqProofs := false) (disch := first | omega | assumption | (simp only [rL, Nat.reduceAdd]; try omega)) only [↓rA, rZ, List.drop_succ_cons, ne_eq, not_true_eq_false, not_false_eq_true, List.getElem?_cons_zero, List.getElem?_cons_succ, ev, ofConst, ofCell, ↓reduceIte, Nat.reduceEqDiff, Nat.reduceAdd, Nat.reduceSub, Nat.reduceMul, Nat.reduceLeDiff, Nat.reduceLT, Int.reduceNeg, Int.reduceToNat, Int.reduceAdd, Int.reduceSub, Int.reduceMul, Int.reduceLT, Int.reduceLE, Int.reduceEq, Int.reduceNe, asrtA_nil, asrtA_no, putAt_full]
    refine newK_intro fun l3 n3 => ?_
    simp (dsimp := false) (implicitDefEqProofs := false) (disch := first | omega | assumption | (simp only [rL, Nat.reduceAdd]; try omega)) only [↓rA, rZ, List.drop_succ_cons, ne_eq, not_true_eq_false, not_false_eq_true, List.getElem?_cons_zero, List.getElem?_cons_succ, ev, ofConst, ofCell, ↓reduceIte, Nat.reduceEqDiff, Nat.reduceAdd, Nat.reduceSub, Nat.reduceMul, Nat.reduceLeDiff, Nat.reduceLT, Int.reduceNeg, Int.reduceToNat, Int.reduceAdd, Int.reduceSub, Int.reduceMul, Int.reduceLT, Int.reduceLE, Int.reduceEq, Int.reduceNe, asrtA_nil, asrtA_no, putAt_full]
    refine newK_intro fun l4 n4 => ?_
    simp (dsimp := false) (implicitDefEqProofs := false) (disch := first | omega | assumption | (simp only [rL, Nat.reduceAdd]; try omega)) only [↓rA, rZ, List.drop_succ_cons, ne_eq, not_true_eq_false, not_false_eq_true, List.getElem?_cons_zero, List.getElem?_cons_succ, ev, ofConst, ofCell, ↓reduceIte, Nat.reduceEqDiff, Nat.reduceAdd, Nat.reduceSub, Nat.reduceMul, Nat.reduceLeDiff, Nat.reduceLT, Int.reduceNeg, Int.reduceToNat, Int.reduceAdd, Int.reduceSub, Int.reduceMul, Int.reduceLT, Int.reduceLE, Int.reduceEq, Int.reduceNe, asrtA_nil, asrtA_no, putAt_full]
    refine newK_intro fun l5 n5 => ?_
    simp (dsimp := false) (implicitDefEqProofs := false) (disch := first | omega | assumption | (simp only [rL, Nat.reduceAdd]; try omega)) only [↓rA, rZ, List.drop_succ_cons, ne_eq, not_true_eq_false, not_false_eq_true, List.getElem?_cons_zero, List.getElem?_cons_succ, ev, ofConst, ofCell, ↓reduceIte, Nat.reduceEqDiff, Nat.reduceAdd, Nat.reduceSub, Nat.reduceMul, Nat.reduceLeDiff, Nat.reduceLT, Int.reduceNeg, Int.reduceToNat, Int.reduceAdd, Int.reduceSub, Int.reduceMul, Int.reduceLT, Int.reduceLE, Int.reduceEq, Int.reduceNe, asrtA_nil, asrtA_no, putAt_full]
    refine newK_intro fun l6 n6 => ?_
    simp (dsimp := false) (implicitDefEqProofs := false) (disch := first | omega | assumption | (simp only [rL, Nat.reduceAdd]; try omega)) only [↓rA, rZ, List.drop_succ_cons, ne_eq, not_true_eq_false, not_false_eq_true, List.getElem?_cons_zero, List.getElem?_cons_succ, ev, ofConst, ofCell, ↓reduceIte, Nat.reduceEqDiff, Nat.reduceAdd, Nat.reduceSub, Nat.reduceMul, Nat.reduceLeDiff, Nat.reduceLT, Int.reduceNeg, Int.reduceToNat, Int.reduceAdd, Int.reduceSub, Int.reduceMul, Int.reduceLT, Int.reduceLE, Int.reduceEq, Int.reduceNe, asrtA_nil, asrtA_no, putAt_full]
    exact pan_intro ⟨rfl, sub_then (sub_then (sub_then (sub_then (sub_then (sub_then (sub_then Hp.sub_refl n0) n1) n2) n3) n4) n5) n6⟩
  · simp (dsimp := false) (implicitDefEqProofs := false) (disch := first | omega | assumption | (simp only [rL, Nat.reduceAdd]; try omega)) only [↓rA, rZ, List.drop_succ_cons, ne_eq, not_true_eq_false, not_false_eq_true, List.getElem?_cons_zero, List.getElem?_cons_succ, ev, ofConst, ofCell, ↓reduceIte, Nat.reduceEqDiff, Nat.reduceAdd, Nat.reduceSub, Nat.reduceMul, Nat.reduceLeDiff, Nat.reduceLT, Int.reduceNeg, Int.reduceToNat, Int.reduceAdd, Int.reduceSub, Int.reduceMul, Int.reduceLT, Int.reduceLE, Int.reduceEq, Int.reduceNe, asrtA_no]
    refine newK_intro fun l0 n0 => ?_
    simp (dsimp := false) (implicitDefEqProofs := false) (disch := first | omega | assumption | (simp only [rL, Nat.reduceAdd]; try omega)) only [↓rA, rZ, List.drop_succ_cons, ne_eq, not_true_eq_false, not_false_eq_true, List.getElem?_cons_zero, List.getElem?_cons_succ, ev, ofConst, ofCell, ↓reduceIte, Nat.reduceEqDiff, Nat.reduceAdd, Nat.reduceSub, Nat.reduceMul, Nat.reduceLeDiff, Nat.reduceLT, Int.reduceNeg, Int.reduceToNat, Int.reduceAdd, Int.reduceSub, Int.reduceMul, Int.reduceLT, Int.reduceLE, Int.reduceEq, Int.reduceNe, asrtA_nil, asrtA_no, putAt_full]
    refine newK_intro fun l1 n1 => ?_
    simp (dsimp := false) (implicitDefEqProofs := false) (disch := first | omega | assumption | (simp only [rL, Nat.reduceAdd]; try omega)) only [↓rA, rZ, List.drop_succ_cons, ne_eq, not_true_eq_false, not_false_eq_true, List.getElem?_cons_zero, List.getElem?_cons_succ, ev, ofConst, ofCell, ↓reduceIte, Nat.reduceEqDiff, Nat.reduceAdd, Nat.reduceSub, Nat.reduceMul, Nat.reduceLeDiff, Nat.reduceLT, Int.reduceNeg, Int.reduceToNat, Int.reduceAdd, Int.reduceSub, Int.reduceMul, Int.reduceLT, Int.reduceLE, Int.reduceEq, Int.reduceNe, asrtA_nil, asrtA_no, putAt_full]
    refine newK_intro fun l2 n2 => ?_
    simp (dsimp := false) (implicitDefEqProofs := false) (disch := first | omega | assumption | (simp only [rL, Nat.reduceAdd]; try omega)) only [↓rA, rZ, List.drop_succ_cons, ne_eq, not_true_eq_false, not_false_eq_true, List.getElem?_cons_zero, List.getElem?_cons_succ, ev, ofConst, ofCell, ↓reduceIte, Nat.reduceEqDiff, Nat.reduceAdd, Nat.reduceSub, Nat.reduceMul, Nat.reduceLeDiff, Nat.reduceLT, Int.reduceNeg, Int.reduceToNat, Int.reduceAdd, Int.reduceSub, Int.reduceMul, Int.reduceLT, Int.reduceLE, Int.reduceEq, Int.reduceNe, asrtA_nil, asrtA_no, putAt_full]
    refine newK_intro fun l3 n3 => ?_
    simp (dsimp := false) (implicitDefEqProofs := false) (disch := first | omega | assumption | (simp only [rL, Nat.reduceAdd]; try omega)) only [↓rA, rZ, List.drop_succ_cons, ne_eq, not_true_eq_false, not_false_eq_true, List.getElem?_cons_zero, List.getElem?_cons_succ, ev, ofConst, ofCell, ↓reduceIte, Nat.reduceEqDiff, Nat.reduceAdd, Nat.reduceSub, Nat.reduceMul, Nat.reduceLeDiff, Nat.reduceLT, Int.reduceNeg, Int.reduceToNat, Int.reduceAdd, Int.reduceSub, Int.reduceMul, Int.reduceLT, Int.reduceLE, Int.reduceEq, Int.reduceNe, asrtA_nil, asrtA_no, putAt_full]
    refine newK_intro fun l4 n4 => ?_
    simp (dsimp := false) (implicitDefEqProofs := false) (disch := first | omega | assumption | (simp only [rL, Nat.reduceAdd]; try omega)) only [↓rA, rZ, List.drop_succ_cons, ne_eq, not_true_eq_false, not_false_eq_true, List.getElem?_cons_zero, List.getElem?_cons_succ, ev, ofConst, ofCell, ↓reduceIte, Nat.reduceEqDiff, Nat.reduceAdd, Nat.reduceSub, Nat.reduceMul, Nat.reduceLeDiff, Nat.reduceLT, Int.reduceNeg, Int.reduceToNat, Int.reduceAdd, Int.reduceSub, Int.reduceMul, Int.reduceLT, Int.reduceLE, Int.reduceEq, Int.reduceNe, asrtA_nil, asrtA_no, putAt_full]
    refine newK_intro fun l5 n5 => ?_
    simp (dsimp := false) (implicitDefEqProofs := false) (disch := first | omega | assumption | (simp only [rL, Nat.reduceAdd]; try omega)) only [↓rA, rZ, List.drop_succ_cons, ne_eq, not_true_eq_false, not_false_eq_true, List.getElem?_cons_zero, List.getElem?_cons_succ, ev, ofConst, ofCell, ↓reduceIte, Nat.reduceEqDiff, Nat.reduceAdd, Nat.reduceSub, Nat.reduceMul, Nat.reduceLeDiff, Nat.reduceLT, Int.reduceNeg, Int.reduceToNat, Int.reduceAdd, Int.reduceSub, Int.reduceMul, Int.reduceLT, Int.reduceLE, Int.reduceEq, Int.reduceNe, asrtA_nil, asrtA_no, putAt_full]
    refine newK_intro fun l6 n6 => ?_
    simp (dsimp := false) (implicitDefEqProofs := false) (disch := first | omega | assumption | (simp only [rL, Nat.reduceAdd]; try omega)) only [↓rA, rZ, List.drop_succ_cons, ne_eq, not_true_eq_false, not_false_eq_true, List.getElem?_cons_zero, List.getElem?_cons_succ, ev, ofConst, ofCell, ↓reduceIte, Nat.reduceEqDiff, Nat.reduceAdd, Nat.reduceSub, Nat.reduceMul, Nat.reduceLeDiff, Nat.reduceLT, Int.reduceNeg, Int.reduceToNat, Int.reduceAdd, Int.reduceSub, Int.reduceMul, Int.reduceLT, Int.reduceLE, Int.reduceEq, Int.reduceNe, asrtA_nil, asrtA_no, putAt_full]
    exact pan_intro ⟨rfl, sub_then (sub_then (sub_then (sub_then (sub_then (sub_then (sub_then Hp.sub_refl n0) n1) n2) n3) n4) n5) n6⟩
/-! ### the deferred closure -/
theorem table1_ret (ln : Nat) (s : Hp) (Q : Hp → Prop) (hQ : Q s) : ACret Tryz.prog 36 [.ptr ln 0] s Q := by
  refine ACret_run hm prep36 (by simp) ?_
  simp (dsimp := false) (implicitDefEqProofs := false) (disch := first | omega | assumption | (simp only [rL, Nat.reduceAdd]; try omega)) only [↓rA, rZ, List.drop_succ_cons, ne_eq, not_true_eq_false, not_false_eq_true, List.getElem?_cons_zero, List.getElem?_cons_succ, ev, ofConst, ofCell, ↓reduceIte, Nat.reduceEqDiff, Nat.reduceAdd, Nat.reduceSub, Nat.reduceMul, Nat.reduceLeDiff, Nat.reduceLT, Int.reduceNeg, Int.reduceToNat, Int.reduceAdd, Int.reduceSub, Int.reduceMul, Int.reduceLT, Int.reduceLE, Int.reduceEq, Int.reduceNe, ↓rR]
  exact ⟨_, Hp.sub_refl, hQ⟩
theorem table1_rec (ln : Nat) (s : Hp) (b : AV) (h3 : s ln = some (.cells [b])) (Q : Hp → Prop) (hQ : Q (s.set ln (.cells [.v (.string ⟨#[110, 111, 32, 115, 116, 97, 116, 101, 109, 101, 110, 116]⟩)]))) :
    ACrec Tryz.prog 36 [.ptr ln 0] msgV s Q := by
  refine ACrec_run hm prep36 (by simp) ?_
  have e : msgV = .iface 9 (.v (.string ⟨#[110, 111, 32, 115, 116, 97, 116, 101, 109, 101, 110, 116]⟩)) := rfl
  rw [e]
  simp (dsimp := false) (implicitDefEqProofs := false) (disch := first | omega | assumption | (simp only [rL, Nat.reduceAdd]; try omega)) only [↓rA, rZ, List.drop_succ_cons, ne_eq, not_true_eq_false, not_false_eq_true, List.getElem?_cons_zero, List.getElem?_cons_succ, ev, ofConst, ofCell, ↓reduceIte, Nat.reduceEqDiff, Nat.reduceAdd, Nat.reduceSub, Nat.reduceMul, Nat.reduceLeDiff, Nat.reduceLT, Int.reduceNeg, Int.reduceToNat, Int.reduceAdd, Int.reduceSub, Int.reduceMul, Int.reduceLT, Int.reduceLE, Int.reduceEq, Int.reduceNe, ↓rR, asrtA_yes, Hp.stA_of h3, putAt_z1]
  exact ⟨_, Hp.sub_refl, hQ⟩
theorem resK_tc {f : Fr} {s : Hp} {R : AV → Hp → Prop} {l3 : Nat} {b : AV} (f3 : f 3 = .ptr l3 0) (h3 : s l3 = some (.cells [b])) (h : R (.tup [f 2, b]) s) :
    resK [(2, none), (3, some (false, 1))] R f s := by
  refine ⟨.tup [f 2, b], s, resAll_two rfl ?_, Hp.sub_refl, h⟩
  simp only [resG, f3, Hp.read_of h3]; rfl
theorem dfer_cutF {f : Fr} {s : Hp} {p : Program} {post : ACode} {rs : List (Nat × Option (Bool × Nat))} {R : AV → Hp → Prop} {n : FuncId} {ds cs : List AV} {free : List Nat} (hok : callOk p n = true)
    (h : ∀ f' Kp, f' = f → Kp = (fun r s' => ACrec p n (ds ++ cs) r s' (fun s'' => ∀ f2 : Fr, (∀ t, free.contains t = false → f2 t = f' t) → resK rs R f2 s'')) → awp ⟨p, Kp⟩ post (dretK p n (ds ++ cs) rs R) f' s) : dferV p post rs R free (.clo n ds cs) f s :=
  dfer_introF hok fun Kp hKp => h f Kp rfl hKp
theorem table_ok (x : Stm) (a : AV) (h : stmR x a) (s : Hp) : AC Tryz.prog 16 [a] s fun r s' => s.sub s' ∧ r = .tup [strV (tabOf x), .v (.string ⟨#[]⟩)] := by
  refine AC_drun hm prep16 (by simp) ?_
  simp (dsimp := false) (implicitDefEqProofs := false) (disch := first | omega | assumption | (simp only [rL, Nat.reduceAdd]; try omega)) only [↓rA, rZ, List.drop_succ_cons, ne_eq, not_true_eq_false, not_false_eq_true, List.getElem?_cons_zero, List.getElem?_cons_succ, ev, ofConst, ofCell, ↓reduceIte, Nat.reduceEqDiff, Nat.reduceAdd, Nat.reduceSub, Nat.reduceMul, Nat.reduceLeDiff, Nat.reduceLT, Int.reduceNeg, Int.reduceToNat, Int.reduceAdd, Int.reduceSub, Int.reduceMul, Int.reduceLT, Int.reduceLE, Int.reduceEq, Int.reduceNe, ↓rR]
  refine newK_intro fun l3 n3 => ?_
  have hs3 : s.sub (s.set l3 (.cells [.v (.string ⟨#[]⟩)])) := Hp.sub_new Hp.sub_refl n3
  simp (dsimp := false) (implicitDefEqProofs := false) (disch := first | omega | assumption | (simp only [rL, Nat.reduceAdd]; try omega)) only [↓rA, rZ, List.drop_succ_cons, ne_eq, not_true_eq_false, not_false_eq_true, List.getElem?_cons_zero, List.getElem?_cons_succ, ev, ofConst, ofCell, ↓reduceIte, Nat.reduceEqDiff, Nat.reduceAdd, Nat.reduceSub, Nat.reduceMul, Nat.reduceLeDiff, Nat.reduceLT, Int.reduceNeg, Int.reduceToNat, Int.reduceAdd, Int.reduceSub, Int.reduceMul, Int.reduceLT, Int.reduceLE, Int.reduceEq, Int.reduceNe, ↓rR]
  refine dfer_cutF (by kernel_rfl) fun f' Kp hf hKp => ?_
  have f0 : f' 0 = a := by rw [hf]; simp (dsimp := false) (implicitDefEqProofs := false) (disch := first | omega | assumption | (simp only [rL, Nat.reduceAdd]; try omega)) only [↓rA, rZ, List.drop_succ_cons, ne_eq, not_true_eq_false, not_false_eq_true, List.getElem?_cons_zero, List.getElem?_cons_succ, ev, ofConst, ofCell, ↓reduceIte, Nat.reduceEqDiff, Nat.reduceAdd, Nat.reduceSub, Nat.reduceMul, Nat.reduceLeDiff, Nat.reduceLT, Int.reduceNeg, Int.reduceToNat, Int.reduceAdd, Int.reduceSub, Int.reduceMul, Int.reduceLT, Int.reduceLE, Int.reduceEq, Int.reduceNe]
  have f3 : f' 3 = .ptr l3 0 := by rw [hf]; simp (dsimp := false) (implicitDefEqProofs := false) (disch := first | omega | assumption | (simp only [rL, Nat.reduceAdd]; try omega)) only [↓rA, rZ, List.drop_succ_cons, ne_eq, not_true_eq_false, not_false_eq_true, List.getElem?_cons_zero, List.getElem?_cons_succ, ev, ofConst, ofCell, ↓reduceIte, Nat.reduceEqDiff, Nat.reduceAdd, Nat.reduceSub, Nat.reduceMul, Nat.reduceLeDiff, Nat.reduceLT, Int.reduceNeg, Int.reduceToNat, Int.reduceAdd, Int.reduceSub, Int.reduceMul, Int.reduceLT, Int.reduceLE, Int.reduceEq, Int.reduceNe]
  clear hf
  simp (dsimp := false) (implicitDefEqProofs := false) (disch := first | omega | assumption | (simp only [rL, Nat.reduceAdd]; try omega)) only [↓rA, rZ, List.drop_succ_cons, ne_eq, not_true_eq_false, not_false_eq_true, List.getElem?_cons_zero, List.getElem?_cons_succ, ev, ofConst, ofCell, ↓reduceIte, Nat.reduceEqDiff, Nat.reduceAdd, Nat.reduceSub, Nat.reduceMul, Nat.reduceLeDiff, Nat.reduceLT, Int.reduceNeg, Int.reduceToNat, Int.reduceAdd, Int.reduceSub, Int.reduceMul, Int.reduceLT, Int.reduceLE, Int.reduceEq, Int.reduceNe, ↓rR, f0, f3]
  refine call_intro (Table_spec x a h _) ?_
  rintro _ s4 ⟨h4, rfl⟩
  have g4 := h4 _ _ (Hp.set_same _ _ _)
  simp (dsimp := false) (implicitDefEqProofs := false) (disch := first | omega | assumption | (simp only [rL, Nat.reduceAdd]; try omega)) only [↓rA, rZ, List.drop_succ_cons, ne_eq, not_true_eq_false, not_false_eq_true, List.getElem?_cons_zero, List.getElem?_cons_succ, ev, ofConst, ofCell, ↓reduceIte, Nat.reduceEqDiff, Nat.reduceAdd, Nat.reduceSub, Nat.reduceMul, Nat.reduceLeDiff, Nat.reduceLT, Int.reduceNeg, Int.reduceToNat, Int.reduceAdd, Int.reduceSub, Int.reduceMul, Int.reduceLT, Int.reduceLE, Int.reduceEq, Int.reduceNe, ↓rR, f0, f3, Hp.stA_of g4, putAt_z1]
  refine table1_ret l3 _ _ (resK_tc (l3 := l3) (b := .v (.string ⟨#[]⟩)) ?_ (Hp.set_same _ _ _) ⟨?_, ?_⟩)
  · simp (dsimp := false) (implicitDefEqProofs := false) (disch := first | omega | assumption | (simp only [rL, Nat.reduceAdd]; try omega)) only [↓rA, rZ, List.drop_succ_cons, ne_eq, not_true_eq_false, not_false_eq_true, List.getElem?_cons_zero, List.getElem?_cons_succ, ev, ofConst, ofCell, ↓reduceIte, Nat.reduceEqDiff, Nat.reduceAdd, Nat.reduceSub, Nat.reduceMul, Nat.reduceLeDiff, Nat.reduceLT, Int.reduceNeg, Int.reduceToNat, Int.reduceAdd, Int.reduceSub, Int.reduceMul, Int.reduceLT, Int.reduceLE, Int.reduceEq, Int.reduceNe, f3]
  · exact Hp.sub_new (Hp.sub_trans hs3 h4) n3
  · simp (dsimp := false) (implicitDefEqProofs := false) (disch := first | omega | assumption | (simp only [rL, Nat.reduceAdd]; try omega)) only [↓rA, rZ, List.drop_succ_cons, ne_eq, not_true_eq_false, not_false_eq_true, List.getElem?_cons_zero, List.getElem?_cons_succ, ev, ofConst, ofCell, ↓reduceIte, Nat.reduceEqDiff, Nat.reduceAdd, Nat.reduceSub, Nat.reduceMul, Nat.reduceLeDiff, Nat.reduceLT, Int.reduceNeg, Int.reduceToNat, Int.reduceAdd, Int.reduceSub, Int.reduceMul, Int.reduceLT, Int.reduceLE, Int.reduceEq, Int.reduceNe]
theorem table_none (a : AV) (h : NoStm a) (s : Hp) : AC Tryz.prog 16 [a] s fun r s' => s.sub s' ∧ ∃ u, r = .tup [u, .v (.string ⟨#[110, 111, 32, 115, 116, 97, 116, 101, 109, 101, 110, 116]⟩)] := by
  refine AC_drun hm prep16 (by simp) ?_
  simp (dsimp := false) (implicitDefEqProofs := false) (disch := first | omega | assumption | (simp only [rL, Nat.reduceAdd]; try omega)) only [↓rA, rZ, List.drop_succ_cons, ne_eq, not_true_eq_false, not_false_eq_true, List.getElem?_cons_zero, List.getElem?_cons_succ, ev, ofConst, ofCell, ↓reduceIte, Nat.reduceEqDiff, Nat.reduceAdd, Nat.reduceSub, Nat.reduceMul, Nat.reduceLeDiff, Nat.reduceLT, Int.reduceNeg, Int.reduceToNat, Int.reduceAdd, Int.reduceSub, Int.reduceMul, Int.reduceLT, Int.reduceLE, Int.reduceEq, Int.reduceNe, ↓rR]
  refine newK_intro fun l3 n3 => ?_
  have hs3 : s.sub (s.set l3 (.cells [.v (.string ⟨#[]⟩)])) := Hp.sub_new Hp.sub_refl n3
  simp (dsimp := false) (implicitDefEqProofs := false) (disch := first | omega | assumption | (simp only [rL, Nat.reduceAdd]; try omega)) only [↓rA, rZ, List.drop_succ_cons, ne_eq, not_true_eq_false, not_false_eq_true, List.getElem?_cons_zero, List.getElem?_cons_succ, ev, ofConst, ofCell, ↓reduceIte, Nat.reduceEqDiff, Nat.reduceAdd, Nat.reduceSub, Nat.reduceMul, Nat.reduceLeDiff, Nat.reduceLT, Int.reduceNeg, Int.reduceToNat, Int.reduceAdd, Int.reduceSub, Int.reduceMul, Int.reduceLT, Int.reduceLE, Int.reduceEq, Int.reduceNe, ↓rR]
  refine dfer_cutF (by kernel_rfl) fun f' Kp hf hKp => ?_
  have f0 : f' 0 = a := by rw [hf]; simp (dsimp := false) (implicitDefEqProofs := false) (disch := first | omega | assumption | (simp only [rL, Nat.reduceAdd]; try omega)) only [↓rA, rZ, List.drop_succ_cons, ne_eq, not_true_eq_false, not_false_eq_true, List.getElem?_cons_zero, List.getElem?_cons_succ, ev, ofConst, ofCell, ↓reduceIte, Nat.reduceEqDiff, Nat.reduceAdd, Nat.reduceSub, Nat.reduceMul, Nat.reduceLeDiff, Nat.reduceLT, Int.reduceNeg, Int.reduceToNat, Int.reduceAdd, Int.reduceSub, Int.reduceMul, Int.reduceLT, Int.reduceLE, Int.reduceEq, Int.reduceNe]
  have f3 : f' 3 = .ptr l3 0 := by rw [hf]; simp (dsimp := false) (implicitDefEqProofs := false) (disch := first | omega | assumption | (simp only [rL, Nat.reduceAdd]; try omega)) only [↓rA, rZ, List.drop_succ_cons, ne_eq, not_true_eq_false, not_false_eq_true, List.getElem?_cons_zero, List.getElem?_cons_succ, ev, ofConst, ofCell, ↓reduceIte, Nat.reduceEqDiff, Nat.reduceAdd, Nat.reduceSub, Nat.reduceMul, Nat.reduceLeDiff, Nat.reduceLT, Int.reduceNeg, Int.reduceToNat, Int.reduceAdd, Int.reduceSub, Int.reduceMul, Int.reduceLT, Int.reduceLE, Int.reduceEq, Int.reduceNe]
  clear hf
  simp (dsimp := false) (implicitDefEqProofs := false) (disch := first | omega | assumption | (simp only [rL, Nat.reduceAdd]; try omega)) only [↓rA, rZ, List.drop_succ_cons, ne_eq, not_true_eq_false, not_false_eq_true, List.getElem?_cons_zero, List.getElem?_cons_succ, ev, ofConst, ofCell, ↓reduceIte, Nat.reduceEqDiff, Nat.reduceAdd, Nat.reduceSub, Nat.reduceMul, Nat.reduceLeDiff, Nat.reduceLT, Int.reduceNeg, Int.reduceToNat, Int.reduceAdd, Int.reduceSub, Int.reduceMul, Int.reduceLT, Int.reduceLE, Int.reduceEq, Int.reduceNe, ↓rR, f0, f3]
  refine callp_intro (Table_none a h _) (fun _ _ h => h.elim) ?_
  rintro r s4 ⟨rfl, h4⟩
  have g4 := h4 _ _ (Hp.set_same _ _ _)
  show Kp msgV s4
  rw [hKp]
  refine table1_rec l3 s4 _ g4 _ fun f2 hf2 => resK_tc (l3 := l3) ?_ (Hp.set_same _ _ _) ⟨?_, _, rfl⟩
  · rw [hf2 3 rfl, f3]
  · exact Hp.sub_new (Hp.sub_trans hs3 h4) n3
end Go.Proofs.YtgfbealjkdhdbaaGreatDoor
