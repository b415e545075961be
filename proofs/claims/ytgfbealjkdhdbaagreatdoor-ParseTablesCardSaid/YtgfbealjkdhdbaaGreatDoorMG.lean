/- Merged by program from smaller texts; what is proved stands in the last text of the claim. -/
import Derived.Test.YtgfbealjkdhdbaaGreatDoorMF
import Derived.Test.YtgfbealjkdhdbaaGreatDoorMD
import Derived.Lib.Join
set_option linter.all false
/-
  parse: writing of a statement (of one that may be written).
-/
set_option maxRecDepth 100000
namespace Go.Proofs.YtgfbealjkdhdbaaGreatDoor
open Go Go.Av
def WR (lw : Nat) (ws : List (List UInt8)) (s0 s : Hp) : Prop := s0.sub s ∧ s0 lw = none ∧ ∃ o, Owned s0 s 1 (ws.map strV) o ∧ s lw = some (.cells [.sl (ws.map strV) o, .v (.bool false)])
theorem WR.mono {lw : Nat} {ws : List (List UInt8)} {s0 s s' : Hp} (h : WR lw ws s0 s) (hs : s.sub s') : WR lw ws s0 s' := by
  obtain ⟨h1, h2, o, h3, h4⟩ := h
  exact ⟨Hp.sub_trans h1 hs, h2, o, h3.mono hs, hs _ _ h4⟩
theorem WR.with {lw x : Nat} {ws : List (List UInt8)} {s0 s : Hp} {cs : List AV} (h : WR lw ws s0 s) (hx : s x = some (.cells cs)) (hne : x ≠ lw) : WR lw ws (s0.set x (.cells cs)) s := by
  obtain ⟨h1, h2, o, h3, h4⟩ := h
  have h5 := own_add h3 hx
  exact ⟨h5.sub, by rw [Hp.set_ne _ _ (Ne.symm hne)]; exact h2, o, h5, h4⟩
theorem WR.base {lw : Nat} {ws : List (List UInt8)} {s1 s0 s : Hp} (h : WR lw ws s0 s) (hs : s1.sub s0) : WR lw ws s1 s := by
  obtain ⟨h1, h2, o, h3, h4⟩ := h
  exact ⟨Hp.sub_trans hs h1, Hp.sub_none hs h2, o, h3.base hs, h4⟩
theorem WR.ne {lw x : Nat} {ws : List (List UInt8)} {s0 s : Hp} (h : WR lw ws s0 s) (hx : s x = none) : x ≠ lw := by
  obtain ⟨_, _, _, _, h4⟩ := h
  rintro rfl; rw [hx] at h4; cases h4
theorem put_spec (lw : Nat) (vs : List (List UInt8)) (o2 : Own) (ws : List (List UInt8)) (s0 s : Hp) (h : WR lw ws s0 s) (hn : ws.length + vs.length ≤ 100000) :
    AC Tryz.prog 59 [.ptr lw 0, .sl (vs.map strV) o2] s fun _ s' => WR lw (ws ++ vs) s0 s' := by
  obtain ⟨h1, h2, o, h3, h4⟩ := h
  refine AC_run hm prep59 (by simp) ?_
  simp (dsimp := false) (implicitDefEqProofs := false) (disch := first | omega | assumption | (simp only [rL, Nat.reduceAdd]; try omega)) only [↓rA, rZ, List.drop_succ_cons, ne_eq, not_true_eq_false, not_false_eq_true, List.getElem?_cons_zero, List.getElem?_cons_succ, ev, ofConst, ofCell, ↓reduceIte, Nat.reduceEqDiff, Nat.reduceAdd, Nat.reduceSub, Nat.reduceMul, Nat.reduceLeDiff, Nat.reduceLT, Int.reduceNeg, Int.reduceToNat, Int.reduceAdd, Int.reduceSub, Int.reduceMul, Int.reduceLT, Int.reduceLE, Int.reduceEq, Int.reduceNe, Hp.read_of h4]
  refine app_own (own_add h3 h4) allLen_strs allLen_strs (by simp; omega) (by simp; omega) fun o8 s8 h8 => ?_
  have g8 := h8.sub _ _ (Hp.set_same _ _ _)
  have hs8 : s0.sub s8 := Hp.sub_trans (Hp.sub_new Hp.sub_refl h2) h8.sub
  simp (dsimp := false) (implicitDefEqProofs := false) (disch := first | omega | assumption | (simp only [rL, Nat.reduceAdd]; try omega)) only [↓rA, rZ, List.drop_succ_cons, ne_eq, not_true_eq_false, not_false_eq_true, List.getElem?_cons_zero, List.getElem?_cons_succ, ev, ofConst, ofCell, ↓reduceIte, Nat.reduceEqDiff, Nat.reduceAdd, Nat.reduceSub, Nat.reduceMul, Nat.reduceLeDiff, Nat.reduceLT, Int.reduceNeg, Int.reduceToNat, Int.reduceAdd, Int.reduceSub, Int.reduceMul, Int.reduceLT, Int.reduceLE, Int.reduceEq, Int.reduceNe, Hp.stA_of g8, putAt_z1, putAt_sc]
  refine ⟨_, Hp.sub_refl, Hp.sub_new hs8 h2, h2, o8, ?_, ?_⟩
  · rw [List.map_append]
    exact own_write (h8.base (Hp.sub_new Hp.sub_refl h2)) h2 g8
  · rw [Hp.set_same, List.map_append]
theorem wname_spec (lw : Nat) (v : List UInt8) (hv : isNameS v = true) (hk : v ∉ keys) (ws : List (List UInt8)) (s0 s : Hp) (h : WR lw ws s0 s) (hn : ws.length + 1 ≤ 100000) :
    AC Tryz.prog 60 [.ptr lw 0, strV v] s fun _ s' => WR lw (ws ++ [v]) s0 s' := by
  refine AC_run hm prep60 (by simp) ?_
  obtain ⟨o, h4⟩ : ∃ o, s lw = some (.cells [.sl (ws.map strV) o, .v (.bool false)]) := by obtain ⟨_, _, o, _, h4⟩ := h; exact ⟨o, h4⟩
  simp (dsimp := false) (implicitDefEqProofs := false) (disch := first | omega | assumption | (simp only [rL, Nat.reduceAdd]; try omega)) only [↓rA, rZ, List.drop_succ_cons, ne_eq, not_true_eq_false, not_false_eq_true, List.getElem?_cons_zero, List.getElem?_cons_succ, ev, ofConst, ofCell, ↓reduceIte, Nat.reduceEqDiff, Nat.reduceAdd, Nat.reduceSub, Nat.reduceMul, Nat.reduceLeDiff, Nat.reduceLT, Int.reduceNeg, Int.reduceToNat, Int.reduceAdd, Int.reduceSub, Int.reduceMul, Int.reduceLT, Int.reduceLE, Int.reduceEq, Int.reduceNe, Hp.read_of h4]
  refine call_intro (IsName_spec v s) ?_
  rintro _ s2 ⟨h2, rfl⟩
  rw [hv]
  simp (dsimp := false) (implicitDefEqProofs := false) (disch := first | omega | assumption | (simp only [rL, Nat.reduceAdd]; try omega)) only [↓rA, rZ, List.drop_succ_cons, ne_eq, not_true_eq_false, not_false_eq_true, List.getElem?_cons_zero, List.getElem?_cons_succ, ev, ofConst, ofCell, ↓reduceIte, Nat.reduceEqDiff, Nat.reduceAdd, Nat.reduceSub, Nat.reduceMul, Nat.reduceLeDiff, Nat.reduceLT, Int.reduceNeg, Int.reduceToNat, Int.reduceAdd, Int.reduceSub, Int.reduceMul, Int.reduceLT, Int.reduceLE, Int.reduceEq, Int.reduceNe]
  refine call_intro (isKey_spec v s2) ?_
  rintro _ s3 ⟨h3, rfl⟩
  have t3 := (h.mono h2).mono h3
  have g3 := h3 _ _ (h2 _ _ h4)
  have hset := set_self g3
  simp (dsimp := false) (implicitDefEqProofs := false) (disch := first | omega | assumption | (simp only [rL, Nat.reduceAdd]; try omega)) only [↓rA, rZ, List.drop_succ_cons, ne_eq, not_true_eq_false, not_false_eq_true, List.getElem?_cons_zero, List.getElem?_cons_succ, ev, ofConst, ofCell, ↓reduceIte, Nat.reduceEqDiff, Nat.reduceAdd, Nat.reduceSub, Nat.reduceMul, Nat.reduceLeDiff, Nat.reduceLT, Int.reduceNeg, Int.reduceToNat, Int.reduceAdd, Int.reduceSub, Int.reduceMul, Int.reduceLT, Int.reduceLE, Int.reduceEq, Int.reduceNe, hk, decide_false, Hp.stA_of g3, putAt_z1, putAt_sc, hset, strV]
  refine bsl_own (s0 := s3) Hp.sub_refl (allLen_strs (ws := [v])) fun o5 s5 h5 => ?_
  simp (dsimp := false) (implicitDefEqProofs := false) (disch := first | omega | assumption | (simp only [rL, Nat.reduceAdd]; try omega)) only [↓rA, rZ, List.drop_succ_cons, ne_eq, not_true_eq_false, not_false_eq_true, List.getElem?_cons_zero, List.getElem?_cons_succ, ev, ofConst, ofCell, ↓reduceIte, Nat.reduceEqDiff, Nat.reduceAdd, Nat.reduceSub, Nat.reduceMul, Nat.reduceLeDiff, Nat.reduceLT, Int.reduceNeg, Int.reduceToNat, Int.reduceAdd, Int.reduceSub, Int.reduceMul, Int.reduceLT, Int.reduceLE, Int.reduceEq, Int.reduceNe]
  refine call_intro (put_spec lw [v] o5 ws s0 s5 (t3.mono h5.sub) hn) ?_
  intro r s6 h6
  simp (dsimp := false) (implicitDefEqProofs := false) (disch := first | omega | assumption | (simp only [rL, Nat.reduceAdd]; try omega)) only [↓rA, rZ, List.drop_succ_cons, ne_eq, not_true_eq_false, not_false_eq_true, List.getElem?_cons_zero, List.getElem?_cons_succ, ev, ofConst, ofCell, ↓reduceIte, Nat.reduceEqDiff, Nat.reduceAdd, Nat.reduceSub, Nat.reduceMul, Nat.reduceLeDiff, Nat.reduceLT, Int.reduceNeg, Int.reduceToNat, Int.reduceAdd, Int.reduceSub, Int.reduceMul, Int.reduceLT, Int.reduceLE, Int.reduceEq, Int.reduceNe]
  exact ⟨_, Hp.sub_refl, h6⟩
theorem wnumber_spec (lw : Nat) (n : Int) (n0 : -9223372036854775808 ≤ n) (n1 : n ≤ 9223372036854775807) (ws : List (List UInt8)) (s0 s : Hp) (hT : Tabs s) (h : WR lw ws s0 s) (hn : ws.length + 1 ≤ 100000) :
    AC Tryz.prog 67 [.ptr lw 0, .v (.int .i64 n)] s fun _ s' => WR lw (ws ++ [itoaS n]) s0 s' := by
  refine AC_run hm prep67 (by simp) ?_
  simp (dsimp := false) (implicitDefEqProofs := false) (disch := first | omega | assumption | (simp only [rL, Nat.reduceAdd]; try omega)) only [↓rA, rZ, List.drop_succ_cons, ne_eq, not_true_eq_false, not_false_eq_true, List.getElem?_cons_zero, List.getElem?_cons_succ, ev, ofConst, ofCell, ↓reduceIte, Nat.reduceEqDiff, Nat.reduceAdd, Nat.reduceSub, Nat.reduceMul, Nat.reduceLeDiff, Nat.reduceLT, Int.reduceNeg, Int.reduceToNat, Int.reduceAdd, Int.reduceSub, Int.reduceMul, Int.reduceLT, Int.reduceLE, Int.reduceEq, Int.reduceNe]
  refine call_intro (formatInt_spec n n0 n1 s hT) ?_
  rintro _ _ ⟨rfl, rfl⟩
  rw [itoaS_eq n n0 n1]
  simp (dsimp := false) (implicitDefEqProofs := false) (disch := first | omega | assumption | (simp only [rL, Nat.reduceAdd]; try omega)) only [↓rA, rZ, List.drop_succ_cons, ne_eq, not_true_eq_false, not_false_eq_true, List.getElem?_cons_zero, List.getElem?_cons_succ, ev, ofConst, ofCell, ↓reduceIte, Nat.reduceEqDiff, Nat.reduceAdd, Nat.reduceSub, Nat.reduceMul, Nat.reduceLeDiff, Nat.reduceLT, Int.reduceNeg, Int.reduceToNat, Int.reduceAdd, Int.reduceSub, Int.reduceMul, Int.reduceLT, Int.reduceLE, Int.reduceEq, Int.reduceNe]
  refine bsl_own (s0 := _) Hp.sub_refl (allLen_strs (ws := [itoaS n])) fun o5 s5 h5 => ?_
  simp (dsimp := false) (implicitDefEqProofs := false) (disch := first | omega | assumption | (simp only [rL, Nat.reduceAdd]; try omega)) only [↓rA, rZ, List.drop_succ_cons, ne_eq, not_true_eq_false, not_false_eq_true, List.getElem?_cons_zero, List.getElem?_cons_succ, ev, ofConst, ofCell, ↓reduceIte, Nat.reduceEqDiff, Nat.reduceAdd, Nat.reduceSub, Nat.reduceMul, Nat.reduceLeDiff, Nat.reduceLT, Int.reduceNeg, Int.reduceToNat, Int.reduceAdd, Int.reduceSub, Int.reduceMul, Int.reduceLT, Int.reduceLE, Int.reduceEq, Int.reduceNe]
  refine call_intro (put_spec lw [itoaS n] o5 ws s0 s5 (h.mono h5.sub) hn) ?_
  intro r s6 h6
  simp (dsimp := false) (implicitDefEqProofs := false) (disch := first | omega | assumption | (simp only [rL, Nat.reduceAdd]; try omega)) only [↓rA, rZ, List.drop_succ_cons, ne_eq, not_true_eq_false, not_false_eq_true, List.getElem?_cons_zero, List.getElem?_cons_succ, ev, ofConst, ofCell, ↓reduceIte, Nat.reduceEqDiff, Nat.reduceAdd, Nat.reduceSub, Nat.reduceMul, Nat.reduceLeDiff, Nat.reduceLT, Int.reduceNeg, Int.reduceToNat, Int.reduceAdd, Int.reduceSub, Int.reduceMul, Int.reduceLT, Int.reduceLE, Int.reduceEq, Int.reduceNe]
  exact ⟨_, Hp.sub_refl, h6⟩
structure CondOk (c : Cond) : Prop where
  col : isNameS c.col = true
  key : c.col ∉ keys
  op : c.op = w_between ∨ c.op = w_ge ∧ c.b = 0
  a : -9223372036854775808 ≤ c.a ∧ c.a ≤ 9223372036854775807
  b : -9223372036854775808 ≤ c.b ∧ c.b ≤ 9223372036854775807
def condT (c : Cond) : List (List UInt8) := [c.col, c.op, itoaS c.a] ++ if c.op = w_between then [w_and, itoaS c.b] else []
theorem Tabs.wr {s0 s' : Hp} {lw : Nat} {ws : List (List UInt8)} (hT : Tabs s0) (h : WR lw ws s0 s') : Tabs s' := hT.mono h.1
theorem wcond_spec (lw : Nat) (c : Cond) (hc : CondOk c) (a : AV) (ha : condR c a) (ws : List (List UInt8)) (s0 s : Hp) (hT : Tabs s0) (h : WR lw ws s0 s) (hn : ws.length + 5 ≤ 100000) :
    AC Tryz.prog 101 [.ptr lw 0, a] s fun _ s' => WR lw (ws ++ condT c) s0 s' := by
  obtain rfl := ha
  refine AC_run hm prep101 (by simp) ?_
  simp (dsimp := false) (implicitDefEqProofs := false) (disch := first | omega | assumption | (simp only [rL, Nat.reduceAdd]; try omega)) only [↓rA, rZ, List.drop_succ_cons, ne_eq, not_true_eq_false, not_false_eq_true, List.getElem?_cons_zero, List.getElem?_cons_succ, ev, ofConst, ofCell, ↓reduceIte, Nat.reduceEqDiff, Nat.reduceAdd, Nat.reduceSub, Nat.reduceMul, Nat.reduceLeDiff, Nat.reduceLT, Int.reduceNeg, Int.reduceToNat, Int.reduceAdd, Int.reduceSub, Int.reduceMul, Int.reduceLT, Int.reduceLE, Int.reduceEq, Int.reduceNe, strV]
  refine newK_intro fun l3 n3 => ?_
  have d3 := h.ne n3
  have n03 := Hp.sub_none h.1 n3
  have t1 := (h.mono (Hp.sub_new (o := .cells [strV c.col, strV c.op, .v (.int .i64 c.a), .v (.int .i64 c.b)]) Hp.sub_refl n3)).with (Hp.set_same _ _ _) d3
  have hT1 : Tabs (s0.set l3 (.cells [strV c.col, strV c.op, .v (.int .i64 c.a), .v (.int .i64 c.b)])) := hT.mono (Hp.sub_new Hp.sub_refl n03)
  have back : (s0.sub (s0.set l3 (.cells [strV c.col, strV c.op, .v (.int .i64 c.a), .v (.int .i64 c.b)]))) := Hp.sub_new Hp.sub_refl n03
  simp (dsimp := false) (implicitDefEqProofs := false) (disch := first | omega | assumption | (simp only [rL, Nat.reduceAdd]; try omega)) only [↓rA, rZ, List.drop_succ_cons, ne_eq, not_true_eq_false, not_false_eq_true, List.getElem?_cons_zero, List.getElem?_cons_succ, ev, ofConst, ofCell, ↓reduceIte, Nat.reduceEqDiff, Nat.reduceAdd, Nat.reduceSub, Nat.reduceMul, Nat.reduceLeDiff, Nat.reduceLT, Int.reduceNeg, Int.reduceToNat, Int.reduceAdd, Int.reduceSub, Int.reduceMul, Int.reduceLT, Int.reduceLE, Int.reduceEq, Int.reduceNe, strV]
  refine call_intro (wname_spec lw c.col hc.col hc.key ws _ _ t1 (by omega)) ?_
  intro r s2 t2
  have g2 := t2.1 _ _ (Hp.set_same _ _ _)
  simp (dsimp := false) (implicitDefEqProofs := false) (disch := first | omega | assumption | (simp only [rL, Nat.reduceAdd]; try omega)) only [↓rA, rZ, List.drop_succ_cons, ne_eq, not_true_eq_false, not_false_eq_true, List.getElem?_cons_zero, List.getElem?_cons_succ, ev, ofConst, ofCell, ↓reduceIte, Nat.reduceEqDiff, Nat.reduceAdd, Nat.reduceSub, Nat.reduceMul, Nat.reduceLeDiff, Nat.reduceLT, Int.reduceNeg, Int.reduceToNat, Int.reduceAdd, Int.reduceSub, Int.reduceMul, Int.reduceLT, Int.reduceLE, Int.reduceEq, Int.reduceNe, Hp.read_of g2, strV]
  refine bsl_own (s0 := _) Hp.sub_refl (allLen_strs (ws := [c.op])) fun o3 s3 h3 => ?_
  simp (dsimp := false) (implicitDefEqProofs := false) (disch := first | omega | assumption | (simp only [rL, Nat.reduceAdd]; try omega)) only [↓rA, rZ, List.drop_succ_cons, ne_eq, not_true_eq_false, not_false_eq_true, List.getElem?_cons_zero, List.getElem?_cons_succ, ev, ofConst, ofCell, ↓reduceIte, Nat.reduceEqDiff, Nat.reduceAdd, Nat.reduceSub, Nat.reduceMul, Nat.reduceLeDiff, Nat.reduceLT, Int.reduceNeg, Int.reduceToNat, Int.reduceAdd, Int.reduceSub, Int.reduceMul, Int.reduceLT, Int.reduceLE, Int.reduceEq, Int.reduceNe]
  refine call_intro (put_spec lw [c.op] o3 _ _ s3 (t2.mono h3.sub) (by simp; omega)) ?_
  intro r s4 t4
  have g4 := t4.1 _ _ (Hp.set_same _ _ _)
  simp (dsimp := false) (implicitDefEqProofs := false) (disch := first | omega | assumption | (simp only [rL, Nat.reduceAdd]; try omega)) only [↓rA, rZ, List.drop_succ_cons, ne_eq, not_true_eq_false, not_false_eq_true, List.getElem?_cons_zero, List.getElem?_cons_succ, ev, ofConst, ofCell, ↓reduceIte, Nat.reduceEqDiff, Nat.reduceAdd, Nat.reduceSub, Nat.reduceMul, Nat.reduceLeDiff, Nat.reduceLT, Int.reduceNeg, Int.reduceToNat, Int.reduceAdd, Int.reduceSub, Int.reduceMul, Int.reduceLT, Int.reduceLE, Int.reduceEq, Int.reduceNe, Hp.read_of g4]
  refine call_intro (wnumber_spec lw c.a hc.a.1 hc.a.2 _ _ s4 (hT1.wr t4) t4 (by simp; omega)) ?_
  intro r s5 t5
  have g5 := t5.1 _ _ (Hp.set_same _ _ _)
  rcases hc.op with hop | ⟨hop, hb⟩
  · have e : binA .eql (strV c.op) (.v (.string ⟨#[98, 101, 116, 119, 101, 101, 110]⟩)) = some (.v (.bool true)) := by rw [hop]; kernel_rfl
    simp (dsimp := false) (implicitDefEqProofs := false) (disch := first | omega | assumption | (simp only [rL, Nat.reduceAdd]; try omega)) only [↓rA, rZ, List.drop_succ_cons, ne_eq, not_true_eq_false, not_false_eq_true, List.getElem?_cons_zero, List.getElem?_cons_succ, ev, ofConst, ofCell, ↓reduceIte, Nat.reduceEqDiff, Nat.reduceAdd, Nat.reduceSub, Nat.reduceMul, Nat.reduceLeDiff, Nat.reduceLT, Int.reduceNeg, Int.reduceToNat, Int.reduceAdd, Int.reduceSub, Int.reduceMul, Int.reduceLT, Int.reduceLE, Int.reduceEq, Int.reduceNe, Hp.read_of g5, e]
    refine bsl_own (s0 := _) Hp.sub_refl (allLen_strs (ws := [w_and])) fun o6 s6 h6 => ?_
    simp (dsimp := false) (implicitDefEqProofs := false) (disch := first | omega | assumption | (simp only [rL, Nat.reduceAdd]; try omega)) only [↓rA, rZ, List.drop_succ_cons, ne_eq, not_true_eq_false, not_false_eq_true, List.getElem?_cons_zero, List.getElem?_cons_succ, ev, ofConst, ofCell, ↓reduceIte, Nat.reduceEqDiff, Nat.reduceAdd, Nat.reduceSub, Nat.reduceMul, Nat.reduceLeDiff, Nat.reduceLT, Int.reduceNeg, Int.reduceToNat, Int.reduceAdd, Int.reduceSub, Int.reduceMul, Int.reduceLT, Int.reduceLE, Int.reduceEq, Int.reduceNe]
    refine call_intro (put_spec lw [w_and] o6 _ _ s6 (t5.mono h6.sub) (by simp; omega)) ?_
    intro r s7 t7
    have g7 := t7.1 _ _ (Hp.set_same _ _ _)
    simp (dsimp := false) (implicitDefEqProofs := false) (disch := first | omega | assumption | (simp only [rL, Nat.reduceAdd]; try omega)) only [↓rA, rZ, List.drop_succ_cons, ne_eq, not_true_eq_false, not_false_eq_true, List.getElem?_cons_zero, List.getElem?_cons_succ, ev, ofConst, ofCell, ↓reduceIte, Nat.reduceEqDiff, Nat.reduceAdd, Nat.reduceSub, Nat.reduceMul, Nat.reduceLeDiff, Nat.reduceLT, Int.reduceNeg, Int.reduceToNat, Int.reduceAdd, Int.reduceSub, Int.reduceMul, Int.reduceLT, Int.reduceLE, Int.reduceEq, Int.reduceNe, Hp.read_of g7]
    refine call_intro (wnumber_spec lw c.b hc.b.1 hc.b.2 _ _ s7 (hT1.wr t7) t7 (by simp; omega)) ?_
    intro r s8 t8
    simp (dsimp := false) (implicitDefEqProofs := false) (disch := first | omega | assumption | (simp only [rL, Nat.reduceAdd]; try omega)) only [↓rA, rZ, List.drop_succ_cons, ne_eq, not_true_eq_false, not_false_eq_true, List.getElem?_cons_zero, List.getElem?_cons_succ, ev, ofConst, ofCell, ↓reduceIte, Nat.reduceEqDiff, Nat.reduceAdd, Nat.reduceSub, Nat.reduceMul, Nat.reduceLeDiff, Nat.reduceLT, Int.reduceNeg, Int.reduceToNat, Int.reduceAdd, Int.reduceSub, Int.reduceMul, Int.reduceLT, Int.reduceLE, Int.reduceEq, Int.reduceNe]
    refine ⟨_, Hp.sub_refl, ?_⟩
    have := t8.base back
    simpa [condT, hop] using this
  · have e1 : binA .eql (strV c.op) (.v (.string ⟨#[98, 101, 116, 119, 101, 101, 110]⟩)) = some (.v (.bool false)) := by rw [hop]; kernel_rfl
    have e2 : binA .eql (strV c.op) (.v (.string ⟨#[61]⟩)) = some (.v (.bool false)) := by rw [hop]; kernel_rfl
    have e3 : binA .eql (strV c.op) (.v (.string ⟨#[60]⟩)) = some (.v (.bool false)) := by rw [hop]; kernel_rfl
    have e4 : binA .eql (strV c.op) (.v (.string ⟨#[60, 61]⟩)) = some (.v (.bool false)) := by rw [hop]; kernel_rfl
    have e5 : binA .eql (strV c.op) (.v (.string ⟨#[62]⟩)) = some (.v (.bool false)) := by rw [hop]; kernel_rfl
    have e6 : binA .eql (strV c.op) (.v (.string ⟨#[62, 61]⟩)) = some (.v (.bool true)) := by rw [hop]; kernel_rfl
    obtain ⟨o9, h9⟩ : ∃ o, s5 lw = some (.cells [.sl ((ws ++ [c.col] ++ [c.op] ++ [itoaS c.a]).map strV) o, .v (.bool false)]) := by obtain ⟨_, _, o, _, h4⟩ := t5; exact ⟨o, h4⟩
    have hset := set_self h9
    have hz : (c.b = 0) = True := by simp [hb]
    simp (dsimp := false) (implicitDefEqProofs := false) (disch := first | omega | assumption | (simp only [rL, Nat.reduceAdd]; try omega)) only [↓rA, rZ, List.drop_succ_cons, ne_eq, not_true_eq_false, not_false_eq_true, List.getElem?_cons_zero, List.getElem?_cons_succ, ev, ofConst, ofCell, ↓reduceIte, Nat.reduceEqDiff, Nat.reduceAdd, Nat.reduceSub, Nat.reduceMul, Nat.reduceLeDiff, Nat.reduceLT, Int.reduceNeg, Int.reduceToNat, Int.reduceAdd, Int.reduceSub, Int.reduceMul, Int.reduceLT, Int.reduceLE, Int.reduceEq, Int.reduceNe, Hp.read_of g5, e1, e2, e3, e4, e5, e6, Hp.read_of h9, Hp.stA_of h9, hz, putAt_z1, putAt_sc, hset]
    refine ⟨_, Hp.sub_refl, ?_⟩
    have := t5.base back
    have hne : ¬ w_ge = w_between := by decide
    simpa [condT, hop, hne] using this
def allS (cs : List Cond) : Nat → List (List UInt8)
  | 0 => []
  | i + 1 => allS cs i ++ (if i = 0 then [] else [w_and]) ++ (match cs[i]? with | some c => condT c | none => [])
theorem condT_len (c : Cond) : (condT c).length ≤ 5 := by unfold condT; split <;> simp
theorem allS_len (cs : List Cond) : ∀ i, (allS cs i).length ≤ 6 * i
  | 0 => by simp [allS]
  | i + 1 => by
    have h1 := allS_len cs i
    simp only [allS, List.length_append]
    have h2 : (if i = 0 then [] else [w_and]).length ≤ 1 := by split <;> simp
    have h3 : (match cs[i]? with | some c => condT c | none => ([] : List (List UInt8))).length ≤ 5 := by
      split
      · exact condT_len _
      · simp
    omega
theorem iaSA_cond {cs : List Cond} {av : List AV} {o : Own} {i : Nat} {c : Cond} (hA : AllV condR cs av) (hi : cs[i]? = some c) : iaSA 4 (.sl av o) (.v (.int .i64 (i : Int))) = some (.rptr [strV c.col, strV c.op, .v (.int .i64 c.a), .v (.int .i64 c.b)]) := by
  obtain ⟨a, h1, rfl⟩ := hA.get hi
  have h0 : (0 : Int) ≤ (i : Int) := by omega
  simp only [iaSA, h0, if_true, Int.toNat_natCast, h1]
  rw [elA_some (k := 4) rfl]; rfl
theorem wall_spec (lw : Nat) (cs : List Cond) (hc : ∀ c ∈ cs, CondOk c) (av : List AV) (oc : Own) (hA : AllV condR cs av) (h1 : 0 < cs.length) (h2 : cs.length ≤ 256) (ws : List (List UInt8)) (s0 s : Hp) (hT : Tabs s0) (h : WR lw ws s0 s) (hn : ws.length ≤ 10000) :
    AC Tryz.prog 100 [.ptr lw 0, .sl av oc, strV w_and, .clo 101 [.ptr lw 0] []] s fun _ s' => WR lw (ws ++ allS cs cs.length) s0 s' := by
  refine AC_run hm prep100 (by simp) ?_
  have hlen := hA.len
  obtain ⟨o, h4⟩ : ∃ o, s lw = some (.cells [.sl (ws.map strV) o, .v (.bool false)]) := by obtain ⟨_, _, o, _, h4⟩ := h; exact ⟨o, h4⟩
  have hset := set_self h4
  have z1 : ¬ (cs.length : Int) = 0 := by omega
  have z2 : ¬ (256 : Int) < (cs.length : Int) := by omega
  simp (dsimp := false) (implicitDefEqProofs := false) (disch := first | omega | assumption | (simp only [rL, Nat.reduceAdd]; try omega)) only [↓rA, rZ, List.drop_succ_cons, ne_eq, not_true_eq_false, not_false_eq_true, List.getElem?_cons_zero, List.getElem?_cons_succ, ev, ofConst, ofCell, ↓reduceIte, Nat.reduceEqDiff, Nat.reduceAdd, Nat.reduceSub, Nat.reduceMul, Nat.reduceLeDiff, Nat.reduceLT, Int.reduceNeg, Int.reduceToNat, Int.reduceAdd, Int.reduceSub, Int.reduceMul, Int.reduceLT, Int.reduceLE, Int.reduceEq, Int.reduceNe, Hp.read_of h4, Hp.stA_of h4, hlen, z1, z2, putAt_z1, putAt_sc, hset]
  refine loop_intro (fun f s' => ∃ i : Nat, i ≤ cs.length ∧ WR lw (ws ++ allS cs i) s0 s' ∧ f 0 = .ptr lw 0 ∧ f 2 = strV w_and ∧ f 3 = .clo 101 [.ptr lw 0] [] ∧ f 27 = .sl av oc ∧ f 28 = .v (.int .i64 cs.length) ∧ f 29 = .v (.int .i64 i))
    (fun f _ => match f 29 with | .v (.int _ n) => cs.length - n.toNat | _ => 0) ⟨0, by omega, by rw [show allS cs 0 = [] from rfl, List.append_nil, hset]; exact h, ?_⟩ ?_
  · simp (dsimp := false) (implicitDefEqProofs := false) (disch := first | omega | assumption | (simp only [rL, Nat.reduceAdd]; try omega)) only [↓rA, rZ, List.drop_succ_cons, ne_eq, not_true_eq_false, not_false_eq_true, List.getElem?_cons_zero, List.getElem?_cons_succ, ev, ofConst, ofCell, ↓reduceIte, Nat.reduceEqDiff, Nat.reduceAdd, Nat.reduceSub, Nat.reduceMul, Nat.reduceLeDiff, Nat.reduceLT, Int.reduceNeg, Int.reduceToNat, Int.reduceAdd, Int.reduceSub, Int.reduceMul, Int.reduceLT, Int.reduceLE, Int.reduceEq, Int.reduceNe, hlen]
  · rintro f s' ⟨i, hi, hw, f0, f2, f3, f27, f28, f29⟩
    by_cases hlt : (i : Int) < (cs.length : Int)
    · have hi' : i < cs.length := by omega
      have hel : cs[i]? = some cs[i] := List.getElem?_eq_getElem hi'
      have hmem : cs[i] ∈ cs := List.getElem_mem _
      have hstep : allS cs (i + 1) = allS cs i ++ (if i = 0 then [] else [w_and]) ++ condT cs[i] := by simp only [allS, hel]
      have hsl := allS_len cs i
      generalize cs[i] = c at hel hmem hstep
      simp (dsimp := false) (implicitDefEqProofs := false) (disch := first | omega | assumption | (simp only [rL, Nat.reduceAdd]; try omega)) only [↓rA, rZ, List.drop_succ_cons, ne_eq, not_true_eq_false, not_false_eq_true, List.getElem?_cons_zero, List.getElem?_cons_succ, ev, ofConst, ofCell, ↓reduceIte, Nat.reduceEqDiff, Nat.reduceAdd, Nat.reduceSub, Nat.reduceMul, Nat.reduceLeDiff, Nat.reduceLT, Int.reduceNeg, Int.reduceToNat, Int.reduceAdd, Int.reduceSub, Int.reduceMul, Int.reduceLT, Int.reduceLE, Int.reduceEq, Int.reduceNe, f0, f2, f3, f27, f28, f29, hlt, iaSA_cond hA hel]
      refine newK_intro fun l9 n9 => ?_
      have d9 := hw.ne n9
      have n09 := Hp.sub_none hw.1 n9
      have t1 := (hw.mono (Hp.sub_new (o := .cells [strV c.col, strV c.op, .v (.int .i64 c.a), .v (.int .i64 c.b)]) Hp.sub_refl n9)).with (Hp.set_same _ _ _) d9
      have hT1 : Tabs (s0.set l9 (.cells [strV c.col, strV c.op, .v (.int .i64 c.a), .v (.int .i64 c.b)])) := hT.mono (Hp.sub_new Hp.sub_refl n09)
      have back : (s0.sub (s0.set l9 (.cells [strV c.col, strV c.op, .v (.int .i64 c.a), .v (.int .i64 c.b)]))) := Hp.sub_new Hp.sub_refl n09
      simp (dsimp := false) (implicitDefEqProofs := false) (disch := first | omega | assumption | (simp only [rL, Nat.reduceAdd]; try omega)) only [↓rA, rZ, List.drop_succ_cons, ne_eq, not_true_eq_false, not_false_eq_true, List.getElem?_cons_zero, List.getElem?_cons_succ, ev, ofConst, ofCell, ↓reduceIte, Nat.reduceEqDiff, Nat.reduceAdd, Nat.reduceSub, Nat.reduceMul, Nat.reduceLeDiff, Nat.reduceLT, Int.reduceNeg, Int.reduceToNat, Int.reduceAdd, Int.reduceSub, Int.reduceMul, Int.reduceLT, Int.reduceLE, Int.reduceEq, Int.reduceNe, f0, f2, f3, f27, f28, f29, putAt_full]
      have g29 := f29
      refine cond_join (fun f s2 => WR lw (ws ++ allS cs i ++ (if i = 0 then [] else [w_and])) (s0.set l9 (.cells [strV c.col, strV c.op, .v (.int .i64 c.a), .v (.int .i64 c.b)])) s2 ∧ f 0 = .ptr lw 0 ∧ f 2 = strV w_and ∧ f 3 = .clo 101 [.ptr lw 0] [] ∧ f 27 = .sl av oc ∧ f 28 = .v (.int .i64 cs.length) ∧ f 29 = .v (.int .i64 i) ∧ f 9 = .ptr l9 0) ?_ ?_ ?_
      · intro hcn
        have hc' : ¬ i = 0 := by rw [decide_eq_true_eq] at hcn; omega
        rw [if_neg hc']
        simp (dsimp := false) (implicitDefEqProofs := false) (disch := first | omega | assumption | (simp only [rL, Nat.reduceAdd]; try omega)) only [↓rA, rZ, List.drop_succ_cons, ne_eq, not_true_eq_false, not_false_eq_true, List.getElem?_cons_zero, List.getElem?_cons_succ, ev, ofConst, ofCell, ↓reduceIte, Nat.reduceEqDiff, Nat.reduceAdd, Nat.reduceSub, Nat.reduceMul, Nat.reduceLeDiff, Nat.reduceLT, Int.reduceNeg, Int.reduceToNat, Int.reduceAdd, Int.reduceSub, Int.reduceMul, Int.reduceLT, Int.reduceLE, Int.reduceEq, Int.reduceNe, f0, f2, f3, f27, f28, f29]
        refine bsl_own (s0 := _) Hp.sub_refl (allLen_strs (ws := [w_and])) fun o6 s6 h6 => ?_
        simp (dsimp := false) (implicitDefEqProofs := false) (disch := first | omega | assumption | (simp only [rL, Nat.reduceAdd]; try omega)) only [↓rA, rZ, List.drop_succ_cons, ne_eq, not_true_eq_false, not_false_eq_true, List.getElem?_cons_zero, List.getElem?_cons_succ, ev, ofConst, ofCell, ↓reduceIte, Nat.reduceEqDiff, Nat.reduceAdd, Nat.reduceSub, Nat.reduceMul, Nat.reduceLeDiff, Nat.reduceLT, Int.reduceNeg, Int.reduceToNat, Int.reduceAdd, Int.reduceSub, Int.reduceMul, Int.reduceLT, Int.reduceLE, Int.reduceEq, Int.reduceNe, f0, f2, f3, f27, f28, f29]
        refine call_intro (put_spec lw [w_and] o6 _ _ s6 (t1.mono h6.sub) (by simp; omega)) ?_
        intro r s7 t7
        simp (dsimp := false) (implicitDefEqProofs := false) (disch := first | omega | assumption | (simp only [rL, Nat.reduceAdd]; try omega)) only [↓rA, rZ, List.drop_succ_cons, ne_eq, not_true_eq_false, not_false_eq_true, List.getElem?_cons_zero, List.getElem?_cons_succ, ev, ofConst, ofCell, ↓reduceIte, Nat.reduceEqDiff, Nat.reduceAdd, Nat.reduceSub, Nat.reduceMul, Nat.reduceLeDiff, Nat.reduceLT, Int.reduceNeg, Int.reduceToNat, Int.reduceAdd, Int.reduceSub, Int.reduceMul, Int.reduceLT, Int.reduceLE, Int.reduceEq, Int.reduceNe, f0, f2, f3, f27, f28, f29]
        exact t7
      · intro hcn
        have hc' : i = 0 := by rw [decide_eq_false_iff_not] at hcn; omega
        rw [if_pos hc', List.append_nil]
        simp (dsimp := false) (implicitDefEqProofs := false) (disch := first | omega | assumption | (simp only [rL, Nat.reduceAdd]; try omega)) only [↓rA, rZ, List.drop_succ_cons, ne_eq, not_true_eq_false, not_false_eq_true, List.getElem?_cons_zero, List.getElem?_cons_succ, ev, ofConst, ofCell, ↓reduceIte, Nat.reduceEqDiff, Nat.reduceAdd, Nat.reduceSub, Nat.reduceMul, Nat.reduceLeDiff, Nat.reduceLT, Int.reduceNeg, Int.reduceToNat, Int.reduceAdd, Int.reduceSub, Int.reduceMul, Int.reduceLT, Int.reduceLE, Int.reduceEq, Int.reduceNe, f0, f2, f3, f27, f28, f29]
        exact t1
      clear f0 f2 f3 f27 f28 f29 t1
      rintro f s2 ⟨t2, f0, f2, f3, f27, f28, f29, f9⟩
      have g2 := t2.1 _ _ (Hp.set_same _ _ _)
      simp (dsimp := false) (implicitDefEqProofs := false) (disch := first | omega | assumption | (simp only [rL, Nat.reduceAdd]; try omega)) only [↓rA, rZ, List.drop_succ_cons, ne_eq, not_true_eq_false, not_false_eq_true, List.getElem?_cons_zero, List.getElem?_cons_succ, ev, ofConst, ofCell, ↓reduceIte, Nat.reduceEqDiff, Nat.reduceAdd, Nat.reduceSub, Nat.reduceMul, Nat.reduceLeDiff, Nat.reduceLT, Int.reduceNeg, Int.reduceToNat, Int.reduceAdd, Int.reduceSub, Int.reduceMul, Int.reduceLT, Int.reduceLE, Int.reduceEq, Int.reduceNe, f0, f2, f3, f27, f28, f29, f9, Hp.read_of g2]
      refine callV_intro (by kernel_rfl) (wcond_spec lw c (hc c hmem) _ rfl _ _ s2 hT1 t2 (by
        have : (if i = 0 then [] else [w_and]).length ≤ 1 := by split <;> simp
        simp only [List.length_append]; omega)) ?_
      intro r s3 t3
      simp (dsimp := false) (implicitDefEqProofs := false) (disch := first | omega | assumption | (simp only [rL, Nat.reduceAdd]; try omega)) only [↓rA, rZ, List.drop_succ_cons, ne_eq, not_true_eq_false, not_false_eq_true, List.getElem?_cons_zero, List.getElem?_cons_succ, ev, ofConst, ofCell, ↓reduceIte, Nat.reduceEqDiff, Nat.reduceAdd, Nat.reduceSub, Nat.reduceMul, Nat.reduceLeDiff, Nat.reduceLT, Int.reduceNeg, Int.reduceToNat, Int.reduceAdd, Int.reduceSub, Int.reduceMul, Int.reduceLT, Int.reduceLE, Int.reduceEq, Int.reduceNe, f0, f2, f3, f27, f28, f29, f9]
      refine ⟨⟨i + 1, by omega, ?_, by simp⟩, by simp only [g29]; omega⟩
      rw [hstep]
      have := t3.base back
      simpa using this
    · obtain rfl : i = cs.length := by omega
      simp (dsimp := false) (implicitDefEqProofs := false) (disch := first | omega | assumption | (simp only [rL, Nat.reduceAdd]; try omega)) only [↓rA, rZ, List.drop_succ_cons, ne_eq, not_true_eq_false, not_false_eq_true, List.getElem?_cons_zero, List.getElem?_cons_succ, ev, ofConst, ofCell, ↓reduceIte, Nat.reduceEqDiff, Nat.reduceAdd, Nat.reduceSub, Nat.reduceMul, Nat.reduceLeDiff, Nat.reduceLT, Int.reduceNeg, Int.reduceToNat, Int.reduceAdd, Int.reduceSub, Int.reduceMul, Int.reduceLT, Int.reduceLE, Int.reduceEq, Int.reduceNe, f0, f2, f3, f27, f28, f29, hlt]
      exact ⟨_, Hp.sub_refl, hw⟩
theorem wwhere_spec (lw : Nat) (cs : List Cond) (hc : ∀ c ∈ cs, CondOk c) (av : List AV) (oc : Own) (hA : AllV condR cs av) (h1 : 0 < cs.length) (h2 : cs.length ≤ 256) (ws : List (List UInt8)) (s0 s : Hp) (hT : Tabs s0) (h : WR lw ws s0 s) (hn : ws.length ≤ 5000) :
    AC Tryz.prog 64 [.ptr lw 0, .sl av oc] s fun _ s' => WR lw (ws ++ [w_where] ++ allS cs cs.length) s0 s' := by
  refine AC_run hm prep64 (by simp) ?_
  have hlen := hA.len
  have z1 : (0 : Int) < (cs.length : Int) := by omega
  simp (dsimp := false) (implicitDefEqProofs := false) (disch := first | omega | assumption | (simp only [rL, Nat.reduceAdd]; try omega)) only [↓rA, rZ, List.drop_succ_cons, ne_eq, not_true_eq_false, not_false_eq_true, List.getElem?_cons_zero, List.getElem?_cons_succ, ev, ofConst, ofCell, ↓reduceIte, Nat.reduceEqDiff, Nat.reduceAdd, Nat.reduceSub, Nat.reduceMul, Nat.reduceLeDiff, Nat.reduceLT, Int.reduceNeg, Int.reduceToNat, Int.reduceAdd, Int.reduceSub, Int.reduceMul, Int.reduceLT, Int.reduceLE, Int.reduceEq, Int.reduceNe, hlen, z1]
  refine bsl_own (s0 := _) Hp.sub_refl (allLen_strs (ws := [w_where])) fun o6 s6 h6 => ?_
  simp (dsimp := false) (implicitDefEqProofs := false) (disch := first | omega | assumption | (simp only [rL, Nat.reduceAdd]; try omega)) only [↓rA, rZ, List.drop_succ_cons, ne_eq, not_true_eq_false, not_false_eq_true, List.getElem?_cons_zero, List.getElem?_cons_succ, ev, ofConst, ofCell, ↓reduceIte, Nat.reduceEqDiff, Nat.reduceAdd, Nat.reduceSub, Nat.reduceMul, Nat.reduceLeDiff, Nat.reduceLT, Int.reduceNeg, Int.reduceToNat, Int.reduceAdd, Int.reduceSub, Int.reduceMul, Int.reduceLT, Int.reduceLE, Int.reduceEq, Int.reduceNe]
  refine call_intro (put_spec lw [w_where] o6 _ _ s6 (h.mono h6.sub) (by simp; omega)) ?_
  intro r s7 t7
  simp (dsimp := false) (implicitDefEqProofs := false) (disch := first | omega | assumption | (simp only [rL, Nat.reduceAdd]; try omega)) only [↓rA, rZ, List.drop_succ_cons, ne_eq, not_true_eq_false, not_false_eq_true, List.getElem?_cons_zero, List.getElem?_cons_succ, ev, ofConst, ofCell, ↓reduceIte, Nat.reduceEqDiff, Nat.reduceAdd, Nat.reduceSub, Nat.reduceMul, Nat.reduceLeDiff, Nat.reduceLT, Int.reduceNeg, Int.reduceToNat, Int.reduceAdd, Int.reduceSub, Int.reduceMul, Int.reduceLT, Int.reduceLE, Int.reduceEq, Int.reduceNe]
  refine call_intro (wall_spec lw cs hc av oc hA h1 h2 _ _ s7 hT t7 (by simp; omega)) ?_
  intro r s8 t8
  simp (dsimp := false) (implicitDefEqProofs := false) (disch := first | omega | assumption | (simp only [rL, Nat.reduceAdd]; try omega)) only [↓rA, rZ, List.drop_succ_cons, ne_eq, not_true_eq_false, not_false_eq_true, List.getElem?_cons_zero, List.getElem?_cons_succ, ev, ofConst, ofCell, ↓reduceIte, Nat.reduceEqDiff, Nat.reduceAdd, Nat.reduceSub, Nat.reduceMul, Nat.reduceLeDiff, Nat.reduceLT, Int.reduceNeg, Int.reduceToNat, Int.reduceAdd, Int.reduceSub, Int.reduceMul, Int.reduceLT, Int.reduceLE, Int.reduceEq, Int.reduceNe]
  exact ⟨_, Hp.sub_refl, t8⟩
theorem wafter_none (lw : Nat) (x : AV) (ws : List (List UInt8)) (s0 s : Hp) (h : WR lw ws s0 s) :
    AC Tryz.prog 102 [.ptr lw 0, .v (.int .i64 (-1)), x] s fun _ s' => WR lw ws s0 s' := by
  refine AC_run hm prep102 (by simp) ?_
  simp (dsimp := false) (implicitDefEqProofs := false) (disch := first | omega | assumption | (simp only [rL, Nat.reduceAdd]; try omega)) only [↓rA, rZ, List.drop_succ_cons, ne_eq, not_true_eq_false, not_false_eq_true, List.getElem?_cons_zero, List.getElem?_cons_succ, ev, ofConst, ofCell, ↓reduceIte, Nat.reduceEqDiff, Nat.reduceAdd, Nat.reduceSub, Nat.reduceMul, Nat.reduceLeDiff, Nat.reduceLT, Int.reduceNeg, Int.reduceToNat, Int.reduceAdd, Int.reduceSub, Int.reduceMul, Int.reduceLT, Int.reduceLE, Int.reduceEq, Int.reduceNe]
  exact ⟨_, Hp.sub_refl, h⟩
theorem wafter_spec (lw : Nat) (n : Int) (n0 : 0 ≤ n) (n1 : n ≤ 9223372036854775807) (vs : List (List UInt8)) (ov : Own) (ws : List (List UInt8)) (s0 s : Hp) (hT : Tabs s0) (h : WR lw ws s0 s) (hn : ws.length + vs.length ≤ 5000) :
    AC Tryz.prog 102 [.ptr lw 0, .v (.int .i64 n), .sl (vs.map strV) ov] s fun _ s' => WR lw (ws ++ vs ++ [itoaS n]) s0 s' := by
  refine AC_run hm prep102 (by simp) ?_
  obtain ⟨o, h4⟩ : ∃ o, s lw = some (.cells [.sl (ws.map strV) o, .v (.bool false)]) := by obtain ⟨_, _, o, _, h4⟩ := h; exact ⟨o, h4⟩
  have hset := set_self h4
  have z1 : ¬ n = -1 := by omega
  have z2 : ¬ n < 0 := by omega
  simp (dsimp := false) (implicitDefEqProofs := false) (disch := first | omega | assumption | (simp only [rL, Nat.reduceAdd]; try omega)) only [↓rA, rZ, List.drop_succ_cons, ne_eq, not_true_eq_false, not_false_eq_true, List.getElem?_cons_zero, List.getElem?_cons_succ, ev, ofConst, ofCell, ↓reduceIte, Nat.reduceEqDiff, Nat.reduceAdd, Nat.reduceSub, Nat.reduceMul, Nat.reduceLeDiff, Nat.reduceLT, Int.reduceNeg, Int.reduceToNat, Int.reduceAdd, Int.reduceSub, Int.reduceMul, Int.reduceLT, Int.reduceLE, Int.reduceEq, Int.reduceNe, z1, z2, Hp.read_of h4, Hp.stA_of h4, putAt_z1, putAt_sc, hset]
  refine call_intro (put_spec lw vs ov _ _ s h (by omega)) ?_
  intro r s7 t7
  simp (dsimp := false) (implicitDefEqProofs := false) (disch := first | omega | assumption | (simp only [rL, Nat.reduceAdd]; try omega)) only [↓rA, rZ, List.drop_succ_cons, ne_eq, not_true_eq_false, not_false_eq_true, List.getElem?_cons_zero, List.getElem?_cons_succ, ev, ofConst, ofCell, ↓reduceIte, Nat.reduceEqDiff, Nat.reduceAdd, Nat.reduceSub, Nat.reduceMul, Nat.reduceLeDiff, Nat.reduceLT, Int.reduceNeg, Int.reduceToNat, Int.reduceAdd, Int.reduceSub, Int.reduceMul, Int.reduceLT, Int.reduceLE, Int.reduceEq, Int.reduceNe]
  refine call_intro (wnumber_spec lw n (by omega) n1 _ _ s7 (hT.wr t7) t7 (by simp; omega)) ?_
  intro r s8 t8
  simp (dsimp := false) (implicitDefEqProofs := false) (disch := first | omega | assumption | (simp only [rL, Nat.reduceAdd]; try omega)) only [↓rA, rZ, List.drop_succ_cons, ne_eq, not_true_eq_false, not_false_eq_true, List.getElem?_cons_zero, List.getElem?_cons_succ, ev, ofConst, ofCell, ↓reduceIte, Nat.reduceEqDiff, Nat.reduceAdd, Nat.reduceSub, Nat.reduceMul, Nat.reduceLeDiff, Nat.reduceLT, Int.reduceNeg, Int.reduceToNat, Int.reduceAdd, Int.reduceSub, Int.reduceMul, Int.reduceLT, Int.reduceLE, Int.reduceEq, Int.reduceNe]
  exact ⟨_, Hp.sub_refl, t8⟩
theorem wsorting_spec (lw : Nat) (col : List UInt8) (hv : isNameS col = true) (hk : col ∉ keys) (down : Bool) (o : Own) (ws : List (List UInt8)) (s0 s : Hp) (h : WR lw ws s0 s) (hn : ws.length ≤ 5000) :
    AC Tryz.prog 103 [.ptr lw 0, .agg [strV col, .v (.bool down), .sl [] o]] s fun _ s' => WR lw (ws ++ [w_order, w_by] ++ [col] ++ if down = true then [w_desc] else []) s0 s' := by
  have hne : ¬ col = [] := by rintro rfl; revert hv; decide
  refine AC_run hm prep103 (by simp) ?_
  simp (dsimp := false) (implicitDefEqProofs := false) (disch := first | omega | assumption | (simp only [rL, Nat.reduceAdd]; try omega)) only [↓rA, rZ, List.drop_succ_cons, ne_eq, not_true_eq_false, not_false_eq_true, List.getElem?_cons_zero, List.getElem?_cons_succ, ev, ofConst, ofCell, ↓reduceIte, Nat.reduceEqDiff, Nat.reduceAdd, Nat.reduceSub, Nat.reduceMul, Nat.reduceLeDiff, Nat.reduceLT, Int.reduceNeg, Int.reduceToNat, Int.reduceAdd, Int.reduceSub, Int.reduceMul, Int.reduceLT, Int.reduceLE, Int.reduceEq, Int.reduceNe]
  refine newK_intro fun l3 n3 => ?_
  have d3 := h.ne n3
  have d3' := Ne.symm d3
  have n03 := Hp.sub_none h.1 n3
  have t1 := (h.mono (Hp.sub_new (o := .cells [strV col, .v (.bool down), .sl [] o]) Hp.sub_refl n3)).with (Hp.set_same _ _ _) d3
  have back : (s0.sub (s0.set l3 (.cells [strV col, .v (.bool down), .sl [] o]))) := Hp.sub_new Hp.sub_refl n03
  obtain ⟨ow, h4⟩ : ∃ o', (s.set l3 (.cells [strV col, .v (.bool down), .sl [] o])) lw = some (.cells [.sl (ws.map strV) o', .v (.bool false)]) := by obtain ⟨_, _, o', _, h4⟩ := t1; exact ⟨o', h4⟩
  have hset := set_self h4
  have e1 : binA .neq (strV col) (.v (.string ⟨#[]⟩)) = some (.v (.bool true)) := by
    have := binA_neqS (a := col) (b := [])
    rw [decide_eq_false hne] at this
    exact this
  have hz : ¬ (0 : Int) < (([] : List AV).length : Int) := by simp
  have gS : (s.set l3 (.cells [strV col, .v (.bool down), .sl [] o])) l3 = some (.cells [strV col, .v (.bool down), .sl [] o]) := Hp.set_same _ _ _
  simp (dsimp := false) (implicitDefEqProofs := false) (disch := first | omega | assumption | (simp only [rL, Nat.reduceAdd]; try omega)) only [↓rA, rZ, List.drop_succ_cons, ne_eq, not_true_eq_false, not_false_eq_true, List.getElem?_cons_zero, List.getElem?_cons_succ, ev, ofConst, ofCell, ↓reduceIte, Nat.reduceEqDiff, Nat.reduceAdd, Nat.reduceSub, Nat.reduceMul, Nat.reduceLeDiff, Nat.reduceLT, Int.reduceNeg, Int.reduceToNat, Int.reduceAdd, Int.reduceSub, Int.reduceMul, Int.reduceLT, Int.reduceLE, Int.reduceEq, Int.reduceNe, Hp.read_of gS, e1, Hp.read_of h4, Hp.stA_of h4, putAt_z1, putAt_sc, hset, hz]
  refine bsl_own (s0 := _) Hp.sub_refl (allLen_strs (ws := [w_order, w_by])) fun o6 s6 h6 => ?_
  simp (dsimp := false) (implicitDefEqProofs := false) (disch := first | omega | assumption | (simp only [rL, Nat.reduceAdd]; try omega)) only [↓rA, rZ, List.drop_succ_cons, ne_eq, not_true_eq_false, not_false_eq_true, List.getElem?_cons_zero, List.getElem?_cons_succ, ev, ofConst, ofCell, ↓reduceIte, Nat.reduceEqDiff, Nat.reduceAdd, Nat.reduceSub, Nat.reduceMul, Nat.reduceLeDiff, Nat.reduceLT, Int.reduceNeg, Int.reduceToNat, Int.reduceAdd, Int.reduceSub, Int.reduceMul, Int.reduceLT, Int.reduceLE, Int.reduceEq, Int.reduceNe]
  refine call_intro (put_spec lw [w_order, w_by] o6 _ _ s6 (t1.mono h6.sub) (by simp; omega)) ?_
  intro r s7 t7
  have g7 := t7.1 _ _ (Hp.set_same _ _ _)
  simp (dsimp := false) (implicitDefEqProofs := false) (disch := first | omega | assumption | (simp only [rL, Nat.reduceAdd]; try omega)) only [↓rA, rZ, List.drop_succ_cons, ne_eq, not_true_eq_false, not_false_eq_true, List.getElem?_cons_zero, List.getElem?_cons_succ, ev, ofConst, ofCell, ↓reduceIte, Nat.reduceEqDiff, Nat.reduceAdd, Nat.reduceSub, Nat.reduceMul, Nat.reduceLeDiff, Nat.reduceLT, Int.reduceNeg, Int.reduceToNat, Int.reduceAdd, Int.reduceSub, Int.reduceMul, Int.reduceLT, Int.reduceLE, Int.reduceEq, Int.reduceNe, Hp.read_of g7]
  refine call_intro (wname_spec lw col hv hk _ _ s7 t7 (by simp; omega)) ?_
  intro r s8 t8
  have g8 := t8.1 _ _ (Hp.set_same _ _ _)
  cases down with
  | false =>
    simp (dsimp := false) (implicitDefEqProofs := false) (disch := first | omega | assumption | (simp only [rL, Nat.reduceAdd]; try omega)) only [↓rA, rZ, List.drop_succ_cons, ne_eq, not_true_eq_false, not_false_eq_true, List.getElem?_cons_zero, List.getElem?_cons_succ, ev, ofConst, ofCell, ↓reduceIte, Nat.reduceEqDiff, Nat.reduceAdd, Nat.reduceSub, Nat.reduceMul, Nat.reduceLeDiff, Nat.reduceLT, Int.reduceNeg, Int.reduceToNat, Int.reduceAdd, Int.reduceSub, Int.reduceMul, Int.reduceLT, Int.reduceLE, Int.reduceEq, Int.reduceNe, Hp.read_of g8]
    exact ⟨_, Hp.sub_refl, by simpa using t8.base back⟩
  | true =>
    simp (dsimp := false) (implicitDefEqProofs := false) (disch := first | omega | assumption | (simp only [rL, Nat.reduceAdd]; try omega)) only [↓rA, rZ, List.drop_succ_cons, ne_eq, not_true_eq_false, not_false_eq_true, List.getElem?_cons_zero, List.getElem?_cons_succ, ev, ofConst, ofCell, ↓reduceIte, Nat.reduceEqDiff, Nat.reduceAdd, Nat.reduceSub, Nat.reduceMul, Nat.reduceLeDiff, Nat.reduceLT, Int.reduceNeg, Int.reduceToNat, Int.reduceAdd, Int.reduceSub, Int.reduceMul, Int.reduceLT, Int.reduceLE, Int.reduceEq, Int.reduceNe, Hp.read_of g8]
    refine bsl_own (s0 := _) Hp.sub_refl (allLen_strs (ws := [w_desc])) fun o9 s9 h9 => ?_
    simp (dsimp := false) (implicitDefEqProofs := false) (disch := first | omega | assumption | (simp only [rL, Nat.reduceAdd]; try omega)) only [↓rA, rZ, List.drop_succ_cons, ne_eq, not_true_eq_false, not_false_eq_true, List.getElem?_cons_zero, List.getElem?_cons_succ, ev, ofConst, ofCell, ↓reduceIte, Nat.reduceEqDiff, Nat.reduceAdd, Nat.reduceSub, Nat.reduceMul, Nat.reduceLeDiff, Nat.reduceLT, Int.reduceNeg, Int.reduceToNat, Int.reduceAdd, Int.reduceSub, Int.reduceMul, Int.reduceLT, Int.reduceLE, Int.reduceEq, Int.reduceNe]
    refine call_intro (put_spec lw [w_desc] o9 _ _ s9 (t8.mono h9.sub) (by simp; omega)) ?_
    intro r sA tA
    simp (dsimp := false) (implicitDefEqProofs := false) (disch := first | omega | assumption | (simp only [rL, Nat.reduceAdd]; try omega)) only [↓rA, rZ, List.drop_succ_cons, ne_eq, not_true_eq_false, not_false_eq_true, List.getElem?_cons_zero, List.getElem?_cons_succ, ev, ofConst, ofCell, ↓reduceIte, Nat.reduceEqDiff, Nat.reduceAdd, Nat.reduceSub, Nat.reduceMul, Nat.reduceLeDiff, Nat.reduceLT, Int.reduceNeg, Int.reduceToNat, Int.reduceAdd, Int.reduceSub, Int.reduceMul, Int.reduceLT, Int.reduceLE, Int.reduceEq, Int.reduceNe]
    exact ⟨_, Hp.sub_refl, by simpa using tA.base back⟩
end Go.Proofs.YtgfbealjkdhdbaaGreatDoor
/-
  strings.Join, from the kit's contract.
-/
set_option maxRecDepth 100000
namespace Go.Proofs.YtgfbealjkdhdbaaGreatDoor
open Go Go.Av Go.RowKit
theorem join_nil (sep : List UInt8) : Lib.join [] sep = [] := rfl
theorem flat_strs : ∀ ws : List (List UInt8), flat (ws.map strV) = ws.map strV
  | [] => rfl
  | a :: t => congrArg (strV a :: ·) (flat_strs t)
theorem Join_spec (ws : List (List UInt8)) (o : Own) (sep : List UInt8) (s : Hp) (hn : ws.length ≤ 100000) (hlen : (Lib.join ws sep).length ≤ 1000000000) :
    AC Tryz.prog 43 [.sl (ws.map strV) o, strV sep] s fun r s' => s' = s ∧ r = strV (Lib.join ws sep) := by
  intro vs w H hv hh
  obtain ⟨hsz, hv⟩ := hv
  have h0 := hv 0 _ rfl
  have h1 := RV.ev_v (hv 1 (.v (.string ⟨sep.toArray⟩)) rfl)
  obtain ⟨v0, v1, rfl⟩ : ∃ v0 v1, vs = #[v0, v1] := by
    obtain ⟨l⟩ := vs
    match l, hsz with
    | [a, b], _ => exact ⟨a, b, rfl⟩
  have h1 : v1 = .string ⟨sep.toArray⟩ := h1
  have h0 : RV H v0 (.sl (ws.map strV) o) := h0
  subst h1
  have hmt : ∀ xs : List (List UInt8), (xs.map fun x => (⟨x.toArray⟩ : ByteArray)).map (·.data.toList) = xs := fun xs => by
    induction xs with
    | nil => rfl
    | cons a t ih => exact congrArg (a :: ·) ih
  generalize hxs : ws.map strV = xs at h0
  cases h0 with
  | slEmpty a cap _ ha ho =>
    obtain rfl : ws = [] := by simpa using hxs
    refine (Tryz.strings_Join_none a cap ⟨sep.toArray⟩ w).mono ?_
    rintro e w' ⟨rfl, rfl⟩
    exact ⟨_, _, H, s, rfl, .refl hh, .v _ rfl, rfl, rfl⟩
  | sl b off len cap k vals _ _ hk hl hcap hel hone hH hR ho =>
    subst hxs
    by_cases hne : ws = []
    · subst hne
      obtain rfl : len = 0 := by simpa using hl
      refine (Tryz.strings_Join_none (some ⟨b, off, none⟩) cap ⟨sep.toArray⟩ w).mono ?_
      rintro e w' ⟨rfl, rfl⟩
      exact ⟨_, _, H, s, rfl, .refl hh, .v _ rfl, rfl, rfl⟩
    obtain ⟨x0, r0, hx0⟩ : ∃ x0 r0, ws = x0 :: r0 := by
      cases ws with
      | nil => exact absurd rfl hne
      | cons a t => exact ⟨a, t, rfl⟩
    have hk1 : k = 1 := by
      have := hel (strV x0) (by rw [hx0]; simp)
      exact this.symm
    subst hk1
    have hlw : len = ws.length := by simpa using hl
    have hfl := flat_strs ws
    have hcell : ∀ (j : Nat) (x : ByteArray), (ws.map fun x => (⟨x.toArray⟩ : ByteArray))[j]? = some x → w.cell? ⟨b, off + j, none⟩ = some (.string x) := by
      intro j x hj
      simp only [List.getElem?_map, Option.map_eq_some_iff] at hj
      obtain ⟨y, hy, rfl⟩ := hj
      have hjl : j < ws.length := (List.getElem?_eq_some_iff.1 hy).1
      have hr := RV.ev_v (hR j (.v (.string ⟨y.toArray⟩)) (by rw [hfl, List.getElem?_map, hy]; rfl))
      rw [hh.ro b (off + j) (vals j) (hH j (by omega)), hr]
    have hbk : b < w.heap.size := hh.lt (hH 0 (by rw [hlw, hx0]; simp))
    have hc := Tryz.strings_Join b off cap (ws.map fun x => (⟨x.toArray⟩ : ByteArray)) ⟨sep.toArray⟩ w hcell hbk (by simp; omega) (by simp; omega) (by rw [hmt]; simp; omega)
    rw [List.length_map, ← hlw, hmt] at hc
    refine hc.mono ?_
    rintro e w' ⟨rfl, hb⟩
    exact ⟨_, _, H, s, rfl, Step.below hh hb, .v _ rfl, rfl, rfl⟩
end Go.Proofs.YtgfbealjkdhdbaaGreatDoor
/-
  parse.Text of a statement (a select that may be written).
-/
set_option maxRecDepth 100000
namespace Go.Proofs.YtgfbealjkdhdbaaGreatDoor
open Go Go.Av
structure SelOk (x : Sel) : Prop where
  tab : isNameS x.tab = true
  tkey : x.tab ∉ keys
  count : x.count = false
  asof : x.asof = -1
  wh : ∀ c ∈ x.wh, CondOk c
  wh1 : 0 < x.wh.length
  wh2 : x.wh.length ≤ 100
  col : isNameS x.srt.col = true
  ckey : x.srt.col ∉ keys
  pt : x.srt.pt = []
  lim : 0 ≤ x.lim ∧ x.lim ≤ 9223372036854775807
def selT (x : Sel) : List (List UInt8) :=
  [w_select] ++ [w_star] ++ [w_from] ++ [x.tab] ++ [w_where] ++ allS x.wh x.wh.length ++ [w_order, w_by] ++ [x.srt.col] ++ (if x.srt.down = true then [w_desc] else []) ++ [w_limit] ++ [itoaS x.lim]
def SelV (x : Sel) (av : List AV) (ow op : Own) : List AV := [strV x.tab, .v (.bool x.count), .v (.int .i64 x.asof), .sl av ow, strV x.srt.col, .v (.bool x.srt.down), .sl [] op, .v (.int .i64 x.lim)]
theorem SelV_cells {x : Sel} {av : List AV} {ow op : Own} : (AV.agg (SelV x av ow op)).cells = SelV x av ow op := rfl
theorem SelV_len {x : Sel} {av : List AV} {ow op : Own} : (SelV x av ow op).length = 8 := rfl
theorem rdS0 {x : Sel} {av : List AV} {ow op : Own} : rdA false 1 0 (some (SelV x av ow op)) = some (strV x.tab) := rfl
theorem rdS1 {x : Sel} {av : List AV} {ow op : Own} : rdA false 1 1 (some (SelV x av ow op)) = some (.v (.bool x.count)) := rfl
theorem rdS2 {x : Sel} {av : List AV} {ow op : Own} : rdA false 1 2 (some (SelV x av ow op)) = some (.v (.int .i64 x.asof)) := rfl
theorem rdS3 {x : Sel} {av : List AV} {ow op : Own} : rdA false 1 3 (some (SelV x av ow op)) = some (.sl av ow) := rfl
theorem rdS4 {x : Sel} {av : List AV} {ow op : Own} : rdA true 3 4 (some (SelV x av ow op)) = some (.agg [strV x.srt.col, .v (.bool x.srt.down), .sl [] op]) := rfl
theorem rdS7 {x : Sel} {av : List AV} {ow op : Own} : rdA false 1 7 (some (SelV x av ow op)) = some (.v (.int .i64 x.lim)) := rfl
theorem rdSA {x : Sel} {av : List AV} {ow op : Own} : rdA true 8 0 (some (SelV x av ow op)) = some (.agg (SelV x av ow op)) := rfl
theorem putS {x : Sel} {av : List AV} {ow op : Own} {xs : List AV} (h : xs.length = 8) : putAt xs 0 (SelV x av ow op) = SelV x av ow op := by simp [putAt, h, SelV_len]
def rSel := And.intro @SelV_cells <| And.intro @SelV_len <| And.intro @rdS0 <| And.intro @rdS1 <| And.intro @rdS2 <| And.intro @rdS3 <| And.intro @rdS4 <| And.intro @rdS7 @rdSA
theorem wselection_spec (lw : Nat) (x : Sel) (hx : SelOk x) (av : List AV) (ow op : Own) (hA : AllV condR x.wh av) (s0 s : Hp) (hT : Tabs s0) (h : WR lw [] s0 s) :
    AC Tryz.prog 68 [.ptr lw 0, .agg (SelV x av ow op)] s fun _ s' => WR lw (selT x) s0 s' := by
  refine AC_run hm prep68 (by simp) ?_
  simp (dsimp := false) (implicitDefEqProofs := false) (disch := first | omega | assumption | (simp only [rL, Nat.reduceAdd]; try omega)) only [↓rA, rZ, List.drop_succ_cons, ne_eq, not_true_eq_false, not_false_eq_true, List.getElem?_cons_zero, List.getElem?_cons_succ, ev, ofConst, ofCell, ↓reduceIte, Nat.reduceEqDiff, Nat.reduceAdd, Nat.reduceSub, Nat.reduceMul, Nat.reduceLeDiff, Nat.reduceLT, Int.reduceNeg, Int.reduceToNat, Int.reduceAdd, Int.reduceSub, Int.reduceMul, Int.reduceLT, Int.reduceLE, Int.reduceEq, Int.reduceNe, rSel]
  refine newK_intro fun l3 n3 => ?_
  have d3 := h.ne n3
  have n03 := Hp.sub_none h.1 n3
  have t1 := (h.mono (Hp.sub_new (o := .cells (SelV x av ow op)) Hp.sub_refl n3)).with (Hp.set_same _ _ _) d3
  have hT1 : Tabs (s0.set l3 (.cells (SelV x av ow op))) := hT.mono (Hp.sub_new Hp.sub_refl n03)
  have back : (s0.sub (s0.set l3 (.cells (SelV x av ow op)))) := Hp.sub_new Hp.sub_refl n03
  simp (dsimp := false) (implicitDefEqProofs := false) (disch := first | omega | assumption | (simp only [rL, Nat.reduceAdd]; try omega)) only [↓rA, rZ, List.drop_succ_cons, ne_eq, not_true_eq_false, not_false_eq_true, List.getElem?_cons_zero, List.getElem?_cons_succ, ev, ofConst, ofCell, ↓reduceIte, Nat.reduceEqDiff, Nat.reduceAdd, Nat.reduceSub, Nat.reduceMul, Nat.reduceLeDiff, Nat.reduceLT, Int.reduceNeg, Int.reduceToNat, Int.reduceAdd, Int.reduceSub, Int.reduceMul, Int.reduceLT, Int.reduceLE, Int.reduceEq, Int.reduceNe, rSel]
  refine bsl_own (s0 := _) Hp.sub_refl (allLen_strs (ws := [w_select])) fun o4 s4 h4 => ?_
  simp (dsimp := false) (implicitDefEqProofs := false) (disch := first | omega | assumption | (simp only [rL, Nat.reduceAdd]; try omega)) only [↓rA, rZ, List.drop_succ_cons, ne_eq, not_true_eq_false, not_false_eq_true, List.getElem?_cons_zero, List.getElem?_cons_succ, ev, ofConst, ofCell, ↓reduceIte, Nat.reduceEqDiff, Nat.reduceAdd, Nat.reduceSub, Nat.reduceMul, Nat.reduceLeDiff, Nat.reduceLT, Int.reduceNeg, Int.reduceToNat, Int.reduceAdd, Int.reduceSub, Int.reduceMul, Int.reduceLT, Int.reduceLE, Int.reduceEq, Int.reduceNe]
  refine call_intro (put_spec lw [w_select] o4 _ _ s4 (t1.mono h4.sub) (by simp)) ?_
  intro r s5 t5
  have g5 := t5.1 _ _ (Hp.set_same _ _ _)
  have hcnt := hx.count
  simp (dsimp := false) (implicitDefEqProofs := false) (disch := first | omega | assumption | (simp only [rL, Nat.reduceAdd]; try omega)) only [↓rA, rZ, List.drop_succ_cons, ne_eq, not_true_eq_false, not_false_eq_true, List.getElem?_cons_zero, List.getElem?_cons_succ, ev, ofConst, ofCell, ↓reduceIte, Nat.reduceEqDiff, Nat.reduceAdd, Nat.reduceSub, Nat.reduceMul, Nat.reduceLeDiff, Nat.reduceLT, Int.reduceNeg, Int.reduceToNat, Int.reduceAdd, Int.reduceSub, Int.reduceMul, Int.reduceLT, Int.reduceLE, Int.reduceEq, Int.reduceNe, Hp.read_of g5, rSel, hcnt]
  refine bsl_own (s0 := _) Hp.sub_refl (allLen_strs (ws := [w_star])) fun o6 s6 h6 => ?_
  simp (dsimp := false) (implicitDefEqProofs := false) (disch := first | omega | assumption | (simp only [rL, Nat.reduceAdd]; try omega)) only [↓rA, rZ, List.drop_succ_cons, ne_eq, not_true_eq_false, not_false_eq_true, List.getElem?_cons_zero, List.getElem?_cons_succ, ev, ofConst, ofCell, ↓reduceIte, Nat.reduceEqDiff, Nat.reduceAdd, Nat.reduceSub, Nat.reduceMul, Nat.reduceLeDiff, Nat.reduceLT, Int.reduceNeg, Int.reduceToNat, Int.reduceAdd, Int.reduceSub, Int.reduceMul, Int.reduceLT, Int.reduceLE, Int.reduceEq, Int.reduceNe]
  refine call_intro (put_spec lw [w_star] o6 _ _ s6 (t5.mono h6.sub) (by simp)) ?_
  intro r s7 t7
  simp (dsimp := false) (implicitDefEqProofs := false) (disch := first | omega | assumption | (simp only [rL, Nat.reduceAdd]; try omega)) only [↓rA, rZ, List.drop_succ_cons, ne_eq, not_true_eq_false, not_false_eq_true, List.getElem?_cons_zero, List.getElem?_cons_succ, ev, ofConst, ofCell, ↓reduceIte, Nat.reduceEqDiff, Nat.reduceAdd, Nat.reduceSub, Nat.reduceMul, Nat.reduceLeDiff, Nat.reduceLT, Int.reduceNeg, Int.reduceToNat, Int.reduceAdd, Int.reduceSub, Int.reduceMul, Int.reduceLT, Int.reduceLE, Int.reduceEq, Int.reduceNe]
  refine bsl_own (s0 := _) Hp.sub_refl (allLen_strs (ws := [w_from])) fun o8 s8 h8 => ?_
  simp (dsimp := false) (implicitDefEqProofs := false) (disch := first | omega | assumption | (simp only [rL, Nat.reduceAdd]; try omega)) only [↓rA, rZ, List.drop_succ_cons, ne_eq, not_true_eq_false, not_false_eq_true, List.getElem?_cons_zero, List.getElem?_cons_succ, ev, ofConst, ofCell, ↓reduceIte, Nat.reduceEqDiff, Nat.reduceAdd, Nat.reduceSub, Nat.reduceMul, Nat.reduceLeDiff, Nat.reduceLT, Int.reduceNeg, Int.reduceToNat, Int.reduceAdd, Int.reduceSub, Int.reduceMul, Int.reduceLT, Int.reduceLE, Int.reduceEq, Int.reduceNe]
  refine call_intro (put_spec lw [w_from] o8 _ _ s8 (t7.mono h8.sub) (by simp)) ?_
  intro r s9 t9
  have g9 := t9.1 _ _ (Hp.set_same _ _ _)
  simp (dsimp := false) (implicitDefEqProofs := false) (disch := first | omega | assumption | (simp only [rL, Nat.reduceAdd]; try omega)) only [↓rA, rZ, List.drop_succ_cons, ne_eq, not_true_eq_false, not_false_eq_true, List.getElem?_cons_zero, List.getElem?_cons_succ, ev, ofConst, ofCell, ↓reduceIte, Nat.reduceEqDiff, Nat.reduceAdd, Nat.reduceSub, Nat.reduceMul, Nat.reduceLeDiff, Nat.reduceLT, Int.reduceNeg, Int.reduceToNat, Int.reduceAdd, Int.reduceSub, Int.reduceMul, Int.reduceLT, Int.reduceLE, Int.reduceEq, Int.reduceNe, Hp.read_of g9, rSel]
  refine call_intro (wname_spec lw x.tab hx.tab hx.tkey _ _ s9 t9 (by simp)) ?_
  intro r sA tA
  have gA := tA.1 _ _ (Hp.set_same _ _ _)
  have hasof := hx.asof
  simp (dsimp := false) (implicitDefEqProofs := false) (disch := first | omega | assumption | (simp only [rL, Nat.reduceAdd]; try omega)) only [↓rA, rZ, List.drop_succ_cons, ne_eq, not_true_eq_false, not_false_eq_true, List.getElem?_cons_zero, List.getElem?_cons_succ, ev, ofConst, ofCell, ↓reduceIte, Nat.reduceEqDiff, Nat.reduceAdd, Nat.reduceSub, Nat.reduceMul, Nat.reduceLeDiff, Nat.reduceLT, Int.reduceNeg, Int.reduceToNat, Int.reduceAdd, Int.reduceSub, Int.reduceMul, Int.reduceLT, Int.reduceLE, Int.reduceEq, Int.reduceNe, Hp.read_of gA, rSel, hasof]
  refine bsl_own (s0 := _) Hp.sub_refl (allLen_strs (ws := [w_as, w_of])) fun oB sB hB => ?_
  simp (dsimp := false) (implicitDefEqProofs := false) (disch := first | omega | assumption | (simp only [rL, Nat.reduceAdd]; try omega)) only [↓rA, rZ, List.drop_succ_cons, ne_eq, not_true_eq_false, not_false_eq_true, List.getElem?_cons_zero, List.getElem?_cons_succ, ev, ofConst, ofCell, ↓reduceIte, Nat.reduceEqDiff, Nat.reduceAdd, Nat.reduceSub, Nat.reduceMul, Nat.reduceLeDiff, Nat.reduceLT, Int.reduceNeg, Int.reduceToNat, Int.reduceAdd, Int.reduceSub, Int.reduceMul, Int.reduceLT, Int.reduceLE, Int.reduceEq, Int.reduceNe]
  refine call_intro (wafter_none lw _ _ _ sB (tA.mono hB.sub)) ?_
  intro r sC tC
  have gC := tC.1 _ _ (Hp.set_same _ _ _)
  simp (dsimp := false) (implicitDefEqProofs := false) (disch := first | omega | assumption | (simp only [rL, Nat.reduceAdd]; try omega)) only [↓rA, rZ, List.drop_succ_cons, ne_eq, not_true_eq_false, not_false_eq_true, List.getElem?_cons_zero, List.getElem?_cons_succ, ev, ofConst, ofCell, ↓reduceIte, Nat.reduceEqDiff, Nat.reduceAdd, Nat.reduceSub, Nat.reduceMul, Nat.reduceLeDiff, Nat.reduceLT, Int.reduceNeg, Int.reduceToNat, Int.reduceAdd, Int.reduceSub, Int.reduceMul, Int.reduceLT, Int.reduceLE, Int.reduceEq, Int.reduceNe, Hp.read_of gC, rSel]
  refine call_intro (wwhere_spec lw x.wh hx.wh av ow hA hx.wh1 (by have := hx.wh2; omega) _ _ sC hT1 tC (by simp)) ?_
  intro r sD tD
  have gD := tD.1 _ _ (Hp.set_same _ _ _)
  have hal := allS_len x.wh x.wh.length
  have hw2 := hx.wh2
  simp (dsimp := false) (implicitDefEqProofs := false) (disch := first | omega | assumption | (simp only [rL, Nat.reduceAdd]; try omega)) only [↓rA, rZ, List.drop_succ_cons, ne_eq, not_true_eq_false, not_false_eq_true, List.getElem?_cons_zero, List.getElem?_cons_succ, ev, ofConst, ofCell, ↓reduceIte, Nat.reduceEqDiff, Nat.reduceAdd, Nat.reduceSub, Nat.reduceMul, Nat.reduceLeDiff, Nat.reduceLT, Int.reduceNeg, Int.reduceToNat, Int.reduceAdd, Int.reduceSub, Int.reduceMul, Int.reduceLT, Int.reduceLE, Int.reduceEq, Int.reduceNe, Hp.read_of gD, rSel]
  refine call_intro (wsorting_spec lw x.srt.col hx.col hx.ckey x.srt.down op _ _ sD tD (by simp; omega)) ?_
  intro r sE tE
  have gE := tE.1 _ _ (Hp.set_same _ _ _)
  simp (dsimp := false) (implicitDefEqProofs := false) (disch := first | omega | assumption | (simp only [rL, Nat.reduceAdd]; try omega)) only [↓rA, rZ, List.drop_succ_cons, ne_eq, not_true_eq_false, not_false_eq_true, List.getElem?_cons_zero, List.getElem?_cons_succ, ev, ofConst, ofCell, ↓reduceIte, Nat.reduceEqDiff, Nat.reduceAdd, Nat.reduceSub, Nat.reduceMul, Nat.reduceLeDiff, Nat.reduceLT, Int.reduceNeg, Int.reduceToNat, Int.reduceAdd, Int.reduceSub, Int.reduceMul, Int.reduceLT, Int.reduceLE, Int.reduceEq, Int.reduceNe, Hp.read_of gE, rSel]
  refine bsl_own (s0 := _) Hp.sub_refl (allLen_strs (ws := [w_limit])) fun oF sF hF => ?_
  simp (dsimp := false) (implicitDefEqProofs := false) (disch := first | omega | assumption | (simp only [rL, Nat.reduceAdd]; try omega)) only [↓rA, rZ, List.drop_succ_cons, ne_eq, not_true_eq_false, not_false_eq_true, List.getElem?_cons_zero, List.getElem?_cons_succ, ev, ofConst, ofCell, ↓reduceIte, Nat.reduceEqDiff, Nat.reduceAdd, Nat.reduceSub, Nat.reduceMul, Nat.reduceLeDiff, Nat.reduceLT, Int.reduceNeg, Int.reduceToNat, Int.reduceAdd, Int.reduceSub, Int.reduceMul, Int.reduceLT, Int.reduceLE, Int.reduceEq, Int.reduceNe]
  refine call_intro (wafter_spec lw x.lim hx.lim.1 hx.lim.2 [w_limit] oF _ _ sF hT1 (tE.mono hF.sub) (by
    have : (if x.srt.down = true then [w_desc] else []).length ≤ 1 := by split <;> simp
    simp only [List.length_append, List.length_cons, List.length_nil]; omega)) ?_
  intro r sG tG
  simp (dsimp := false) (implicitDefEqProofs := false) (disch := first | omega | assumption | (simp only [rL, Nat.reduceAdd]; try omega)) only [↓rA, rZ, List.drop_succ_cons, ne_eq, not_true_eq_false, not_false_eq_true, List.getElem?_cons_zero, List.getElem?_cons_succ, ev, ofConst, ofCell, ↓reduceIte, Nat.reduceEqDiff, Nat.reduceAdd, Nat.reduceSub, Nat.reduceMul, Nat.reduceLeDiff, Nat.reduceLT, Int.reduceNeg, Int.reduceToNat, Int.reduceAdd, Int.reduceSub, Int.reduceMul, Int.reduceLT, Int.reduceLE, Int.reduceEq, Int.reduceNe]
  refine ⟨_, Hp.sub_refl, ?_⟩
  have := tG.base back
  simpa [selT] using this
theorem wstatement_spec (lw : Nat) (x : Sel) (hx : SelOk x) (av : List AV) (ow op : Own) (hA : AllV condR x.wh av) (s0 s : Hp) (hT : Tabs s0) (h : WR lw [] s0 s) :
    AC Tryz.prog 42 [.ptr lw 0, .iface 99 (.agg (SelV x av ow op))] s fun _ s' => WR lw (selT x) s0 s' := by
  refine AC_run hm prep42 (by simp) ?_
  simp (dsimp := false) (implicitDefEqProofs := false) (disch := first | omega | assumption | (simp only [rL, Nat.reduceAdd]; try omega)) only [↓rA, rZ, List.drop_succ_cons, ne_eq, not_true_eq_false, not_false_eq_true, List.getElem?_cons_zero, List.getElem?_cons_succ, ev, ofConst, ofCell, ↓reduceIte, Nat.reduceEqDiff, Nat.reduceAdd, Nat.reduceSub, Nat.reduceMul, Nat.reduceLeDiff, Nat.reduceLT, Int.reduceNeg, Int.reduceToNat, Int.reduceAdd, Int.reduceSub, Int.reduceMul, Int.reduceLT, Int.reduceLE, Int.reduceEq, Int.reduceNe]
  refine newK_intro fun l2 n2 => ?_
  have d2 := h.ne n2
  have n02 := Hp.sub_none h.1 n2
  have t1 := (h.mono (Hp.sub_new (o := .cells [.ptr lw 0]) Hp.sub_refl n2)).with (Hp.set_same _ _ _) d2
  have hT1 : Tabs (s0.set l2 (.cells [.ptr lw 0])) := hT.mono (Hp.sub_new Hp.sub_refl n02)
  have back : (s0.sub (s0.set l2 (.cells [.ptr lw 0]))) := Hp.sub_new Hp.sub_refl n02
  have k1 : (99 : TypeId) ≠ 89 := by decide
  have k2 : (99 : TypeId) ≠ 91 := by decide
  have k3 : (99 : TypeId) ≠ 93 := by decide
  have k4 : (99 : TypeId) ≠ 95 := by decide
  have k5 : (99 : TypeId) ≠ 97 := by decide
  simp (dsimp := false) (implicitDefEqProofs := false) (disch := first | omega | assumption | (simp only [rL, Nat.reduceAdd]; try omega)) only [↓rA, rZ, List.drop_succ_cons, ne_eq, not_true_eq_false, not_false_eq_true, List.getElem?_cons_zero, List.getElem?_cons_succ, ev, ofConst, ofCell, ↓reduceIte, Nat.reduceEqDiff, Nat.reduceAdd, Nat.reduceSub, Nat.reduceMul, Nat.reduceLeDiff, Nat.reduceLT, Int.reduceNeg, Int.reduceToNat, Int.reduceAdd, Int.reduceSub, Int.reduceMul, Int.reduceLT, Int.reduceLE, Int.reduceEq, Int.reduceNe, asrtA_yes, asrtA_no]
  refine newK_intro fun l9 n9 => ?_
  have d9 : l2 ≠ l9 := by rintro rfl; rw [Hp.set_same] at n9; cases n9
  have d9' := Ne.symm d9
  simp (dsimp := false) (implicitDefEqProofs := false) (disch := first | omega | assumption | (simp only [rL, Nat.reduceAdd]; try omega)) only [↓rA, rZ, List.drop_succ_cons, ne_eq, not_true_eq_false, not_false_eq_true, List.getElem?_cons_zero, List.getElem?_cons_succ, ev, ofConst, ofCell, ↓reduceIte, Nat.reduceEqDiff, Nat.reduceAdd, Nat.reduceSub, Nat.reduceMul, Nat.reduceLeDiff, Nat.reduceLT, Int.reduceNeg, Int.reduceToNat, Int.reduceAdd, Int.reduceSub, Int.reduceMul, Int.reduceLT, Int.reduceLE, Int.reduceEq, Int.reduceNe, rSel, Hp.set_ne, d9, d9', putS]
  refine call_intro (wselection_spec lw x hx av ow op hA _ _ hT1 (t1.mono (Hp.sub_new Hp.sub_refl n9))) ?_
  intro r s5 t5
  simp (dsimp := false) (implicitDefEqProofs := false) (disch := first | omega | assumption | (simp only [rL, Nat.reduceAdd]; try omega)) only [↓rA, rZ, List.drop_succ_cons, ne_eq, not_true_eq_false, not_false_eq_true, List.getElem?_cons_zero, List.getElem?_cons_succ, ev, ofConst, ofCell, ↓reduceIte, Nat.reduceEqDiff, Nat.reduceAdd, Nat.reduceSub, Nat.reduceMul, Nat.reduceLeDiff, Nat.reduceLT, Int.reduceNeg, Int.reduceToNat, Int.reduceAdd, Int.reduceSub, Int.reduceMul, Int.reduceLT, Int.reduceLE, Int.reduceEq, Int.reduceNe]
  exact ⟨_, Hp.sub_refl, t5.base back⟩
theorem pText_spec (x : Sel) (hx : SelOk x) (av : List AV) (ow op : Own) (hA : AllV condR x.wh av) (s : Hp) (hT : Tabs s) (hle : (Lib.join (selT x) [32]).length ≤ 1000000) :
    AC Tryz.prog 24 [.iface 99 (.agg (SelV x av ow op))] s fun r s' => s.sub s' ∧ r = .tup [strV (Lib.join (selT x) [32]), .v (.bool true)] := by
  refine AC_run hm prep24 (by simp) ?_
  simp (dsimp := false) (implicitDefEqProofs := false) (disch := first | omega | assumption | (simp only [rL, Nat.reduceAdd]; try omega)) only [↓rA, rZ, List.drop_succ_cons, ne_eq, not_true_eq_false, not_false_eq_true, List.getElem?_cons_zero, List.getElem?_cons_succ, ev, ofConst, ofCell, ↓reduceIte, Nat.reduceEqDiff, Nat.reduceAdd, Nat.reduceSub, Nat.reduceMul, Nat.reduceLeDiff, Nat.reduceLT, Int.reduceNeg, Int.reduceToNat, Int.reduceAdd, Int.reduceSub, Int.reduceMul, Int.reduceLT, Int.reduceLE, Int.reduceEq, Int.reduceNe]
  refine newK_intro fun lw nw => ?_
  have h0 : WR lw [] s (s.set lw (.cells [.sl [] .nil, .v (.bool false)])) := ⟨Hp.sub_new Hp.sub_refl nw, nw, .nil, Owned.nil (Hp.sub_new Hp.sub_refl nw), Hp.set_same _ _ _⟩
  simp (dsimp := false) (implicitDefEqProofs := false) (disch := first | omega | assumption | (simp only [rL, Nat.reduceAdd]; try omega)) only [↓rA, rZ, List.drop_succ_cons, ne_eq, not_true_eq_false, not_false_eq_true, List.getElem?_cons_zero, List.getElem?_cons_succ, ev, ofConst, ofCell, ↓reduceIte, Nat.reduceEqDiff, Nat.reduceAdd, Nat.reduceSub, Nat.reduceMul, Nat.reduceLeDiff, Nat.reduceLT, Int.reduceNeg, Int.reduceToNat, Int.reduceAdd, Int.reduceSub, Int.reduceMul, Int.reduceLT, Int.reduceLE, Int.reduceEq, Int.reduceNe]
  refine call_intro (wstatement_spec lw x hx av ow op hA s _ hT h0) ?_
  intro r s2 t2
  obtain ⟨h1, h2, o, h3, h4⟩ := t2
  simp (dsimp := false) (implicitDefEqProofs := false) (disch := first | omega | assumption | (simp only [rL, Nat.reduceAdd]; try omega)) only [↓rA, rZ, List.drop_succ_cons, ne_eq, not_true_eq_false, not_false_eq_true, List.getElem?_cons_zero, List.getElem?_cons_succ, ev, ofConst, ofCell, ↓reduceIte, Nat.reduceEqDiff, Nat.reduceAdd, Nat.reduceSub, Nat.reduceMul, Nat.reduceLeDiff, Nat.reduceLT, Int.reduceNeg, Int.reduceToNat, Int.reduceAdd, Int.reduceSub, Int.reduceMul, Int.reduceLT, Int.reduceLE, Int.reduceEq, Int.reduceNe, Hp.read_of h4]
  refine call_intro (Join_spec (selT x) o [32] s2 (by
    have hal := allS_len x.wh x.wh.length
    have hw2 := hx.wh2
    have : (if x.srt.down = true then [w_desc] else []).length ≤ 1 := by split <;> simp
    simp only [selT, List.length_append, List.length_cons, List.length_nil]; omega) (by omega)) ?_
  rintro _ _ ⟨rfl, rfl⟩
  simp (dsimp := false) (implicitDefEqProofs := false) (disch := first | omega | assumption | (simp only [rL, Nat.reduceAdd]; try omega)) only [↓rA, rZ, List.drop_succ_cons, ne_eq, not_true_eq_false, not_false_eq_true, List.getElem?_cons_zero, List.getElem?_cons_succ, ev, ofConst, ofCell, ↓reduceIte, Nat.reduceEqDiff, Nat.reduceAdd, Nat.reduceSub, Nat.reduceMul, Nat.reduceLeDiff, Nat.reduceLT, Int.reduceNeg, Int.reduceToNat, Int.reduceAdd, Int.reduceSub, Int.reduceMul, Int.reduceLT, Int.reduceLE, Int.reduceEq, Int.reduceNe]
  exact ⟨_, Hp.sub_refl, h1⟩
end Go.Proofs.YtgfbealjkdhdbaaGreatDoor
/-
  law24.alive.
-/
set_option maxRecDepth 100000
namespace Go.Proofs.YtgfbealjkdhdbaaGreatDoor
open Go Go.Av
def X1 : Sel := ⟨[116], false, -1, [⟨[97], w_ge, 1, 0⟩, ⟨[98], w_between, 2, 3⟩], ⟨[97], true, []⟩, 5⟩
theorem p1 : parseT [83, 69, 76, 69, 67, 84, 32, 42, 32, 70, 82, 79, 77, 32, 116, 32, 87, 72, 69, 82, 69, 32, 97, 32, 62, 61, 32, 49, 32, 65, 78, 68, 32, 98, 32, 66, 69, 84, 87, 69, 69, 78, 32, 50, 32, 65, 78, 68, 32, 51, 32, 79, 82, 68, 69, 82, 32, 66, 89, 32, 97, 32, 68, 69, 83, 67, 32, 76, 73, 77, 73, 84, 32, 53] = .ok (.sel X1) := by kernel_rfl
theorem p2 : parseT [105, 110, 115, 101, 114, 116, 32, 105, 110, 116, 111, 32, 116, 32, 118, 97, 108, 117, 101, 115, 32, 40, 49, 44, 32, 50, 41, 44, 32, 40, 51, 44, 32, 52, 41] = .ok (.insert [116] [[1, 2], [3, 4]]) := by kernel_rfl
theorem p3 : parseT [115, 101, 108, 101, 99, 116, 32, 42, 32, 102, 114, 111, 109, 32, 102, 114, 111, 109] = .error 2 := by kernel_rfl
theorem p4 : parseT [115, 101, 108, 101, 99, 116, 32, 42, 32, 102, 114, 111, 109, 32, 116, 32, 108, 105, 109, 105, 116, 32, 45, 49] = .error 7 := by kernel_rfl
theorem p5 : Lib.join (selT X1) [32] = [115, 101, 108, 101, 99, 116, 32, 42, 32, 102, 114, 111, 109, 32, 116, 32, 119, 104, 101, 114, 101, 32, 97, 32, 62, 61, 32, 49, 32, 97, 110, 100, 32, 98, 32, 98, 101, 116, 119, 101, 101, 110, 32, 50, 32, 97, 110, 100, 32, 51, 32, 111, 114, 100, 101, 114, 32, 98, 121, 32, 97, 32, 100, 101, 115, 99, 32, 108, 105, 109, 105, 116, 32, 53] := by kernel_rfl
theorem X1_ok : SelOk X1 where
  tab := by decide
  tkey := by decide
  count := rfl
  asof := rfl
  wh := by
    intro c hc
    simp only [X1, List.mem_cons, List.not_mem_nil, or_false] at hc
    rcases hc with rfl | rfl
    · exact ⟨by decide, by decide, .inr ⟨rfl, rfl⟩, by decide, by decide⟩
    · exact ⟨by decide, by decide, .inl rfl, by decide, by decide⟩
  wh1 := by decide
  wh2 := by decide
  col := by decide
  ckey := by decide
  pt := rfl
  lim := by decide
theorem alive24_spec (s : Hp) (hT : Tabs s) : AC Tryz.prog 9 [] s fun r s' => s.sub s' ∧ r = .v (.bool true) := by
  refine AC_run hm prep9 (by simp) ?_
  obtain ⟨X, hX⟩ : ∃ X, X = X1 := ⟨_, rfl⟩
  have hp1 := p1
  have hp5 := p5
  have hok := X1_ok
  rw [← hX] at hp1 hp5 hok
  clear hX
  simp (dsimp := false) (implicitDefEqProofs := false) (disch := first | omega | assumption | (simp only [rL, Nat.reduceAdd]; try omega)) only [↓rA, rZ, List.drop_succ_cons, ne_eq, not_true_eq_false, not_false_eq_true, List.getElem?_cons_zero, List.getElem?_cons_succ, ev, ofConst, ofCell, ↓reduceIte, Nat.reduceEqDiff, Nat.reduceAdd, Nat.reduceSub, Nat.reduceMul, Nat.reduceLeDiff, Nat.reduceLT, Int.reduceNeg, Int.reduceToNat, Int.reduceAdd, Int.reduceSub, Int.reduceMul, Int.reduceLT, Int.reduceLE, Int.reduceEq, Int.reduceNe]
  refine call_intro (Parse_spec _ s hT) ?_
  rintro r s1 ⟨h1, hr⟩
  rw [hp1] at hr
  obtain ⟨a, ⟨c, p, ⟨aw, ow, hAw, rfl⟩, ⟨ap, op, hAp, rfl⟩, rfl⟩, rfl⟩ := hr
  rw [hok.pt] at hAp
  obtain rfl : ap = [] := by
    cases ap with
    | nil => rfl
    | cons _ _ => exact hAp.elim
  have hT1 := hT.mono h1
  have eV : (AV.agg [strV X.tab, .v (.bool X.count), .v (.int .i64 X.asof), .sl aw ow, strV X.srt.col, .v (.bool X.srt.down), .sl [] op, .v (.int .i64 X.lim)]) = .agg (SelV X aw ow op) := rfl
  rw [eV]
  simp (dsimp := false) (implicitDefEqProofs := false) (disch := first | omega | assumption | (simp only [rL, Nat.reduceAdd]; try omega)) only [↓rA, rZ, List.drop_succ_cons, ne_eq, not_true_eq_false, not_false_eq_true, List.getElem?_cons_zero, List.getElem?_cons_succ, ev, ofConst, ofCell, ↓reduceIte, Nat.reduceEqDiff, Nat.reduceAdd, Nat.reduceSub, Nat.reduceMul, Nat.reduceLeDiff, Nat.reduceLT, Int.reduceNeg, Int.reduceToNat, Int.reduceAdd, Int.reduceSub, Int.reduceMul, Int.reduceLT, Int.reduceLE, Int.reduceEq, Int.reduceNe]
  refine call_intro (pText_spec X hok aw ow op hAw s1 hT1 (by rw [hp5]; decide)) ?_
  rintro _ s2 ⟨h2, rfl⟩
  rw [hp5]
  have hT2 := hT1.mono h2
  simp (dsimp := false) (implicitDefEqProofs := false) (disch := first | omega | assumption | (simp only [rL, Nat.reduceAdd]; try omega)) only [↓rA, rZ, List.drop_succ_cons, ne_eq, not_true_eq_false, not_false_eq_true, List.getElem?_cons_zero, List.getElem?_cons_succ, ev, ofConst, ofCell, ↓reduceIte, Nat.reduceEqDiff, Nat.reduceAdd, Nat.reduceSub, Nat.reduceMul, Nat.reduceLeDiff, Nat.reduceLT, Int.reduceNeg, Int.reduceToNat, Int.reduceAdd, Int.reduceSub, Int.reduceMul, Int.reduceLT, Int.reduceLE, Int.reduceEq, Int.reduceNe, strV]
  refine call_intro (Parse_spec _ s2 hT2) ?_
  rintro r s3 ⟨h3, hr⟩
  rw [p2] at hr
  obtain ⟨b, hb, rfl⟩ := hr
  have hT3 := hT2.mono h3
  simp (dsimp := false) (implicitDefEqProofs := false) (disch := first | omega | assumption | (simp only [rL, Nat.reduceAdd]; try omega)) only [↓rA, rZ, List.drop_succ_cons, ne_eq, not_true_eq_false, not_false_eq_true, List.getElem?_cons_zero, List.getElem?_cons_succ, ev, ofConst, ofCell, ↓reduceIte, Nat.reduceEqDiff, Nat.reduceAdd, Nat.reduceSub, Nat.reduceMul, Nat.reduceLeDiff, Nat.reduceLT, Int.reduceNeg, Int.reduceToNat, Int.reduceAdd, Int.reduceSub, Int.reduceMul, Int.reduceLT, Int.reduceLE, Int.reduceEq, Int.reduceNe]
  refine call_intro (Parse_spec _ s3 hT3) ?_
  rintro r s4 ⟨h4, hr⟩
  rw [p3] at hr
  obtain rfl := hr
  have hT4 := hT3.mono h4
  simp (dsimp := false) (implicitDefEqProofs := false) (disch := first | omega | assumption | (simp only [rL, Nat.reduceAdd]; try omega)) only [↓rA, rZ, List.drop_succ_cons, ne_eq, not_true_eq_false, not_false_eq_true, List.getElem?_cons_zero, List.getElem?_cons_succ, ev, ofConst, ofCell, ↓reduceIte, Nat.reduceEqDiff, Nat.reduceAdd, Nat.reduceSub, Nat.reduceMul, Nat.reduceLeDiff, Nat.reduceLT, Int.reduceNeg, Int.reduceToNat, Int.reduceAdd, Int.reduceSub, Int.reduceMul, Int.reduceLT, Int.reduceLE, Int.reduceEq, Int.reduceNe]
  refine call_intro (Parse_spec _ s4 hT4) ?_
  rintro r s5 ⟨h5, hr⟩
  rw [p4] at hr
  obtain rfl := hr
  simp (dsimp := false) (implicitDefEqProofs := false) (disch := first | omega | assumption | (simp only [rL, Nat.reduceAdd]; try omega)) only [↓rA, rZ, List.drop_succ_cons, ne_eq, not_true_eq_false, not_false_eq_true, List.getElem?_cons_zero, List.getElem?_cons_succ, ev, ofConst, ofCell, ↓reduceIte, Nat.reduceEqDiff, Nat.reduceAdd, Nat.reduceSub, Nat.reduceMul, Nat.reduceLeDiff, Nat.reduceLT, Int.reduceNeg, Int.reduceToNat, Int.reduceAdd, Int.reduceSub, Int.reduceMul, Int.reduceLT, Int.reduceLE, Int.reduceEq, Int.reduceNe]
  refine call_intro (Of_spec _ b hb s5) ?_
  rintro _ s6 ⟨h6, cs, ⟨_, r0, _, _, _, _, ⟨ar, or0, hAr, rfl⟩, _, _, _, rfl⟩, rfl⟩
  have hlr : ((ar.length : Nat) : Int) = 2 := by rw [hAr.len]; rfl
  have c2 : ((2 : Nat) : Int) = 2 := rfl
  have c7 : ((7 : Nat) : Int) = 7 := rfl
  simp (dsimp := false) (implicitDefEqProofs := false) (disch := first | omega | assumption | (simp only [rL, Nat.reduceAdd]; try omega)) only [↓rA, rZ, List.drop_succ_cons, ne_eq, not_true_eq_false, not_false_eq_true, List.getElem?_cons_zero, List.getElem?_cons_succ, ev, ofConst, ofCell, ↓reduceIte, Nat.reduceEqDiff, Nat.reduceAdd, Nat.reduceSub, Nat.reduceMul, Nat.reduceLeDiff, Nat.reduceLT, Int.reduceNeg, Int.reduceToNat, Int.reduceAdd, Int.reduceSub, Int.reduceMul, Int.reduceLT, Int.reduceLE, Int.reduceEq, Int.reduceNe, hlr, c2, c7]
  exact ⟨_, Hp.sub_refl, Hp.sub_trans h1 (Hp.sub_trans h2 (Hp.sub_trans h3 (Hp.sub_trans h4 (Hp.sub_trans h5 h6))))⟩
end Go.Proofs.YtgfbealjkdhdbaaGreatDoor
/-
  Bytes as arguments.
-/
set_option maxRecDepth 100000
namespace Go.Av
open Go
theorem SRep_byte : ∀ (n : Nat) (us : List AV), SRep SByte n us → ∃ bs : List UInt8, bs.length = n ∧ us = bs.map byteAV
  | 0, us, h => ⟨[], rfl, h⟩
  | n + 1, us, h => by
    obtain ⟨a, b, ⟨x, rfl⟩, h2, rfl⟩ := h
    obtain ⟨bs, rfl, rfl⟩ := SRep_byte n b h2
    exact ⟨x :: bs, rfl, rfl⟩
theorem SRep_length {S : List AV → Prop} {k : Nat} (h : ∀ us, S us → us.length = k) : ∀ (n : Nat) (us : List AV), SRep S n us → us.length = n * k
  | 0, us, h => by cases h; simp
  | n + 1, us, hh => by
    obtain ⟨a, b, h1, h2, rfl⟩ := hh
    rw [List.length_append, h a h1, SRep_length h n b h2, Nat.add_mul]; omega
def pk1 (us : List AV) : AV := us.headD (.tup [])
theorem SByte_pk : Pk pk1 SByte 1 := ⟨by rintro us ⟨b, rfl⟩; rfl, by rintro us ⟨b, rfl⟩; rfl⟩
abbrev SBytes : List AV → Prop := SSlice pk1 SByte
theorem SBytes_bs {us : List AV} (h : SBytes us) : ∃ bs : List UInt8, bs.length ≤ maxLen ∧ us = [.sl (bs.map byteAV) .any] := by
  obtain ⟨l, h1, h2, h3⟩ := h
  have : ∃ m : List UInt8, m.length = l.length ∧ l.map pk1 = m.map byteAV := by
    clear h2 h3
    induction l with
    | nil => exact ⟨[], rfl, rfl⟩
    | cons e l ih =>
      obtain ⟨m, m1, m2⟩ := ih fun e he => h1 e (by simp [he])
      obtain ⟨b, rfl⟩ := h1 e (by simp)
      exact ⟨b :: m, by simp [m1], by simp [m2, pk1]⟩
  obtain ⟨m, m1, m2⟩ := this
  exact ⟨m, by omega, by rw [← m2]; exact h3⟩
theorem SBytes_pk : Pk pk1 SBytes 1 := ⟨fun us h => by obtain ⟨bs, _, rfl⟩ := SBytes_bs h; rfl, fun us h => by obtain ⟨bs, _, rfl⟩ := SBytes_bs h; rfl⟩
theorem a_bytes {av : AV} (h : ACell SBytes av) : ∃ bs : List UInt8, bs.length ≤ maxLen ∧ av = .sl (bs.map byteAV) .any := by
  obtain ⟨bs, h1, h2⟩ := SBytes_bs h
  exact ⟨bs, h1, (List.cons.inj h2).1⟩
end Go.Av
/-
  law24.ParseTables; a statement as an argument.
-/
set_option maxRecDepth 100000
namespace Go.Proofs.YtgfbealjkdhdbaaGreatDoor
open Go Go.Av
theorem toS_tab {x : RStm} {st : Stm} (h : toS x = some st) : tabOf st = if x.kind = 7 then [] else x.tab := by
  unfold toS at h
  split at h
  · rename_i c; cases h; rw [if_neg (by omega)]; rfl
  split at h
  · rename_i c; cases h; rw [if_neg (by omega)]; rfl
  split at h
  · rename_i c; cases h; rw [if_neg (by omega)]; rfl
  split at h
  · rename_i c; cases h; rw [if_neg (by omega)]; rfl
  split at h
  · rename_i c; cases h; rw [if_neg (by omega)]; rfl
  split at h
  · rename_i c; cases h; rw [if_neg (by omega)]; rfl
  split at h
  · rename_i c; cases h; rw [if_pos c]; rfl
  · cases h
theorem stm_iface {x : Stm} {a : AV} (h : stmR x a) : ∃ T c, a = .iface T c := by
  cases x with
  | create t c => obtain ⟨_, _, rfl⟩ := h; exact ⟨_, _, rfl⟩
  | drop t => obtain rfl := h; exact ⟨_, _, rfl⟩
  | insert t c => obtain ⟨_, _, rfl⟩ := h; exact ⟨_, _, rfl⟩
  | delete t c => obtain ⟨_, _, rfl⟩ := h; exact ⟨_, _, rfl⟩
  | update t c d => obtain ⟨_, _, _, _, rfl⟩ := h; exact ⟨_, _, rfl⟩
  | sel x => obtain ⟨_, _, _, _, rfl⟩ := h; exact ⟨_, _, rfl⟩
  | tx k => obtain rfl := h; exact ⟨_, _, rfl⟩
theorem rsR_rd {x : RStm} {cs : List AV} (h : rsR x cs) : rdA true 13 0 (some cs) = some (.agg cs) ∧ rdA false 1 0 (some cs) = some (.v (.int .i64 x.kind)) ∧ rdA false 1 1 (some cs) = some (strV x.tab) := by
  obtain ⟨_, _, _, _, _, _, _, _, _, _, rfl⟩ := h
  exact ⟨rfl, rfl, rfl⟩
theorem ParseTables_spec (x : RStm) (cs : List AV) (hcs : rsR x cs) (htx : 0 ≤ x.tx) (other : Int) (s : Hp) (hT : Tabs s) :
    AC Tryz.prog 5 [.agg cs, .v (.int .i64 other)] s fun r _ => r = .v (.bool true) := by
  obtain ⟨rdA0, rdK, rdT⟩ := rsR_rd hcs
  have hl := rsR_len hcs
  have hcc : (AV.agg cs).cells = cs := rfl
  refine AC_run hm prep5 (by simp) ?_
  simp (dsimp := false) (implicitDefEqProofs := false) (disch := first | omega | assumption | (simp only [rL, Nat.reduceAdd]; try omega)) only [↓rA, rZ, List.drop_succ_cons, ne_eq, not_true_eq_false, not_false_eq_true, List.getElem?_cons_zero, List.getElem?_cons_succ, ev, ofConst, ofCell, ↓reduceIte, Nat.reduceEqDiff, Nat.reduceAdd, Nat.reduceSub, Nat.reduceMul, Nat.reduceLeDiff, Nat.reduceLT, Int.reduceNeg, Int.reduceToNat, Int.reduceAdd, Int.reduceSub, Int.reduceMul, Int.reduceLT, Int.reduceLE, Int.reduceEq, Int.reduceNe, hcc]
  refine newK_intro fun l2 n2 => ?_
  have hs2 : s.sub (s.set l2 (.cells cs)) := Hp.sub_new Hp.sub_refl n2
  simp (dsimp := false) (implicitDefEqProofs := false) (disch := first | omega | assumption | (simp only [rL, Nat.reduceAdd]; try omega)) only [↓rA, rZ, List.drop_succ_cons, ne_eq, not_true_eq_false, not_false_eq_true, List.getElem?_cons_zero, List.getElem?_cons_succ, ev, ofConst, ofCell, ↓reduceIte, Nat.reduceEqDiff, Nat.reduceAdd, Nat.reduceSub, Nat.reduceMul, Nat.reduceLeDiff, Nat.reduceLT, Int.reduceNeg, Int.reduceToNat, Int.reduceAdd, Int.reduceSub, Int.reduceMul, Int.reduceLT, Int.reduceLE, Int.reduceEq, Int.reduceNe, hcc]
  refine call_intro (alive24_spec _ (hT.mono hs2)) ?_
  rintro _ s3 ⟨h3, rfl⟩
  have g3 := h3 _ _ (Hp.set_same _ _ _)
  simp (dsimp := false) (implicitDefEqProofs := false) (disch := first | omega | assumption | (simp only [rL, Nat.reduceAdd]; try omega)) only [↓rA, rZ, List.drop_succ_cons, ne_eq, not_true_eq_false, not_false_eq_true, List.getElem?_cons_zero, List.getElem?_cons_succ, ev, ofConst, ofCell, ↓reduceIte, Nat.reduceEqDiff, Nat.reduceAdd, Nat.reduceSub, Nat.reduceMul, Nat.reduceLeDiff, Nat.reduceLT, Int.reduceNeg, Int.reduceToNat, Int.reduceAdd, Int.reduceSub, Int.reduceMul, Int.reduceLT, Int.reduceLE, Int.reduceEq, Int.reduceNe, Hp.read_of g3, rdA0]
  refine call_intro (To_spec x cs hcs htx s3) ?_
  rintro y s4 ⟨h4, hy⟩
  have g4 := h4 _ _ g3
  cases hto : toS x with
  | none =>
    rw [hto] at hy
    obtain rfl : y = .v .nilIface := hy
    simp (dsimp := false) (implicitDefEqProofs := false) (disch := first | omega | assumption | (simp only [rL, Nat.reduceAdd]; try omega)) only [↓rA, rZ, List.drop_succ_cons, ne_eq, not_true_eq_false, not_false_eq_true, List.getElem?_cons_zero, List.getElem?_cons_succ, ev, ofConst, ofCell, ↓reduceIte, Nat.reduceEqDiff, Nat.reduceAdd, Nat.reduceSub, Nat.reduceMul, Nat.reduceLeDiff, Nat.reduceLT, Int.reduceNeg, Int.reduceToNat, Int.reduceAdd, Int.reduceSub, Int.reduceMul, Int.reduceLT, Int.reduceLE, Int.reduceEq, Int.reduceNe]
    refine call_intro (table_none _ (.inl rfl) s4) ?_
    rintro _ s5 ⟨h5, u5, rfl⟩
    simp (dsimp := false) (implicitDefEqProofs := false) (disch := first | omega | assumption | (simp only [rL, Nat.reduceAdd]; try omega)) only [↓rA, rZ, List.drop_succ_cons, ne_eq, not_true_eq_false, not_false_eq_true, List.getElem?_cons_zero, List.getElem?_cons_succ, ev, ofConst, ofCell, ↓reduceIte, Nat.reduceEqDiff, Nat.reduceAdd, Nat.reduceSub, Nat.reduceMul, Nat.reduceLeDiff, Nat.reduceLT, Int.reduceNeg, Int.reduceToNat, Int.reduceAdd, Int.reduceSub, Int.reduceMul, Int.reduceLT, Int.reduceLE, Int.reduceEq, Int.reduceNe]
    refine call_intro (table_none _ (.inr ⟨_, _, rfl, by decide, by decide, by decide, by decide, by decide, by decide, by decide⟩) s5) ?_
    rintro _ s6 ⟨h6, u6, rfl⟩
    simp (dsimp := false) (implicitDefEqProofs := false) (disch := first | omega | assumption | (simp only [rL, Nat.reduceAdd]; try omega)) only [↓rA, rZ, List.drop_succ_cons, ne_eq, not_true_eq_false, not_false_eq_true, List.getElem?_cons_zero, List.getElem?_cons_succ, ev, ofConst, ofCell, ↓reduceIte, Nat.reduceEqDiff, Nat.reduceAdd, Nat.reduceSub, Nat.reduceMul, Nat.reduceLeDiff, Nat.reduceLT, Int.reduceNeg, Int.reduceToNat, Int.reduceAdd, Int.reduceSub, Int.reduceMul, Int.reduceLT, Int.reduceLE, Int.reduceEq, Int.reduceNe]
    refine call_intro (table_none _ (.inr ⟨_, _, rfl, by decide, by decide, by decide, by decide, by decide, by decide, by decide⟩) s6) ?_
    rintro _ s7 ⟨h7, u7, rfl⟩
    simp (dsimp := false) (implicitDefEqProofs := false) (disch := first | omega | assumption | (simp only [rL, Nat.reduceAdd]; try omega)) only [↓rA, rZ, List.drop_succ_cons, ne_eq, not_true_eq_false, not_false_eq_true, List.getElem?_cons_zero, List.getElem?_cons_succ, ev, ofConst, ofCell, ↓reduceIte, Nat.reduceEqDiff, Nat.reduceAdd, Nat.reduceSub, Nat.reduceMul, Nat.reduceLeDiff, Nat.reduceLT, Int.reduceNeg, Int.reduceToNat, Int.reduceAdd, Int.reduceSub, Int.reduceMul, Int.reduceLT, Int.reduceLE, Int.reduceEq, Int.reduceNe]
    exact ⟨_, Hp.sub_refl⟩
  | some st =>
    rw [hto] at hy
    have hy : stmR st y := hy
    have htab := toS_tab hto
    obtain ⟨T, c, rfl⟩ := stm_iface hy
    simp (dsimp := false) (implicitDefEqProofs := false) (disch := first | omega | assumption | (simp only [rL, Nat.reduceAdd]; try omega)) only [↓rA, rZ, List.drop_succ_cons, ne_eq, not_true_eq_false, not_false_eq_true, List.getElem?_cons_zero, List.getElem?_cons_succ, ev, ofConst, ofCell, ↓reduceIte, Nat.reduceEqDiff, Nat.reduceAdd, Nat.reduceSub, Nat.reduceMul, Nat.reduceLeDiff, Nat.reduceLT, Int.reduceNeg, Int.reduceToNat, Int.reduceAdd, Int.reduceSub, Int.reduceMul, Int.reduceLT, Int.reduceLE, Int.reduceEq, Int.reduceNe]
    refine call_intro (table_ok st _ hy s4) ?_
    rintro _ s5 ⟨h5, rfl⟩
    have g5 := h5 _ _ g4
    rw [htab]
    by_cases c7 : x.kind = 7
    · rw [if_pos c7]
      simp (dsimp := false) (implicitDefEqProofs := false) (disch := first | omega | assumption | (simp only [rL, Nat.reduceAdd]; try omega)) only [↓rA, rZ, List.drop_succ_cons, ne_eq, not_true_eq_false, not_false_eq_true, List.getElem?_cons_zero, List.getElem?_cons_succ, ev, ofConst, ofCell, ↓reduceIte, Nat.reduceEqDiff, Nat.reduceAdd, Nat.reduceSub, Nat.reduceMul, Nat.reduceLeDiff, Nat.reduceLT, Int.reduceNeg, Int.reduceToNat, Int.reduceAdd, Int.reduceSub, Int.reduceMul, Int.reduceLT, Int.reduceLE, Int.reduceEq, Int.reduceNe, Hp.read_of g5, rdK, rdT, c7, strV]
      exact ⟨_, Hp.sub_refl⟩
    · rw [if_neg c7]
      simp (dsimp := false) (implicitDefEqProofs := false) (disch := first | omega | assumption | (simp only [rL, Nat.reduceAdd]; try omega)) only [↓rA, rZ, List.drop_succ_cons, ne_eq, not_true_eq_false, not_false_eq_true, List.getElem?_cons_zero, List.getElem?_cons_succ, ev, ofConst, ofCell, ↓reduceIte, Nat.reduceEqDiff, Nat.reduceAdd, Nat.reduceSub, Nat.reduceMul, Nat.reduceLeDiff, Nat.reduceLT, Int.reduceNeg, Int.reduceToNat, Int.reduceAdd, Int.reduceSub, Int.reduceMul, Int.reduceLT, Int.reduceLE, Int.reduceEq, Int.reduceNe, Hp.read_of g5, rdK, rdT, c7, binA_eqlS, decide_true]
      exact ⟨_, Hp.sub_refl⟩
/-! ### a statement as an argument -/
theorem SSlice_AllV {α : Type} {V : α → AV → Prop} {pk : List AV → AV} {S : List AV → Prop} (h : ∀ e, S e → ∃ x, V x (pk e)) {us : List AV} (hs : SSlice pk S us) : ∃ (xs : List α) (a : AV), slR V xs a ∧ us = [a] := by
  obtain ⟨l, h1, h2, h3⟩ := hs
  have : ∃ m : List α, AllV V m (l.map pk) := by
    clear h2 h3
    induction l with
    | nil => exact ⟨[], trivial⟩
    | cons e l ih =>
      obtain ⟨m, hm⟩ := ih fun e he => h1 e (by simp [he])
      obtain ⟨x, hx⟩ := h e (h1 e (by simp))
      exact ⟨x :: m, hx, hm⟩
  obtain ⟨m, hm⟩ := this
  exact ⟨m, _, ⟨_, _, hm, rfl⟩, h3⟩
theorem wf_u8 (b : UInt8) : byteAV b = .v (.int .u8 (b.toNat : Int)) := rfl
theorem SInt_pk : Pk pk1 (SInt .i64) 1 := ⟨by rintro us ⟨b, _, rfl⟩; rfl, by rintro us ⟨b, _, rfl⟩; rfl⟩
theorem SStr_pk : Pk pk1 SStr 1 := ⟨by rintro us ⟨b, _, rfl⟩; rfl, by rintro us ⟨b, _, rfl⟩; rfl⟩
abbrev SInts : List AV → Prop := SSlice pk1 (SInt .i64)
theorem SInts_pk : Pk pk1 SInts 1 := ⟨fun us h => by obtain ⟨_, _, _, rfl⟩ := h; rfl, fun us h => by obtain ⟨_, _, _, rfl⟩ := h; rfl⟩
theorem SInts_is {us : List AV} (h : SInts us) : ∃ (xs : List Int) (a : AV), slR intR xs a ∧ us = [a] := SSlice_AllV (V := intR) (by rintro e ⟨n, _, rfl⟩; exact ⟨n, rfl⟩) h
abbrev SStrs : List AV → Prop := SSlice pk1 SStr
theorem SStrs_is {us : List AV} (h : SStrs us) : ∃ (xs : List (List UInt8)) (a : AV), slR strR xs a ∧ us = [a] := SSlice_AllV (V := strR) (by rintro e ⟨n, _, rfl⟩; exact ⟨n, rfl⟩) h
abbrev SRows : List AV → Prop := SSlice pk1 SInts
theorem SRows_is {us : List AV} (h : SRows us) : ∃ (xs : List (List Int)) (a : AV), slR rowR xs a ∧ us = [a] := SSlice_AllV (V := rowR) (by
  intro e he
  obtain ⟨xs, a, ⟨av, o, h1, h2⟩, rfl⟩ := SInts_is he
  exact ⟨xs, av, o, h1, h2⟩) h
abbrev SCond : List AV → Prop := SParts [SStr, SStr, SInt .i64, SInt .i64]
theorem SCond_is {us : List AV} (h : SCond us) : ∃ c : Cond, condR c (.agg us) ∧ us.length = 4 := by
  obtain ⟨a, x1, ⟨k, _, rfl⟩, ⟨b, x2, ⟨bs, hbs, rfl⟩, ⟨c, x3, ⟨n, hn, rfl⟩, ⟨d, x4, ⟨m, hm, rfl⟩, h4, rfl⟩, rfl⟩, rfl⟩, rfl⟩ := h
  cases h4
  exact ⟨⟨k, bs, n, m⟩, rfl, rfl⟩
abbrev SAsg : List AV → Prop := SParts [SStr, SInt .i64]
theorem SAsg_is {us : List AV} (h : SAsg us) : ∃ c : Asg, asgR c (.agg us) ∧ us.length = 2 := by
  obtain ⟨a, x1, ⟨k, _, rfl⟩, ⟨b, x2, ⟨n, hn, rfl⟩, h4, rfl⟩, rfl⟩ := h
  cases h4
  exact ⟨⟨k, n⟩, rfl, rfl⟩
theorem SCond_pk : Pk AV.agg SCond 4 := ⟨fun us h => (SCond_is h).choose_spec.2, fun us h => rfl⟩
theorem SAsg_pk : Pk AV.agg SAsg 2 := ⟨fun us h => (SAsg_is h).choose_spec.2, fun us h => rfl⟩
abbrev SConds : List AV → Prop := SSlice AV.agg SCond
abbrev SAsgs : List AV → Prop := SSlice AV.agg SAsg
theorem SConds_is {us : List AV} (h : SConds us) : ∃ (xs : List Cond) (a : AV), slR condR xs a ∧ us = [a] := SSlice_AllV (V := condR) (fun e he => ⟨_, (SCond_is he).choose_spec.1⟩) h
theorem SAsgs_is {us : List AV} (h : SAsgs us) : ∃ (xs : List Asg) (a : AV), slR asgR xs a ∧ us = [a] := SSlice_AllV (V := asgR) (fun e he => ⟨_, (SAsg_is he).choose_spec.1⟩) h
abbrev SSrt : List AV → Prop := SParts [SStr, SBool, SInts]
abbrev SStmt : List AV → Prop := SParts [SInt .i64, SStr, SStrs, SRows, SConds, SAsgs, SBool, SInt .i64, SSrt, SInt .i64, SByte]
theorem SStmt_is {us : List AV} (h : SStmt us) : ∃ x : RStm, rsR x us ∧ 0 ≤ x.tx := by
  obtain ⟨_, _, ⟨kind, _, rfl⟩, ⟨_, _, ⟨tab, _, rfl⟩, ⟨_, _, h1, ⟨_, _, h2, ⟨_, _, h3, ⟨_, _, h4, ⟨_, _, ⟨cnt, rfl⟩, ⟨_, _, ⟨asof, _, rfl⟩, ⟨_, _, h5, ⟨_, _, ⟨lim, _, rfl⟩, ⟨_, _, ⟨tx, rfl⟩, h6, rfl⟩, rfl⟩, rfl⟩, rfl⟩, rfl⟩, rfl⟩, rfl⟩, rfl⟩, rfl⟩, rfl⟩, rfl⟩ := h
  cases h6
  obtain ⟨_, _, ⟨col, _, rfl⟩, ⟨_, _, ⟨down, rfl⟩, ⟨_, _, h7, h8, rfl⟩, rfl⟩, rfl⟩ := h5
  cases h8
  obtain ⟨cols, c, r1, rfl⟩ := SStrs_is h1
  obtain ⟨rows, r, r2, rfl⟩ := SRows_is h2
  obtain ⟨wh, w, r3, rfl⟩ := SConds_is h3
  obtain ⟨sets, t, r4, rfl⟩ := SAsgs_is h4
  obtain ⟨pt, p, r5, rfl⟩ := SInts_is h7
  exact ⟨⟨kind, tab, cols, rows, wh, sets, cnt, asof, col, down, pt, lim, (tx.toNat : Int)⟩, ⟨c, r, w, t, p, r1, r2, r3, r4, r5, rfl⟩, Int.natCast_nonneg _⟩
theorem ro_row : RO Tryz.prog 27 SInts := RO.slice (k := 1) (by kernel_rfl : Tryz.prog.underlying 27 = some (.slice 2)) (by kernel_rfl) (by omega) SInt_pk ro_i64
theorem ro_rows : RO Tryz.prog 22 SRows := RO.slice (k := 1) (by kernel_rfl : Tryz.prog.underlying 22 = some (.slice 27)) (by kernel_rfl) (by omega) SInts_pk ro_row
theorem ro_strs : RO Tryz.prog 39 SStrs := RO.slice (k := 1) (by kernel_rfl : Tryz.prog.underlying 39 = some (.slice 9)) (by kernel_rfl) (by omega) SStr_pk ro_str
theorem ro_cond : RO Tryz.prog 85 SCond := RO.struct (Ss := [SStr, SStr, SInt .i64, SInt .i64]) Tryz.underlying85 (by
  refine ⟨by kernel_rfl, ro_str, by kernel_rfl, ro_str, by kernel_rfl, ro_i64, by kernel_rfl, ro_i64, (by show _ = _; kernel_rfl)⟩)
theorem ro_asg : RO Tryz.prog 87 SAsg := RO.struct (Ss := [SStr, SInt .i64]) Tryz.underlying87 (by
  refine ⟨by kernel_rfl, ro_str, by kernel_rfl, ro_i64, (by show _ = _; kernel_rfl)⟩)
theorem ro_conds : RO Tryz.prog 40 SConds := RO.slice (k := 4) (by kernel_rfl : Tryz.prog.underlying 40 = some (.slice 85)) (by kernel_rfl) (by omega) SCond_pk ro_cond
theorem ro_asgs : RO Tryz.prog 41 SAsgs := RO.slice (k := 2) (by kernel_rfl : Tryz.prog.underlying 41 = some (.slice 87)) (by kernel_rfl) (by omega) SAsg_pk ro_asg
theorem ro_srt : RO Tryz.prog 43 SSrt := RO.struct (Ss := [SStr, SBool, SInts]) Tryz.underlying43 (by
  refine ⟨by kernel_rfl, ro_str, by kernel_rfl, ro_bool, by kernel_rfl, ro_row, (by show _ = _; kernel_rfl)⟩)
theorem ro_stmt : RO Tryz.prog 45 SStmt := RO.struct (Ss := [SInt .i64, SStr, SStrs, SRows, SConds, SAsgs, SBool, SInt .i64, SSrt, SInt .i64, SByte]) Tryz.underlying45 (by
  refine ⟨by kernel_rfl, ro_int, by kernel_rfl, ro_str, by kernel_rfl, ro_strs, by kernel_rfl, ro_rows, by kernel_rfl, ro_conds, by kernel_rfl, ro_asgs, by kernel_rfl, ro_bool, by kernel_rfl, ro_i64, by kernel_rfl, ro_srt, by kernel_rfl, ro_i64, by kernel_rfl, ro_byte, (by show _ = _; kernel_rfl)⟩)
end Go.Proofs.YtgfbealjkdhdbaaGreatDoor
