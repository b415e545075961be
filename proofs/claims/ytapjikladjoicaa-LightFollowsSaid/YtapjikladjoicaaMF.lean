/- Merged by program from smaller texts; what is proved stands in the last text of the claim. -/
import Derived.Test.YtapjikladjoicaaME
import Derived.Test.YtapjikladjoicaaMD
set_option linter.all false
/-
  ref01.Preimage.
-/
set_option maxRecDepth 100000
namespace Go.Proofs.Ytapjikladjoicaa
open Go Go.Av

theorem MO_one {s : Hp} {g : Nat} {b : UInt8} (hg : s g = none) : MO s (s.set g (.cells (flat [.v (.int .u8 (b.toNat : Int))]))) 1 ([b].map byteAV) (.mb g 1 1 1) :=
  ⟨Hp.sub_new Hp.sub_refl hg, .inr ⟨g, 1, 1, _, rfl, hg, Hp.set_same _ _ _, rfl, rfl, rfl, by omega, by decide⟩⟩

theorem rpre_spec (tag : UInt8) (ts : List (AV × List UInt8)) (tx : AV) (lt : Nat) (s : Hp) (hlen : lenAA tx = some (.v (.int .i64 ts.length)))
    (hia : ∀ i : Nat, i < ts.length → iaSA 1 tx (.v (.int .i64 i)) = some (.ptr lt i))
    (hlt : ∀ i (h : i < ts.length), ∃ cs, s lt = some (.cells cs) ∧ i < cs.length ∧ mkv false 1 (cs.drop i) = ts[i].1)
    (hts : ∀ p ∈ ts, srcF s 1 p.1 = some (p.2.length, p.2.map byteAV) ∧ lenAA p.1 = some (.v (.int .i64 p.2.length)))
    (hall : (preB tag (ts.map (·.2))).length ≤ 1000000) :
    AC Try.prog 82 [.v (.int .u8 (tag.toNat : Int)), tx] s fun r s' => MO s s' 1 ((preB tag (ts.map (·.2))).map byteAV) r := by
  refine AC_run hm prep82 (by simp) ?_
  simp (dsimp := false) (implicitDefEqProofs := false) (maxSteps := 1000000) (disch := first | omega | assumption | (simp only [rL, Nat.reduceAdd]; done) | (simp only [rL, Nat.reduceAdd]; omega)) only [↓rD, rU, ev, ofConst, ofCell, ↓reduceIte, Nat.reduceEqDiff, Nat.reduceAdd, Nat.reduceSub, Nat.reduceMul, Nat.reduceLeDiff, Nat.reduceLT, Int.reduceNeg, Int.reduceToNat, Int.reduceAdd, Int.reduceSub, Int.reduceMul, Int.reduceLT, Int.reduceLE, Int.reduceEq, rX, dg_cells, dg_fold, List.drop_succ_cons, ↓rF, rG, ne_eq, not_true_eq_false, not_false_eq_true, Int.reduceNe, List.getElem?_cons_zero, List.getElem?_cons_succ]
  refine bslM_intro (by simp [allLen, AV.cells]) (by simp) fun g1 ng1 => ?_
  simp (dsimp := false) (implicitDefEqProofs := false) (maxSteps := 1000000) (disch := first | omega | assumption | (simp only [rL, Nat.reduceAdd]; done) | (simp only [rL, Nat.reduceAdd]; omega)) only [↓rD, rU, ev, ofConst, ofCell, ↓reduceIte, Nat.reduceEqDiff, Nat.reduceAdd, Nat.reduceSub, Nat.reduceMul, Nat.reduceLeDiff, Nat.reduceLT, Int.reduceNeg, Int.reduceToNat, Int.reduceAdd, Int.reduceSub, Int.reduceMul, Int.reduceLT, Int.reduceLE, Int.reduceEq, rX, dg_cells, dg_fold, List.drop_succ_cons, ↓rF, rG, ne_eq, not_true_eq_false, not_false_eq_true, Int.reduceNe, List.getElem?_cons_zero, List.getElem?_cons_succ]
  have m0 := MO_one (b := tag) ng1
  refine loop_intro (fun f s' => ∃ p q : List (AV × List UInt8), ts = p ++ q ∧ MO s s' 1 ((preB tag (p.map (·.2))).map byteAV) (f 5) ∧ f 1 = tx ∧ f 6 = .v (.int .i64 p.length))
    (fun f _ => match f 6 with | .v (.int _ n) => (ts.length - n).toNat | _ => 0) ⟨[], ts, rfl, ?_⟩ ?_
  · simp (dsimp := false) (implicitDefEqProofs := false) (maxSteps := 1000000) (disch := first | omega | assumption | (simp only [rL, Nat.reduceAdd]; done) | (simp only [rL, Nat.reduceAdd]; omega)) only [↓rD, rU, ev, ofConst, ofCell, ↓reduceIte, Nat.reduceEqDiff, Nat.reduceAdd, Nat.reduceSub, Nat.reduceMul, Nat.reduceLeDiff, Nat.reduceLT, Int.reduceNeg, Int.reduceToNat, Int.reduceAdd, Int.reduceSub, Int.reduceMul, Int.reduceLT, Int.reduceLE, Int.reduceEq, rX, dg_cells, dg_fold, List.drop_succ_cons, ↓rF, rG, ne_eq, not_true_eq_false, not_false_eq_true, Int.reduceNe, List.getElem?_cons_zero, List.getElem?_cons_succ]
    exact m0
  · clear m0
    rintro f s1 ⟨p, q, e, m1, f1, f6⟩
    cases q with
    | nil =>
      have hn : ts.length = p.length := by rw [e]; simp
      rw [List.append_nil] at e
      have hc : ¬ (p.length : Int) < (ts.length : Int) := by omega
      simp (dsimp := false) (implicitDefEqProofs := false) (maxSteps := 1000000) (disch := first | omega | assumption | (simp only [rL, Nat.reduceAdd]; done) | (simp only [rL, Nat.reduceAdd]; omega)) only [↓rD, rU, ev, ofConst, ofCell, ↓reduceIte, Nat.reduceEqDiff, Nat.reduceAdd, Nat.reduceSub, Nat.reduceMul, Nat.reduceLeDiff, Nat.reduceLT, Int.reduceNeg, Int.reduceToNat, Int.reduceAdd, Int.reduceSub, Int.reduceMul, Int.reduceLT, Int.reduceLE, Int.reduceEq, rX, dg_cells, dg_fold, List.drop_succ_cons, ↓rF, rG, ne_eq, not_true_eq_false, not_false_eq_true, Int.reduceNe, List.getElem?_cons_zero, List.getElem?_cons_succ, f1, f6, hlen, hc]
      rw [e]
      exact ⟨_, Hp.sub_refl, m1⟩
    | cons t q =>
      obtain ⟨ta, tb⟩ := t
      have hn : p.length < ts.length := by rw [e]; simp
      have hc : (p.length : Int) < (ts.length : Int) := by omega
      have hti : ts[p.length] = (ta, tb) := by subst e; simp
      obtain ⟨cs, c1, c2, c3⟩ := hlt p.length hn
      rw [hti] at c3
      obtain ⟨h1, h2⟩ := hts (ta, tb) (by rw [e]; simp)
      simp only at h1 h2 c3
      have hbd : (preB tag (p.map (·.2))).length + 8 + tb.length ≤ 1000000 := by
        refine Nat.le_trans ?_ hall
        rw [e]
        simp [preB, chunk, eightB]; omega
      have hpg := preB_ge tag (ts.map (·.2))
      rw [List.length_map] at hpg
      have c2' : p.length + 1 ≤ cs.length := by omega
      have m1s := m1.1
      simp (dsimp := false) (implicitDefEqProofs := false) (maxSteps := 1000000) (disch := first | omega | assumption | (simp only [rL, Nat.reduceAdd]; done) | (simp only [rL, Nat.reduceAdd]; omega)) only [↓rD, rU, ev, ofConst, ofCell, ↓reduceIte, Nat.reduceEqDiff, Nat.reduceAdd, Nat.reduceSub, Nat.reduceMul, Nat.reduceLeDiff, Nat.reduceLT, Int.reduceNeg, Int.reduceToNat, Int.reduceAdd, Int.reduceSub, Int.reduceMul, Int.reduceLT, Int.reduceLE, Int.reduceEq, rX, dg_cells, dg_fold, List.drop_succ_cons, ↓rF, rG, ne_eq, not_true_eq_false, not_false_eq_true, Int.reduceNe, List.getElem?_cons_zero, List.getElem?_cons_succ, f1, f6, hlen, hc, hia _ hn, Hp.read_of (m1s _ _ c1), c2', c3, h2]
      refine loop_intro (fun f s' => ∃ j : Nat, j ≤ 8 ∧ MO s s' 1 ((preB tag (p.map (·.2)) ++ (eightB tb.length).take j).map byteAV) (f 5) ∧ f 1 = tx ∧ f 6 = .v (.int .i64 p.length) ∧ f 7 = .v (.int .u64 (tb.length : Int)) ∧ f 8 = .v (.int .i64 j))
        (fun f _ => match f 8 with | .v (.int _ n) => (8 - n).toNat | _ => 0) ⟨0, by omega, ?_⟩ ?_
      · simp (dsimp := false) (implicitDefEqProofs := false) (maxSteps := 1000000) (disch := first | omega | assumption | (simp only [rL, Nat.reduceAdd]; done) | (simp only [rL, Nat.reduceAdd]; omega)) only [↓rD, rU, ev, ofConst, ofCell, ↓reduceIte, Nat.reduceEqDiff, Nat.reduceAdd, Nat.reduceSub, Nat.reduceMul, Nat.reduceLeDiff, Nat.reduceLT, Int.reduceNeg, Int.reduceToNat, Int.reduceAdd, Int.reduceSub, Int.reduceMul, Int.reduceLT, Int.reduceLE, Int.reduceEq, rX, dg_cells, dg_fold, List.drop_succ_cons, ↓rF, rG, ne_eq, not_true_eq_false, not_false_eq_true, Int.reduceNe, List.getElem?_cons_zero, List.getElem?_cons_succ, f1, f6]
        simp only [List.take_zero, List.append_nil]
        exact m1
      · clear m1 m1s
        rintro g s2 ⟨j, hj, m2, i1, i6, i7, i8⟩
        have hpre := eightB_take tb.length j
        by_cases hlt8 : (j : Int) < 8
        · have hsh : IntKind.u64.wrap (56 - 8 * (j : Int)) = ((56 - 8 * j : Nat) : Int) := by rw [wrap_u64_mod]; omega
          have hr := rem_u64 (tb.length >>> (56 - 8 * j)) 256 (by omega)
          have e256 : ((256 : Nat) : Int) = 256 := rfl
          rw [e256] at hr
          simp (dsimp := false) (implicitDefEqProofs := false) (maxSteps := 1000000) (disch := first | omega | assumption | (simp only [rL, Nat.reduceAdd]; done) | (simp only [rL, Nat.reduceAdd]; omega)) only [↓rD, rU, ev, ofConst, ofCell, ↓reduceIte, Nat.reduceEqDiff, Nat.reduceAdd, Nat.reduceSub, Nat.reduceMul, Nat.reduceLeDiff, Nat.reduceLT, Int.reduceNeg, Int.reduceToNat, Int.reduceAdd, Int.reduceSub, Int.reduceMul, Int.reduceLT, Int.reduceLE, Int.reduceEq, rX, dg_cells, dg_fold, List.drop_succ_cons, ↓rF, rG, ne_eq, not_true_eq_false, not_false_eq_true, Int.reduceNe, List.getElem?_cons_zero, List.getElem?_cons_succ, i1, i6, i7, i8, hlt8, hsh, hr, wrap_u8_nat]
          refine bslM_intro (by simp [allLen, AV.cells]) (by simp) fun g1 ng1 => ?_
          simp (dsimp := false) (implicitDefEqProofs := false) (maxSteps := 1000000) (disch := first | omega | assumption | (simp only [rL, Nat.reduceAdd]; done) | (simp only [rL, Nat.reduceAdd]; omega)) only [↓rD, rU, ev, ofConst, ofCell, ↓reduceIte, Nat.reduceEqDiff, Nat.reduceAdd, Nat.reduceSub, Nat.reduceMul, Nat.reduceLeDiff, Nat.reduceLT, Int.reduceNeg, Int.reduceToNat, Int.reduceAdd, Int.reduceSub, Int.reduceMul, Int.reduceLT, Int.reduceLE, Int.reduceEq, rX, dg_cells, dg_fold, List.drop_succ_cons, ↓rF, rG, ne_eq, not_true_eq_false, not_false_eq_true, Int.reduceNe, List.getElem?_cons_zero, List.getElem?_cons_succ, i1, i6, i7, i8]
          refine appB_own (m2.mono (Hp.sub_new Hp.sub_refl ng1)) srcF_one (by simp [eightB]; omega) fun x3 s3 m3 => ?_
          simp (dsimp := false) (implicitDefEqProofs := false) (maxSteps := 1000000) (disch := first | omega | assumption | (simp only [rL, Nat.reduceAdd]; done) | (simp only [rL, Nat.reduceAdd]; omega)) only [↓rD, rU, ev, ofConst, ofCell, ↓reduceIte, Nat.reduceEqDiff, Nat.reduceAdd, Nat.reduceSub, Nat.reduceMul, Nat.reduceLeDiff, Nat.reduceLT, Int.reduceNeg, Int.reduceToNat, Int.reduceAdd, Int.reduceSub, Int.reduceMul, Int.reduceLT, Int.reduceLE, Int.reduceEq, rX, dg_cells, dg_fold, List.drop_succ_cons, ↓rF, rG, ne_eq, not_true_eq_false, not_false_eq_true, Int.reduceNe, List.getElem?_cons_zero, List.getElem?_cons_succ, i1, i6, i7, i8]
          rw [List.append_assoc _ _ [_], hpre (by omega)] at m3
          exact ⟨⟨j + 1, by omega, m3, by simp⟩, by omega⟩
        · obtain rfl : j = 8 := by omega
          have h8 : (eightB tb.length).take 8 = eightB tb.length := rfl
          rw [h8] at m2
          have m2s := m2.1
          simp (dsimp := false) (implicitDefEqProofs := false) (maxSteps := 1000000) (disch := first | omega | assumption | (simp only [rL, Nat.reduceAdd]; done) | (simp only [rL, Nat.reduceAdd]; omega)) only [↓rD, rU, ev, ofConst, ofCell, ↓reduceIte, Nat.reduceEqDiff, Nat.reduceAdd, Nat.reduceSub, Nat.reduceMul, Nat.reduceLeDiff, Nat.reduceLT, Int.reduceNeg, Int.reduceToNat, Int.reduceAdd, Int.reduceSub, Int.reduceMul, Int.reduceLT, Int.reduceLE, Int.reduceEq, rX, dg_cells, dg_fold, List.drop_succ_cons, ↓rF, rG, ne_eq, not_true_eq_false, not_false_eq_true, Int.reduceNe, List.getElem?_cons_zero, List.getElem?_cons_succ, i1, i6, i7, i8, f6, hlt8, hia _ hn, Hp.read_of (m2s _ _ c1), c2', c3]
          refine appB_own m2 (srcF_mono m2s h1) (by simp [eightB]; omega) fun x3 s3 m3 => ?_
          simp (dsimp := false) (implicitDefEqProofs := false) (maxSteps := 1000000) (disch := first | omega | assumption | (simp only [rL, Nat.reduceAdd]; done) | (simp only [rL, Nat.reduceAdd]; omega)) only [↓rD, rU, ev, ofConst, ofCell, ↓reduceIte, Nat.reduceEqDiff, Nat.reduceAdd, Nat.reduceSub, Nat.reduceMul, Nat.reduceLeDiff, Nat.reduceLT, Int.reduceNeg, Int.reduceToNat, Int.reduceAdd, Int.reduceSub, Int.reduceMul, Int.reduceLT, Int.reduceLE, Int.reduceEq, rX, dg_cells, dg_fold, List.drop_succ_cons, ↓rF, rG, ne_eq, not_true_eq_false, not_false_eq_true, Int.reduceNe, List.getElem?_cons_zero, List.getElem?_cons_succ, i1, i6, i7, i8, f6]
          refine ⟨⟨p ++ [(ta, tb)], q, by simp [e], ?_, by simp⟩, by omega⟩
          have e3 : preB tag ((p ++ [(ta, tb)]).map (·.2)) = preB tag (p.map (·.2)) ++ eightB tb.length ++ tb := by simp [preB, chunk]
          rw [e3]; exact m3

/-- no texts -/
theorem rpre_nil (tag : UInt8) (s : Hp) : AC Try.prog 82 [.v (.int .u8 (tag.toNat : Int)), .sl [] .nil] s fun r s' => MO s s' 1 ((preB tag []).map byteAV) r :=
  rpre_spec tag [] (.sl [] .nil) 0 s rfl (fun i h => absurd h (by simp)) (fun i h => absurd h (by simp)) (fun p h => absurd h (by simp)) (by simp [preB])

/-- texts in a slice that was just made -/
theorem rpre_list (tag : UInt8) (ts : List (AV × List UInt8)) (lt : Nat) (s : Hp) (hs : s lt = some (.cells (ts.map (·.1))))
    (hts : ∀ p ∈ ts, MO s s 1 (p.2.map byteAV) p.1 ∨ (srcF s 1 p.1 = some (p.2.length, p.2.map byteAV) ∧ lenAA p.1 = some (.v (.int .i64 p.2.length))))
    (hall : (preB tag (ts.map (·.2))).length ≤ 1000000) :
    AC Try.prog 82 [.v (.int .u8 (tag.toNat : Int)), .mb lt ts.length ts.length 1] s fun r s' => MO s s' 1 ((preB tag (ts.map (·.2))).map byteAV) r := by
  refine rpre_spec tag ts _ lt s rfl ?_ ?_ ?_ hall
  · intro i hi
    rw [iaSA_mb (by omega) (by omega)]; simp
  · intro i h
    refine ⟨_, hs, by simpa using h, ?_⟩
    rw [List.drop_eq_getElem_cons (by simpa using h), List.getElem_map]; rfl
  · intro p hp
    rcases hts p hp with h | h
    · obtain ⟨n, e1, e2, e3⟩ := h.src
      simp only [List.length_map, Nat.mul_one] at e1
      subst e1
      exact ⟨e2, e3⟩
    · exact h
theorem rbytes_spec (d : List UInt8) (hd : d.length = 32) (s : Hp) : AC Try.prog 93 [dg d] s fun r s' => MO s s' 1 (d.map byteAV) r := by
  refine AC_run hm prep93 (by simp) ?_
  have hc := dg_cells (d := d)
  simp (dsimp := false) (implicitDefEqProofs := false) (maxSteps := 1000000) (disch := first | omega | assumption | (simp only [rL, Nat.reduceAdd]; done) | (simp only [rL, Nat.reduceAdd]; omega)) only [↓rD, rU, ev, ofConst, ofCell, ↓reduceIte, Nat.reduceEqDiff, Nat.reduceAdd, Nat.reduceSub, Nat.reduceMul, Nat.reduceLeDiff, Nat.reduceLT, Int.reduceNeg, Int.reduceToNat, Int.reduceAdd, Int.reduceSub, Int.reduceMul, Int.reduceLT, Int.reduceLE, Int.reduceEq, rX, dg_cells, dg_fold, List.drop_succ_cons, ↓rF, rG, ne_eq, not_true_eq_false, not_false_eq_true, Int.reduceNe, List.getElem?_cons_zero, List.getElem?_cons_succ, hc, hd, bslM_nil]
  refine newK_intro fun l nl => ?_
  have k1 : slcRA 1 32 (s.set l (.ro (d.map byteAV))) (.ptr l 0) = some (.sl (d.map byteAV) .any) := by
    rw [slcRA_at (Hp.set_same _ _ _) (by simp [hd])]
    rw [List.drop_zero, List.take_of_length_le (by simp [hd])]
  simp (dsimp := false) (implicitDefEqProofs := false) (maxSteps := 1000000) (disch := first | omega | assumption | (simp only [rL, Nat.reduceAdd]; done) | (simp only [rL, Nat.reduceAdd]; omega)) only [↓rD, rU, ev, ofConst, ofCell, ↓reduceIte, Nat.reduceEqDiff, Nat.reduceAdd, Nat.reduceSub, Nat.reduceMul, Nat.reduceLeDiff, Nat.reduceLT, Int.reduceNeg, Int.reduceToNat, Int.reduceAdd, Int.reduceSub, Int.reduceMul, Int.reduceLT, Int.reduceLE, Int.reduceEq, rX, dg_cells, dg_fold, List.drop_succ_cons, ↓rF, rG, ne_eq, not_true_eq_false, not_false_eq_true, Int.reduceNe, List.getElem?_cons_zero, List.getElem?_cons_succ, hc, hd, bslM_nil, k1]
  refine appB_own (bs := []) (MO.zero Hp.sub_refl) srcF_bytes (by simp [hd]) fun x1 s1 m1 => ?_
  rw [List.nil_append] at m1
  simp (dsimp := false) (implicitDefEqProofs := false) (maxSteps := 1000000) (disch := first | omega | assumption | (simp only [rL, Nat.reduceAdd]; done) | (simp only [rL, Nat.reduceAdd]; omega)) only [↓rD, rU, ev, ofConst, ofCell, ↓reduceIte, Nat.reduceEqDiff, Nat.reduceAdd, Nat.reduceSub, Nat.reduceMul, Nat.reduceLeDiff, Nat.reduceLT, Int.reduceNeg, Int.reduceToNat, Int.reduceAdd, Int.reduceSub, Int.reduceMul, Int.reduceLT, Int.reduceLE, Int.reduceEq, rX, dg_cells, dg_fold, List.drop_succ_cons, ↓rF, rG, ne_eq, not_true_eq_false, not_false_eq_true, Int.reduceNe, List.getElem?_cons_zero, List.getElem?_cons_succ]
  exact ⟨_, Hp.sub_refl, m1.base (Hp.sub_new Hp.sub_refl nl)⟩
theorem rleaf_spec (d : List UInt8) (hd : d.length = 32) (s : Hp) : AC Try.prog 83 [dg d] s fun r s' => MO s s' 1 ((leafB d).map byteAV) r := by
  refine AC_run hm prep83 (by simp) ?_
  have hc := dg_cells (d := d)
  have hf := dg_fold hd
  simp (dsimp := false) (implicitDefEqProofs := false) (maxSteps := 1000000) (disch := first | omega | assumption | (simp only [rL, Nat.reduceAdd]; done) | (simp only [rL, Nat.reduceAdd]; omega)) only [↓rD, rU, ev, ofConst, ofCell, ↓reduceIte, Nat.reduceEqDiff, Nat.reduceAdd, Nat.reduceSub, Nat.reduceMul, Nat.reduceLeDiff, Nat.reduceLT, Int.reduceNeg, Int.reduceToNat, Int.reduceAdd, Int.reduceSub, Int.reduceMul, Int.reduceLT, Int.reduceLE, Int.reduceEq, rX, dg_cells, dg_fold, List.drop_succ_cons, ↓rF, rG, ne_eq, not_true_eq_false, not_false_eq_true, Int.reduceNe, List.getElem?_cons_zero, List.getElem?_cons_succ, hc, hd]
  refine newK_intro fun l nl => ?_
  simp (dsimp := false) (implicitDefEqProofs := false) (maxSteps := 1000000) (disch := first | omega | assumption | (simp only [rL, Nat.reduceAdd]; done) | (simp only [rL, Nat.reduceAdd]; omega)) only [↓rD, rU, ev, ofConst, ofCell, ↓reduceIte, Nat.reduceEqDiff, Nat.reduceAdd, Nat.reduceSub, Nat.reduceMul, Nat.reduceLeDiff, Nat.reduceLT, Int.reduceNeg, Int.reduceToNat, Int.reduceAdd, Int.reduceSub, Int.reduceMul, Int.reduceLT, Int.reduceLE, Int.reduceEq, rX, dg_cells, dg_fold, List.drop_succ_cons, ↓rF, rG, ne_eq, not_true_eq_false, not_false_eq_true, Int.reduceNe, List.getElem?_cons_zero, List.getElem?_cons_succ, hc, hd, hf]
  refine call_intro (rbytes_spec d hd _) ?_
  rintro x1 s1 m1
  simp (dsimp := false) (implicitDefEqProofs := false) (maxSteps := 1000000) (disch := first | omega | assumption | (simp only [rL, Nat.reduceAdd]; done) | (simp only [rL, Nat.reduceAdd]; omega)) only [↓rD, rU, ev, ofConst, ofCell, ↓reduceIte, Nat.reduceEqDiff, Nat.reduceAdd, Nat.reduceSub, Nat.reduceMul, Nat.reduceLeDiff, Nat.reduceLT, Int.reduceNeg, Int.reduceToNat, Int.reduceAdd, Int.reduceSub, Int.reduceMul, Int.reduceLT, Int.reduceLE, Int.reduceEq, rX, dg_cells, dg_fold, List.drop_succ_cons, ↓rF, rG, ne_eq, not_true_eq_false, not_false_eq_true, Int.reduceNe, List.getElem?_cons_zero, List.getElem?_cons_succ]
  have hx1 : x1.cells = [x1] := by
    obtain ⟨_, h | ⟨a, b, c, e, rfl, _⟩⟩ := m1
    · rcases h.2 with rfl | rfl <;> rfl
    · rfl
  refine bslM_intro (by simp [allLen, hx1]) (by simp) fun g1 ng1 => ?_
  simp (dsimp := false) (implicitDefEqProofs := false) (maxSteps := 1000000) (disch := first | omega | assumption | (simp only [rL, Nat.reduceAdd]; done) | (simp only [rL, Nat.reduceAdd]; omega)) only [↓rD, rU, ev, ofConst, ofCell, ↓reduceIte, Nat.reduceEqDiff, Nat.reduceAdd, Nat.reduceSub, Nat.reduceMul, Nat.reduceLeDiff, Nat.reduceLT, Int.reduceNeg, Int.reduceToNat, Int.reduceAdd, Int.reduceSub, Int.reduceMul, Int.reduceLT, Int.reduceLE, Int.reduceEq, rX, dg_cells, dg_fold, List.drop_succ_cons, ↓rF, rG, ne_eq, not_true_eq_false, not_false_eq_true, Int.reduceNe, List.getElem?_cons_zero, List.getElem?_cons_succ]
  have hobj : flat [x1] = [(x1, d)].map (·.1) := by simp [flat, hx1]
  rw [hobj]
  refine call_intro (rpre_list 76 [(x1, d)] g1 _ (Hp.set_same _ _ _) ?_ ?_) ?_
  · intro p hp
    rw [List.mem_singleton] at hp
    subst hp
    obtain ⟨n, e1, e2, e3⟩ := (m1.mono (Hp.sub_new Hp.sub_refl ng1) (s' := s1.set g1 (.cells ([(x1, d)].map (·.1))))).src
    simp only [List.length_map, Nat.mul_one] at e1
    subst e1
    exact .inr ⟨e2, e3⟩
  · have := leafB_length d hd
    simp only [leafB] at this
    simp only [List.map_cons, List.map_nil, this]; omega
  rintro x2 s2 m2
  simp (dsimp := false) (implicitDefEqProofs := false) (maxSteps := 1000000) (disch := first | omega | assumption | (simp only [rL, Nat.reduceAdd]; done) | (simp only [rL, Nat.reduceAdd]; omega)) only [↓rD, rU, ev, ofConst, ofCell, ↓reduceIte, Nat.reduceEqDiff, Nat.reduceAdd, Nat.reduceSub, Nat.reduceMul, Nat.reduceLeDiff, Nat.reduceLT, Int.reduceNeg, Int.reduceToNat, Int.reduceAdd, Int.reduceSub, Int.reduceMul, Int.reduceLT, Int.reduceLE, Int.reduceEq, rX, dg_cells, dg_fold, List.drop_succ_cons, ↓rF, rG, ne_eq, not_true_eq_false, not_false_eq_true, Int.reduceNe, List.getElem?_cons_zero, List.getElem?_cons_succ]
  exact ⟨_, Hp.sub_refl, m2.base (Hp.sub_trans (Hp.sub_new Hp.sub_refl nl) (Hp.sub_trans m1.1 (Hp.sub_new Hp.sub_refl ng1)))⟩
theorem rnode_spec (a b : List UInt8) (ha : a.length = 32) (hb : b.length = 32) (s : Hp) : AC Try.prog 85 [dg a, dg b] s fun r s' => MO s s' 1 ((nodeB a b).map byteAV) r := by
  refine AC_run hm prep85 (by simp) ?_
  have hca := dg_cells (d := a)
  have hcb := dg_cells (d := b)
  have hfa := dg_fold ha
  have hfb := dg_fold hb
  simp (dsimp := false) (implicitDefEqProofs := false) (maxSteps := 1000000) (disch := first | omega | assumption | (simp only [rL, Nat.reduceAdd]; done) | (simp only [rL, Nat.reduceAdd]; omega)) only [↓rD, rU, ev, ofConst, ofCell, ↓reduceIte, Nat.reduceEqDiff, Nat.reduceAdd, Nat.reduceSub, Nat.reduceMul, Nat.reduceLeDiff, Nat.reduceLT, Int.reduceNeg, Int.reduceToNat, Int.reduceAdd, Int.reduceSub, Int.reduceMul, Int.reduceLT, Int.reduceLE, Int.reduceEq, rX, dg_cells, dg_fold, List.drop_succ_cons, ↓rF, rG, ne_eq, not_true_eq_false, not_false_eq_true, Int.reduceNe, List.getElem?_cons_zero, List.getElem?_cons_succ, hca, hcb, ha, hb]
  refine newK_intro fun l nl => ?_
  simp (dsimp := false) (implicitDefEqProofs := false) (maxSteps := 1000000) (disch := first | omega | assumption | (simp only [rL, Nat.reduceAdd]; done) | (simp only [rL, Nat.reduceAdd]; omega)) only [↓rD, rU, ev, ofConst, ofCell, ↓reduceIte, Nat.reduceEqDiff, Nat.reduceAdd, Nat.reduceSub, Nat.reduceMul, Nat.reduceLeDiff, Nat.reduceLT, Int.reduceNeg, Int.reduceToNat, Int.reduceAdd, Int.reduceSub, Int.reduceMul, Int.reduceLT, Int.reduceLE, Int.reduceEq, rX, dg_cells, dg_fold, List.drop_succ_cons, ↓rF, rG, ne_eq, not_true_eq_false, not_false_eq_true, Int.reduceNe, List.getElem?_cons_zero, List.getElem?_cons_succ, hca, hcb, ha, hb]
  refine newK_intro fun l3 nl3 => ?_
  obtain ⟨d3, nl3'⟩ := Hp.set_none nl3
  simp (dsimp := false) (implicitDefEqProofs := false) (maxSteps := 1000000) (disch := first | omega | assumption | (simp only [rL, Nat.reduceAdd]; done) | (simp only [rL, Nat.reduceAdd]; omega)) only [↓rD, rU, ev, ofConst, ofCell, ↓reduceIte, Nat.reduceEqDiff, Nat.reduceAdd, Nat.reduceSub, Nat.reduceMul, Nat.reduceLeDiff, Nat.reduceLT, Int.reduceNeg, Int.reduceToNat, Int.reduceAdd, Int.reduceSub, Int.reduceMul, Int.reduceLT, Int.reduceLE, Int.reduceEq, rX, dg_cells, dg_fold, List.drop_succ_cons, ↓rF, rG, ne_eq, not_true_eq_false, not_false_eq_true, Int.reduceNe, List.getElem?_cons_zero, List.getElem?_cons_succ, hca, hcb, ha, hb, hfa, hfb, d3, Ne.symm d3]
  refine call_intro (rbytes_spec a ha _) ?_
  rintro x1 s1 m1
  have gb := m1.1 _ _ (Hp.set_same _ _ _)
  simp (dsimp := false) (implicitDefEqProofs := false) (maxSteps := 1000000) (disch := first | omega | assumption | (simp only [rL, Nat.reduceAdd]; done) | (simp only [rL, Nat.reduceAdd]; omega)) only [↓rD, rU, ev, ofConst, ofCell, ↓reduceIte, Nat.reduceEqDiff, Nat.reduceAdd, Nat.reduceSub, Nat.reduceMul, Nat.reduceLeDiff, Nat.reduceLT, Int.reduceNeg, Int.reduceToNat, Int.reduceAdd, Int.reduceSub, Int.reduceMul, Int.reduceLT, Int.reduceLE, Int.reduceEq, rX, dg_cells, dg_fold, List.drop_succ_cons, ↓rF, rG, ne_eq, not_true_eq_false, not_false_eq_true, Int.reduceNe, List.getElem?_cons_zero, List.getElem?_cons_succ, hca, hcb, ha, hb, hfa, hfb, Hp.read_of gb]
  refine call_intro (rbytes_spec b hb _) ?_
  rintro x2 s2 m2
  simp (dsimp := false) (implicitDefEqProofs := false) (maxSteps := 1000000) (disch := first | omega | assumption | (simp only [rL, Nat.reduceAdd]; done) | (simp only [rL, Nat.reduceAdd]; omega)) only [↓rD, rU, ev, ofConst, ofCell, ↓reduceIte, Nat.reduceEqDiff, Nat.reduceAdd, Nat.reduceSub, Nat.reduceMul, Nat.reduceLeDiff, Nat.reduceLT, Int.reduceNeg, Int.reduceToNat, Int.reduceAdd, Int.reduceSub, Int.reduceMul, Int.reduceLT, Int.reduceLE, Int.reduceEq, rX, dg_cells, dg_fold, List.drop_succ_cons, ↓rF, rG, ne_eq, not_true_eq_false, not_false_eq_true, Int.reduceNe, List.getElem?_cons_zero, List.getElem?_cons_succ]
  have hxc : ∀ {x : AV} {s s' : Hp} {us : List AV}, MO s s' 1 us x → x.cells = [x] := by
    intro x s s' us m
    obtain ⟨_, h | ⟨a, b, c, e, rfl, _⟩⟩ := m
    · rcases h.2 with rfl | rfl <;> rfl
    · rfl
  have hx1 := hxc m1
  have hx2 := hxc m2
  refine bslM_intro (by simp [allLen, hx1, hx2]) (by simp) fun g1 ng1 => ?_
  simp (dsimp := false) (implicitDefEqProofs := false) (maxSteps := 1000000) (disch := first | omega | assumption | (simp only [rL, Nat.reduceAdd]; done) | (simp only [rL, Nat.reduceAdd]; omega)) only [↓rD, rU, ev, ofConst, ofCell, ↓reduceIte, Nat.reduceEqDiff, Nat.reduceAdd, Nat.reduceSub, Nat.reduceMul, Nat.reduceLeDiff, Nat.reduceLT, Int.reduceNeg, Int.reduceToNat, Int.reduceAdd, Int.reduceSub, Int.reduceMul, Int.reduceLT, Int.reduceLE, Int.reduceEq, rX, dg_cells, dg_fold, List.drop_succ_cons, ↓rF, rG, ne_eq, not_true_eq_false, not_false_eq_true, Int.reduceNe, List.getElem?_cons_zero, List.getElem?_cons_succ]
  have hobj : flat [x1, x2] = [(x1, a), (x2, b)].map (·.1) := by simp [flat, hx1, hx2]
  rw [hobj]
  have hsn := Hp.sub_new (Hp.sub_refl (s := s2)) ng1 (o := .cells ([(x1, a), (x2, b)].map (·.1)))
  refine call_intro (rpre_list 78 [(x1, a), (x2, b)] g1 _ (Hp.set_same _ _ _) ?_ ?_) ?_
  · intro p hp
    simp only [List.mem_cons, List.not_mem_nil, or_false] at hp
    rcases hp with rfl | rfl
    · obtain ⟨n, e1, e2, e3⟩ := (m1.mono (Hp.sub_trans m2.1 hsn)).src
      simp only [List.length_map, Nat.mul_one] at e1
      subst e1
      exact .inr ⟨e2, e3⟩
    · obtain ⟨n, e1, e2, e3⟩ := (m2.mono hsn).src
      simp only [List.length_map, Nat.mul_one] at e1
      subst e1
      exact .inr ⟨e2, e3⟩
  · have := nodeB_length a b ha hb
    simp only [nodeB] at this
    simp only [List.map_cons, List.map_nil, this]; omega
  rintro x3 s3 m3
  simp (dsimp := false) (implicitDefEqProofs := false) (maxSteps := 1000000) (disch := first | omega | assumption | (simp only [rL, Nat.reduceAdd]; done) | (simp only [rL, Nat.reduceAdd]; omega)) only [↓rD, rU, ev, ofConst, ofCell, ↓reduceIte, Nat.reduceEqDiff, Nat.reduceAdd, Nat.reduceSub, Nat.reduceMul, Nat.reduceLeDiff, Nat.reduceLT, Int.reduceNeg, Int.reduceToNat, Int.reduceAdd, Int.reduceSub, Int.reduceMul, Int.reduceLT, Int.reduceLE, Int.reduceEq, rX, dg_cells, dg_fold, List.drop_succ_cons, ↓rF, rG, ne_eq, not_true_eq_false, not_false_eq_true, Int.reduceNe, List.getElem?_cons_zero, List.getElem?_cons_succ]
  exact ⟨_, Hp.sub_refl, m3.base (Hp.sub_trans (Hp.sub_new (Hp.sub_new Hp.sub_refl nl) nl3') (Hp.sub_trans m1.1 (Hp.sub_trans m2.1 hsn)))⟩
end Go.Proofs.Ytapjikladjoicaa
/-
  ref18: Half, Root of nothing, Grown; how many sums a growth takes.
-/
set_option maxRecDepth 100000
namespace Go.Proofs.Ytapjikladjoicaa
open Go Go.Av

theorem rhalf_spec (n : Nat) (hn : n ≤ 2199023255552) (s : Hp) : AC Try.prog 84 [.v (.int .i64 n)] s fun r s' => s' = s ∧ r = .v (.int .i64 (half n)) := by
  refine AC_run hm prep84 (by simp) ?_
  simp (dsimp := false) (implicitDefEqProofs := false) (maxSteps := 1000000) (disch := first | omega | assumption | (simp only [rL, Nat.reduceAdd]; done) | (simp only [rL, Nat.reduceAdd]; omega)) only [↓rD, rU, ev, ofConst, ofCell, ↓reduceIte, Nat.reduceEqDiff, Nat.reduceAdd, Nat.reduceSub, Nat.reduceMul, Nat.reduceLeDiff, Nat.reduceLT, Int.reduceNeg, Int.reduceToNat, Int.reduceAdd, Int.reduceSub, Int.reduceMul, Int.reduceLT, Int.reduceLE, Int.reduceEq, rX, dg_cells, dg_fold, List.drop_succ_cons, ↓rF, rG, ne_eq, not_true_eq_false, not_false_eq_true, Int.reduceNe, List.getElem?_cons_zero, List.getElem?_cons_succ]
  refine loop_intro (fun f s' => ∃ j : Nat, j ≤ (n - 1).log2 ∧ s' = s ∧ f 0 = .v (.int .i64 n) ∧ f 3 = .v (.int .i64 ((2 ^ j : Nat) : Int)))
    (fun f _ => match f 3 with | .v (.int _ k) => (n - k).toNat | _ => 0) ⟨0, by omega, ?_⟩ ?_
  · simp (dsimp := false) (implicitDefEqProofs := false) (maxSteps := 1000000) (disch := first | omega | assumption | (simp only [rL, Nat.reduceAdd]; done) | (simp only [rL, Nat.reduceAdd]; omega)) only [↓rD, rU, ev, ofConst, ofCell, ↓reduceIte, Nat.reduceEqDiff, Nat.reduceAdd, Nat.reduceSub, Nat.reduceMul, Nat.reduceLeDiff, Nat.reduceLT, Int.reduceNeg, Int.reduceToNat, Int.reduceAdd, Int.reduceSub, Int.reduceMul, Int.reduceLT, Int.reduceLE, Int.reduceEq, rX, dg_cells, dg_fold, List.drop_succ_cons, ↓rF, rG, ne_eq, not_true_eq_false, not_false_eq_true, Int.reduceNe, List.getElem?_cons_zero, List.getElem?_cons_succ]
    rfl
  · rintro f _ ⟨j, hj, rfl, f0, f3⟩
    have hp : 0 < 2 ^ j := Nat.pow_pos (by omega)
    have hle : 2 ^ j ≤ 2 ^ (n - 1).log2 := Nat.pow_le_pow_right (by omega) hj
    have hb : 2 ^ (n - 1).log2 ≤ 2199023255552 := by
      by_cases h1 : n - 1 = 0
      · rw [h1]; decide
      · have := Nat.log2_self_le h1; omega
    have hs : 2 ^ (j + 1) = 2 * 2 ^ j := by rw [Nat.pow_succ]; omega
    generalize hK : 2 ^ j = K at *
    by_cases hlt : 2 * (K : Int) < (n : Int)
    · simp (dsimp := false) (implicitDefEqProofs := false) (maxSteps := 1000000) (disch := first | omega | assumption | (simp only [rL, Nat.reduceAdd]; done) | (simp only [rL, Nat.reduceAdd]; omega)) only [↓rD, rU, ev, ofConst, ofCell, ↓reduceIte, Nat.reduceEqDiff, Nat.reduceAdd, Nat.reduceSub, Nat.reduceMul, Nat.reduceLeDiff, Nat.reduceLT, Int.reduceNeg, Int.reduceToNat, Int.reduceAdd, Int.reduceSub, Int.reduceMul, Int.reduceLT, Int.reduceLE, Int.reduceEq, rX, dg_cells, dg_fold, List.drop_succ_cons, ↓rF, rG, ne_eq, not_true_eq_false, not_false_eq_true, Int.reduceNe, List.getElem?_cons_zero, List.getElem?_cons_succ, f0, f3, hlt]
      refine ⟨⟨j + 1, ?_, by rw [hs]; simp⟩, by omega⟩
      exact (Nat.le_log2 (by omega)).2 (by omega)
    · simp (dsimp := false) (implicitDefEqProofs := false) (maxSteps := 1000000) (disch := first | omega | assumption | (simp only [rL, Nat.reduceAdd]; done) | (simp only [rL, Nat.reduceAdd]; omega)) only [↓rD, rU, ev, ofConst, ofCell, ↓reduceIte, Nat.reduceEqDiff, Nat.reduceAdd, Nat.reduceSub, Nat.reduceMul, Nat.reduceLeDiff, Nat.reduceLT, Int.reduceNeg, Int.reduceToNat, Int.reduceAdd, Int.reduceSub, Int.reduceMul, Int.reduceLT, Int.reduceLE, Int.reduceEq, rX, dg_cells, dg_fold, List.drop_succ_cons, ↓rF, rG, ne_eq, not_true_eq_false, not_false_eq_true, Int.reduceNe, List.getElem?_cons_zero, List.getElem?_cons_succ, f0, f3, hlt]
      refine ⟨_, Hp.sub_refl, rfl, ?_⟩
      have : j = (n - 1).log2 := by
        by_cases h1 : n - 1 = 0
        · rw [h1] at hj ⊢
          have : Nat.log2 0 = 0 := by decide
          omega
        · have := (Nat.log2_lt h1 (k := j + 1)).2 (by omega)
          omega
      rw [half, ← this, hK]

theorem rroot_nil (o : Own) (s : Hp) : AC Try.prog 65 [.sl [] o] s fun r s' => s' = s ∧ r = dg (sha256 (preB 72 [])) := by
  refine AC_run hm prep65 (by simp) ?_
  simp (dsimp := false) (implicitDefEqProofs := false) (maxSteps := 1000000) (disch := first | omega | assumption | (simp only [rL, Nat.reduceAdd]; done) | (simp only [rL, Nat.reduceAdd]; omega)) only [↓rD, rU, ev, ofConst, ofCell, ↓reduceIte, Nat.reduceEqDiff, Nat.reduceAdd, Nat.reduceSub, Nat.reduceMul, Nat.reduceLeDiff, Nat.reduceLT, Int.reduceNeg, Int.reduceToNat, Int.reduceAdd, Int.reduceSub, Int.reduceMul, Int.reduceLT, Int.reduceLE, Int.reduceEq, rX, dg_cells, dg_fold, List.drop_succ_cons, ↓rF, rG, ne_eq, not_true_eq_false, not_false_eq_true, Int.reduceNe, List.getElem?_cons_zero, List.getElem?_cons_succ]
  refine newK_intro fun l nl => ?_
  simp (dsimp := false) (implicitDefEqProofs := false) (maxSteps := 1000000) (disch := first | omega | assumption | (simp only [rL, Nat.reduceAdd]; done) | (simp only [rL, Nat.reduceAdd]; omega)) only [↓rD, rU, ev, ofConst, ofCell, ↓reduceIte, Nat.reduceEqDiff, Nat.reduceAdd, Nat.reduceSub, Nat.reduceMul, Nat.reduceLeDiff, Nat.reduceLT, Int.reduceNeg, Int.reduceToNat, Int.reduceAdd, Int.reduceSub, Int.reduceMul, Int.reduceLT, Int.reduceLE, Int.reduceEq, rX, dg_cells, dg_fold, List.drop_succ_cons, ↓rF, rG, ne_eq, not_true_eq_false, not_false_eq_true, Int.reduceNe, List.getElem?_cons_zero, List.getElem?_cons_succ]
  refine call_intro (rpre_nil 72 _) ?_
  rintro x1 s1 m1
  simp (dsimp := false) (implicitDefEqProofs := false) (maxSteps := 1000000) (disch := first | omega | assumption | (simp only [rL, Nat.reduceAdd]; done) | (simp only [rL, Nat.reduceAdd]; omega)) only [↓rD, rU, ev, ofConst, ofCell, ↓reduceIte, Nat.reduceEqDiff, Nat.reduceAdd, Nat.reduceSub, Nat.reduceMul, Nat.reduceLeDiff, Nat.reduceLT, Int.reduceNeg, Int.reduceToNat, Int.reduceAdd, Int.reduceSub, Int.reduceMul, Int.reduceLT, Int.reduceLE, Int.reduceEq, rX, dg_cells, dg_fold, List.drop_succ_cons, ↓rF, rG, ne_eq, not_true_eq_false, not_false_eq_true, Int.reduceNe, List.getElem?_cons_zero, List.getElem?_cons_succ]
  obtain ⟨n, e1, e2, e3⟩ := m1.src
  simp only [List.length_map, Nat.mul_one] at e1
  subst e1
  refine call_intro (rsum_spec (preB 72 []) (by simp [preB]) x1 _ e2 e3) ?_
  rintro _ s1 ⟨rfl, rfl⟩
  have gl := m1.1 _ _ (Hp.set_same _ _ _)
  have hq := sha256_length (preB 72 [])
  have hs := m1.1
  clear m1 e2 e3
  generalize sha256 (preB 72 []) = d at *
  have hc := dg_cells (d := d)
  have hp : putAt (List.replicate 32 (AV.v (.int .u8 0))) 0 (d.map byteAV) = d.map byteAV := by
    rw [putAt, List.length_map, hq]; simp
  simp (dsimp := false) (implicitDefEqProofs := false) (maxSteps := 1000000) (disch := first | omega | assumption | (simp only [rL, Nat.reduceAdd]; done) | (simp only [rL, Nat.reduceAdd]; omega)) only [↓rD, rU, ev, ofConst, ofCell, ↓reduceIte, Nat.reduceEqDiff, Nat.reduceAdd, Nat.reduceSub, Nat.reduceMul, Nat.reduceLeDiff, Nat.reduceLT, Int.reduceNeg, Int.reduceToNat, Int.reduceAdd, Int.reduceSub, Int.reduceMul, Int.reduceLT, Int.reduceLE, Int.reduceEq, rX, dg_cells, dg_fold, List.drop_succ_cons, ↓rF, rG, ne_eq, not_true_eq_false, not_false_eq_true, Int.reduceNe, List.getElem?_cons_zero, List.getElem?_cons_succ, hc, hq, hp, Hp.read_of gl, Hp.stA_of gl]
  exact ⟨s, Hp.sub_new (Hp.sub_trans (Hp.sub_new Hp.sub_refl nl) hs) nl, rfl⟩

/-- how many sums a growth takes -/
def grownN (m n : Nat) (own : Bool) : Nat :=
  if h : m = n then (if own = true then 0 else 1)
  else if h2 : n < 2 then 1
  else if m ≤ half n then 1 + grownN m (half n) own
  else 1 + grownN (m - half n) (n - half n) false
termination_by n
decreasing_by
  · exact half_lt n (by omega)
  · have := half_pos n; omega
theorem grownN_own {n : Nat} : grownN n n true = 0 := by rw [grownN]; simp
theorem grownN_eq {n : Nat} : grownN n n false = 1 := by rw [grownN]; simp
theorem grownN_left {m n : Nat} {own : Bool} (h : m ≠ n) (h2 : 2 ≤ n) (hk : m ≤ half n) : grownN m n own = 1 + grownN m (half n) own := by
  rw [grownN, dif_neg h, dif_neg (by omega), if_pos hk]
theorem grownN_right {m n : Nat} {own : Bool} (h : m ≠ n) (h2 : 2 ≤ n) (hk : ¬ m ≤ half n) : grownN m n own = 1 + grownN (m - half n) (n - half n) false := by
  rw [grownN, dif_neg h, dif_neg (by omega), if_neg hk]
theorem grownN_le : ∀ (N m n : Nat) (own : Bool), n = N → 1 ≤ m → m ≤ n → grownN m n own ≤ n := by
  intro N
  induction N using Nat.strongRecOn with
  | _ N ih =>
  intro m n own hN h1 hmn
  by_cases h : m = n
  · subst h; cases own
    · rw [grownN_eq]; omega
    · rw [grownN_own]; omega
  · have hlt := half_lt n (by omega)
    have hpos := half_pos n
    by_cases hk : m ≤ half n
    · rw [grownN_left h (by omega) hk]
      have := ih (half n) (by omega) m (half n) own rfl h1 hk
      omega
    · rw [grownN_right h (by omega) hk]
      have := ih (n - half n) (by omega) (m - half n) (n - half n) false rfl (by omega) (by omega)
      omega
theorem both_grown : ∀ (N : Nat) (a : List UInt8) (m n : Nat) (own : Bool) (ds : List (List UInt8)), n = N → 1 ≤ m → m ≤ n →
    (ds.length < grownN m n own → (bothF a m n own ds).lk = true) ∧ (grownN m n own ≤ ds.length → (bothF a m n own ds).lk = false ∧ (bothF a m n own ds).ds.length + grownN m n own = ds.length) := by
  intro N
  induction N using Nat.strongRecOn with
  | _ N ih =>
  intro a m n own ds hN h1 hmn
  by_cases h : m = n ∧ own = true
  · obtain ⟨rfl, rfl⟩ := h
    rw [bothF_own, grownN_own]; exact ⟨fun h => absurd h (by omega), fun _ => ⟨rfl, rfl⟩⟩
  · rcases List.eq_nil_or_concat ds with rfl | ⟨q, d, hqd⟩
    · have ht : takeF [] false = (zd, [], true) := rfl
      rw [bothF_end h ht (.inl rfl)]
      refine ⟨fun _ => rfl, fun hg => ?_⟩
      exfalso
      have h0 : grownN m n own = 0 := by simpa using hg
      by_cases e : m = n
      · subst e
        cases own
        · rw [grownN_eq] at h0; omega
        · exact h ⟨rfl, rfl⟩
      · by_cases hk : m ≤ half n
        · rw [grownN_left e (by omega) hk] at h0; omega
        · rw [grownN_right e (by omega) hk] at h0; omega
    · simp only [List.concat_eq_append] at hqd
      subst hqd
      have ht : takeF (q ++ [d]) false = (d, q, false) := by simp [takeF]
      by_cases e : m = n
      · subst e
        have ho : own = false := by cases own; rfl; exact absurd ⟨rfl, rfl⟩ h
        subst ho
        rw [bothF_end h ht (.inr rfl), grownN_eq]
        exact ⟨fun hh => by simp at hh, fun _ => ⟨rfl, by simp⟩⟩
      · have hlt := half_lt n (by omega)
        have hpos := half_pos n
        by_cases hk : m ≤ half n
        · rw [bothF_left e (by omega) ht hk, grownN_left e (by omega) hk]
          obtain ⟨i1, i2⟩ := ih (half n) (by omega) a m (half n) own q rfl h1 hk
          simp only [List.length_append, List.length_singleton]
          exact ⟨fun hh => i1 (by omega), fun hh => ⟨(i2 (by omega)).1, by have := (i2 (by omega)).2; omega⟩⟩
        · rw [bothF_right e (by omega) ht hk, grownN_right e (by omega) hk]
          obtain ⟨i1, i2⟩ := ih (n - half n) (by omega) a (m - half n) (n - half n) false q rfl (by omega) (by omega)
          simp only [List.length_append, List.length_singleton]
          exact ⟨fun hh => i1 (by omega), fun hh => ⟨(i2 (by omega)).1, by have := (i2 (by omega)).2; omega⟩⟩

theorem rgrown_spec : ∀ (N m n : Nat) (own : Bool) (s : Hp), n = N → 1 ≤ m → m ≤ n → n ≤ 1099511627776 →
    AC Try.prog 66 [.v (.int .i64 m), .v (.int .i64 n), .v (.bool own)] s fun r s' => s' = s ∧ r = .v (.int .i64 (grownN m n own)) := by
  intro N
  induction N using Nat.strongRecOn with
  | _ N ih =>
  intro m n own s hN h1 hmn hn
  refine AC_run hm prep66 (by simp) ?_
  by_cases h : m = n
  · subst h
    cases own
    · simp (dsimp := false) (implicitDefEqProofs := false) (maxSteps := 1000000) (disch := first | omega | assumption | (simp only [rL, Nat.reduceAdd]; done) | (simp only [rL, Nat.reduceAdd]; omega)) only [↓rD, rU, ev, ofConst, ofCell, ↓reduceIte, Nat.reduceEqDiff, Nat.reduceAdd, Nat.reduceSub, Nat.reduceMul, Nat.reduceLeDiff, Nat.reduceLT, Int.reduceNeg, Int.reduceToNat, Int.reduceAdd, Int.reduceSub, Int.reduceMul, Int.reduceLT, Int.reduceLE, Int.reduceEq, rX, dg_cells, dg_fold, List.drop_succ_cons, ↓rF, rG, ne_eq, not_true_eq_false, not_false_eq_true, Int.reduceNe, List.getElem?_cons_zero, List.getElem?_cons_succ]
      rw [grownN_eq]; exact ⟨_, Hp.sub_refl, rfl, rfl⟩
    · simp (dsimp := false) (implicitDefEqProofs := false) (maxSteps := 1000000) (disch := first | omega | assumption | (simp only [rL, Nat.reduceAdd]; done) | (simp only [rL, Nat.reduceAdd]; omega)) only [↓rD, rU, ev, ofConst, ofCell, ↓reduceIte, Nat.reduceEqDiff, Nat.reduceAdd, Nat.reduceSub, Nat.reduceMul, Nat.reduceLeDiff, Nat.reduceLT, Int.reduceNeg, Int.reduceToNat, Int.reduceAdd, Int.reduceSub, Int.reduceMul, Int.reduceLT, Int.reduceLE, Int.reduceEq, rX, dg_cells, dg_fold, List.drop_succ_cons, ↓rF, rG, ne_eq, not_true_eq_false, not_false_eq_true, Int.reduceNe, List.getElem?_cons_zero, List.getElem?_cons_succ]
      rw [grownN_own]; exact ⟨_, Hp.sub_refl, rfl, rfl⟩
  · have hc : ¬ (m : Int) = (n : Int) := by omega
    have hlt := half_lt n (by omega)
    have hpos := half_pos n
    simp (dsimp := false) (implicitDefEqProofs := false) (maxSteps := 1000000) (disch := first | omega | assumption | (simp only [rL, Nat.reduceAdd]; done) | (simp only [rL, Nat.reduceAdd]; omega)) only [↓rD, rU, ev, ofConst, ofCell, ↓reduceIte, Nat.reduceEqDiff, Nat.reduceAdd, Nat.reduceSub, Nat.reduceMul, Nat.reduceLeDiff, Nat.reduceLT, Int.reduceNeg, Int.reduceToNat, Int.reduceAdd, Int.reduceSub, Int.reduceMul, Int.reduceLT, Int.reduceLE, Int.reduceEq, rX, dg_cells, dg_fold, List.drop_succ_cons, ↓rF, rG, ne_eq, not_true_eq_false, not_false_eq_true, Int.reduceNe, List.getElem?_cons_zero, List.getElem?_cons_succ, hc]
    refine call_intro (rhalf_spec n (by omega) _) ?_
    rintro _ s ⟨rfl, rfl⟩
    by_cases hk : m ≤ half n
    · have hk' : (m : Int) ≤ (half n : Int) := by omega
      have hgl := grownN_le _ m (half n) own rfl h1 hk
      simp (dsimp := false) (implicitDefEqProofs := false) (maxSteps := 1000000) (disch := first | omega | assumption | (simp only [rL, Nat.reduceAdd]; done) | (simp only [rL, Nat.reduceAdd]; omega)) only [↓rD, rU, ev, ofConst, ofCell, ↓reduceIte, Nat.reduceEqDiff, Nat.reduceAdd, Nat.reduceSub, Nat.reduceMul, Nat.reduceLeDiff, Nat.reduceLT, Int.reduceNeg, Int.reduceToNat, Int.reduceAdd, Int.reduceSub, Int.reduceMul, Int.reduceLT, Int.reduceLE, Int.reduceEq, rX, dg_cells, dg_fold, List.drop_succ_cons, ↓rF, rG, ne_eq, not_true_eq_false, not_false_eq_true, Int.reduceNe, List.getElem?_cons_zero, List.getElem?_cons_succ, hk']
      refine call_intro (ih (half n) (by omega) m (half n) own _ rfl h1 hk (by omega)) ?_
      rintro _ s ⟨rfl, rfl⟩
      simp (dsimp := false) (implicitDefEqProofs := false) (maxSteps := 1000000) (disch := first | omega | assumption | (simp only [rL, Nat.reduceAdd]; done) | (simp only [rL, Nat.reduceAdd]; omega)) only [↓rD, rU, ev, ofConst, ofCell, ↓reduceIte, Nat.reduceEqDiff, Nat.reduceAdd, Nat.reduceSub, Nat.reduceMul, Nat.reduceLeDiff, Nat.reduceLT, Int.reduceNeg, Int.reduceToNat, Int.reduceAdd, Int.reduceSub, Int.reduceMul, Int.reduceLT, Int.reduceLE, Int.reduceEq, rX, dg_cells, dg_fold, List.drop_succ_cons, ↓rF, rG, ne_eq, not_true_eq_false, not_false_eq_true, Int.reduceNe, List.getElem?_cons_zero, List.getElem?_cons_succ]
      rw [grownN_left h (by omega) hk]
      refine ⟨_, Hp.sub_refl, rfl, by simp⟩
    · have hk' : ¬ (m : Int) ≤ (half n : Int) := by omega
      have e1 : (m : Int) - (half n : Int) = ((m - half n : Nat) : Int) := by omega
      have e2 : (n : Int) - (half n : Int) = ((n - half n : Nat) : Int) := by omega
      have hgl := grownN_le _ (m - half n) (n - half n) false rfl (by omega) (by omega)
      simp (dsimp := false) (implicitDefEqProofs := false) (maxSteps := 1000000) (disch := first | omega | assumption | (simp only [rL, Nat.reduceAdd]; done) | (simp only [rL, Nat.reduceAdd]; omega)) only [↓rD, rU, ev, ofConst, ofCell, ↓reduceIte, Nat.reduceEqDiff, Nat.reduceAdd, Nat.reduceSub, Nat.reduceMul, Nat.reduceLeDiff, Nat.reduceLT, Int.reduceNeg, Int.reduceToNat, Int.reduceAdd, Int.reduceSub, Int.reduceMul, Int.reduceLT, Int.reduceLE, Int.reduceEq, rX, dg_cells, dg_fold, List.drop_succ_cons, ↓rF, rG, ne_eq, not_true_eq_false, not_false_eq_true, Int.reduceNe, List.getElem?_cons_zero, List.getElem?_cons_succ, hk', e1, e2]
      refine call_intro (ih (n - half n) (by omega) (m - half n) (n - half n) false _ rfl (by omega) (by omega) (by omega)) ?_
      rintro _ s ⟨rfl, rfl⟩
      simp (dsimp := false) (implicitDefEqProofs := false) (maxSteps := 1000000) (disch := first | omega | assumption | (simp only [rL, Nat.reduceAdd]; done) | (simp only [rL, Nat.reduceAdd]; omega)) only [↓rD, rU, ev, ofConst, ofCell, ↓reduceIte, Nat.reduceEqDiff, Nat.reduceAdd, Nat.reduceSub, Nat.reduceMul, Nat.reduceLeDiff, Nat.reduceLT, Int.reduceNeg, Int.reduceToNat, Int.reduceAdd, Int.reduceSub, Int.reduceMul, Int.reduceLT, Int.reduceLE, Int.reduceEq, rX, dg_cells, dg_fold, List.drop_succ_cons, ↓rF, rG, ne_eq, not_true_eq_false, not_false_eq_true, Int.reduceNe, List.getElem?_cons_zero, List.getElem?_cons_succ]
      rw [grownN_right h (by omega) hk]
      refine ⟨_, Hp.sub_refl, rfl, by simp⟩
end Go.Proofs.Ytapjikladjoicaa
/-
  ref18.Both, ref18.Grows.
-/
set_option maxRecDepth 100000
set_option maxHeartbeats 1000000
namespace Go.Proofs.Ytapjikladjoicaa
open Go Go.Av

theorem MO_other {s0 s : Hp} {k l2 : Nat} {us : List AV} {a : AV} {ob o2 : Ob} (h : MO s0 s k us a) (hl : s0 l2 = some o2) : MO (s0.set l2 ob) (s.set l2 ob) k us a := by
  obtain ⟨h1, h2⟩ := h
  refine ⟨Hp.sub_set h1, ?_⟩
  rcases h2 with h2 | ⟨l, n, cap, cs, q1, q2, q3, q4⟩
  · exact .inl h2
  · have hne : l ≠ l2 := by rintro rfl; rw [hl] at q2; cases q2
    exact .inr ⟨l, n, cap, cs, q1, by rw [Hp.set_ne _ _ hne]; exact q2, by rw [Hp.set_ne _ _ hne]; exact q3, q4⟩
theorem MO_one_cell {x : AV} {s s' : Hp} {k : Nat} {us : List AV} (m : MO s s' k us x) : x.cells = [x] := by
  obtain ⟨_, h | ⟨a, b, c, e, rfl, _⟩⟩ := m
  · rcases h.2 with rfl | rfl <;> rfl
  · rfl
theorem srcF_cells {s : Hp} {g : Nat} {xs : List AV} {n : Nat} (hn : n = xs.length) : srcF (s.set g (.cells xs)) 1 (.mb g n n 1) = some (n, xs) := by
  subst hn
  simp [srcF, Hp.read_of (Hp.set_same _ _ _)]
theorem dig_put {d : List UInt8} (h : d.length = 32) {cs : List AV} (hc : cs.length = 32) : putAt cs 0 (d.map byteAV) = d.map byteAV := by
  rw [putAt, List.length_map, h]
  simp [List.drop_of_length_le, hc]
theorem z32_len : (List.replicate 32 (AV.v (.int .u8 0))).length = 32 := rfl

theorem rboth_spec : ∀ (N : Nat) (a : List UInt8) (m n : Nat) (own : Bool) (ds : List (List UInt8)) (o : Own) (s : Hp), n = N → 1 ≤ m → m ≤ n → n ≤ 1099511627776 → a.length = 32 → Digs ds → ds.length = grownN m n own → ds.length ≤ 400000 →
    AC Try.prog 67 [dg a, .v (.int .i64 m), .v (.int .i64 n), .v (.bool own), .sl (ds.map dg) o] s fun r s' =>
      ∃ t us, r = .tup [dg (bothF a m n own ds).x, dg (bothF a m n own ds).y, t] ∧ MO s s' 1 us t ∧ us.length ≤ 2 * ds.length := by
  intro N
  induction N using Nat.strongRecOn with
  | _ N ih =>
  intro a m n own ds o s hN h1 hmn hn ha hd hg hdl
  refine AC_run hm prep67 (by simp) ?_
  have hca := dg_cells (d := a)
  have hfa := dg_fold ha
  have zz := z32_len
  simp (dsimp := false) (implicitDefEqProofs := false) (maxSteps := 1000000) (disch := first | omega | assumption | (simp only [rL, Nat.reduceAdd]; done) | (simp only [rL, Nat.reduceAdd]; omega)) only [↓rD, rU, ev, ofConst, ofCell, ↓reduceIte, Nat.reduceEqDiff, Nat.reduceAdd, Nat.reduceSub, Nat.reduceMul, Nat.reduceLeDiff, Nat.reduceLT, Int.reduceNeg, Int.reduceToNat, Int.reduceAdd, Int.reduceSub, Int.reduceMul, Int.reduceLT, Int.reduceLE, Int.reduceEq, rX, dg_cells, dg_fold, List.drop_succ_cons, ↓rF, rG, ne_eq, not_true_eq_false, not_false_eq_true, Int.reduceNe, List.getElem?_cons_zero, List.getElem?_cons_succ, hca, ha]
  refine newK_intro fun l5 n5 => ?_
  simp (dsimp := false) (implicitDefEqProofs := false) (maxSteps := 1000000) (disch := first | omega | assumption | (simp only [rL, Nat.reduceAdd]; done) | (simp only [rL, Nat.reduceAdd]; omega)) only [↓rD, rU, ev, ofConst, ofCell, ↓reduceIte, Nat.reduceEqDiff, Nat.reduceAdd, Nat.reduceSub, Nat.reduceMul, Nat.reduceLeDiff, Nat.reduceLT, Int.reduceNeg, Int.reduceToNat, Int.reduceAdd, Int.reduceSub, Int.reduceMul, Int.reduceLT, Int.reduceLE, Int.reduceEq, rX, dg_cells, dg_fold, List.drop_succ_cons, ↓rF, rG, ne_eq, not_true_eq_false, not_false_eq_true, Int.reduceNe, List.getElem?_cons_zero, List.getElem?_cons_succ, hca, ha]
  refine newK_intro fun l10 n10 => ?_
  obtain ⟨d105, e10⟩ := Hp.set_none n10
  simp (dsimp := false) (implicitDefEqProofs := false) (maxSteps := 1000000) (disch := first | omega | assumption | (simp only [rL, Nat.reduceAdd]; done) | (simp only [rL, Nat.reduceAdd]; omega)) only [↓rD, rU, ev, ofConst, ofCell, ↓reduceIte, Nat.reduceEqDiff, Nat.reduceAdd, Nat.reduceSub, Nat.reduceMul, Nat.reduceLeDiff, Nat.reduceLT, Int.reduceNeg, Int.reduceToNat, Int.reduceAdd, Int.reduceSub, Int.reduceMul, Int.reduceLT, Int.reduceLE, Int.reduceEq, rX, dg_cells, dg_fold, List.drop_succ_cons, ↓rF, rG, ne_eq, not_true_eq_false, not_false_eq_true, Int.reduceNe, List.getElem?_cons_zero, List.getElem?_cons_succ, hca, ha]
  refine newK_intro fun l11 n11 => ?_
  obtain ⟨d1110, e11⟩ := Hp.set_none n11
  obtain ⟨d115, e11⟩ := Hp.set_none e11
  have hsub3 : ∀ x y z : Ob, s.sub (((s.set l5 x).set l10 y).set l11 z) := fun x y z => Hp.sub_new (Hp.sub_new (Hp.sub_new Hp.sub_refl n5) e10) e11
  by_cases h : m = n
  · subst h
    cases own
    · rw [grownN_eq] at hg
      obtain ⟨d, rfl⟩ := List.length_eq_one_iff.1 hg
      have hd32 := hd d (by simp)
      have ht : takeF [d] false = (d, [], false) := rfl
      rw [bothF_end (by simp) ht (.inr rfl)]
      simp (dsimp := false) (implicitDefEqProofs := false) (maxSteps := 1000000) (disch := first | omega | assumption | (simp only [rL, Nat.reduceAdd]; done) | (simp only [rL, Nat.reduceAdd]; omega)) only [↓rD, rU, ev, ofConst, ofCell, ↓reduceIte, Nat.reduceEqDiff, Nat.reduceAdd, Nat.reduceSub, Nat.reduceMul, Nat.reduceLeDiff, Nat.reduceLT, Int.reduceNeg, Int.reduceToNat, Int.reduceAdd, Int.reduceSub, Int.reduceMul, Int.reduceLT, Int.reduceLE, Int.reduceEq, rX, dg_cells, dg_fold, List.drop_succ_cons, ↓rF, rG, ne_eq, not_true_eq_false, not_false_eq_true, Int.reduceNe, List.getElem?_cons_zero, List.getElem?_cons_succ, hca, ha, iaSA_sl, elA_dg, dg_cells, hd32, dg_fold, d105, Ne.symm d105, d1110, Ne.symm d1110, d115, Ne.symm d115, dig_put, zz, List.map_cons, List.map_nil, Int.toNat_zero]
      exact ⟨_, hsub3 _ _ _, _, [], rfl, MO.nil Hp.sub_refl, by simp⟩
    · rw [bothF_own]
      simp (dsimp := false) (implicitDefEqProofs := false) (maxSteps := 1000000) (disch := first | omega | assumption | (simp only [rL, Nat.reduceAdd]; done) | (simp only [rL, Nat.reduceAdd]; omega)) only [↓rD, rU, ev, ofConst, ofCell, ↓reduceIte, Nat.reduceEqDiff, Nat.reduceAdd, Nat.reduceSub, Nat.reduceMul, Nat.reduceLeDiff, Nat.reduceLT, Int.reduceNeg, Int.reduceToNat, Int.reduceAdd, Int.reduceSub, Int.reduceMul, Int.reduceLT, Int.reduceLE, Int.reduceEq, rX, dg_cells, dg_fold, List.drop_succ_cons, ↓rF, rG, ne_eq, not_true_eq_false, not_false_eq_true, Int.reduceNe, List.getElem?_cons_zero, List.getElem?_cons_succ, hca, ha, hfa, d105, Ne.symm d105, d1110, Ne.symm d1110, d115, Ne.symm d115, dig_put, zz]
      exact ⟨_, hsub3 _ _ _, _, [], rfl, MO.nil Hp.sub_refl, by simp⟩
  · have hc : ¬ (m : Int) = (n : Int) := by omega
    have hlt := half_lt n (by omega)
    have hpos := half_pos n
    simp (dsimp := false) (implicitDefEqProofs := false) (maxSteps := 1000000) (disch := first | omega | assumption | (simp only [rL, Nat.reduceAdd]; done) | (simp only [rL, Nat.reduceAdd]; omega)) only [↓rD, rU, ev, ofConst, ofCell, ↓reduceIte, Nat.reduceEqDiff, Nat.reduceAdd, Nat.reduceSub, Nat.reduceMul, Nat.reduceLeDiff, Nat.reduceLT, Int.reduceNeg, Int.reduceToNat, Int.reduceAdd, Int.reduceSub, Int.reduceMul, Int.reduceLT, Int.reduceLE, Int.reduceEq, rX, dg_cells, dg_fold, List.drop_succ_cons, ↓rF, rG, ne_eq, not_true_eq_false, not_false_eq_true, Int.reduceNe, List.getElem?_cons_zero, List.getElem?_cons_succ, hca, ha, hc]
    refine call_intro (rhalf_spec n (by omega) _) ?_
    intro r s' hr
    obtain ⟨rfl, rfl⟩ := hr
    obtain ⟨q, d, hqd⟩ : ∃ q d, ds = q ++ [d] := by
      rcases List.eq_nil_or_concat ds with rfl | ⟨q, d, hqd⟩
      · exfalso
        by_cases hk : m ≤ half n
        · rw [grownN_left h (by omega) hk] at hg; simp at hg; omega
        · rw [grownN_right h (by omega) hk] at hg; simp at hg; omega
      · exact ⟨q, d, by simpa using hqd⟩
    subst hqd
    have ht : takeF (q ++ [d]) false = (d, q, false) := by simp [takeF]
    have hd32 := hd d (by simp)
    have hq : Digs q := fun x hx => hd x (by simp [hx])
    have hlen : ((q ++ [d]).map dg).length = q.length + 1 := by simp
    have hcd := dg_cells (d := d)
    have hfd := dg_fold hd32
    have e1 : (((q.length + 1 : Nat) : Int) - 1) = (q.length : Int) := by omega
    have hat : ((q ++ [d]).map dg)[q.length]? = some (dg d) := by simp
    have htk : ((q ++ [d]).map dg).take q.length = q.map dg := by simp
    have hal := Digs.all hd
    have hql : q.length ≤ 400000 := by simp at hdl; omega
    simp (dsimp := false) (implicitDefEqProofs := false) (maxSteps := 1000000) (disch := first | omega | assumption | (simp only [rL, Nat.reduceAdd]; done) | (simp only [rL, Nat.reduceAdd]; omega)) only [↓rD, rU, ev, ofConst, ofCell, ↓reduceIte, Nat.reduceEqDiff, Nat.reduceAdd, Nat.reduceSub, Nat.reduceMul, Nat.reduceLeDiff, Nat.reduceLT, Int.reduceNeg, Int.reduceToNat, Int.reduceAdd, Int.reduceSub, Int.reduceMul, Int.reduceLT, Int.reduceLE, Int.reduceEq, rX, dg_cells, dg_fold, List.drop_succ_cons, ↓rF, rG, ne_eq, not_true_eq_false, not_false_eq_true, Int.reduceNe, List.getElem?_cons_zero, List.getElem?_cons_succ, hca, ha, hlen, e1, iaSA_sl, hat, elA_dg, hcd, hd32, hfd]
    refine newK_intro fun l14 n14 => ?_
    obtain ⟨d1411, e14⟩ := Hp.set_none n14
    obtain ⟨d1410, e14⟩ := Hp.set_none e14
    obtain ⟨d145, e14⟩ := Hp.set_none e14
    simp (dsimp := false) (implicitDefEqProofs := false) (maxSteps := 1000000) (disch := first | omega | assumption | (simp only [rL, Nat.reduceAdd]; done) | (simp only [rL, Nat.reduceAdd]; omega)) only [↓rD, rU, ev, ofConst, ofCell, ↓reduceIte, Nat.reduceEqDiff, Nat.reduceAdd, Nat.reduceSub, Nat.reduceMul, Nat.reduceLeDiff, Nat.reduceLT, Int.reduceNeg, Int.reduceToNat, Int.reduceAdd, Int.reduceSub, Int.reduceMul, Int.reduceLT, Int.reduceLE, Int.reduceEq, rX, dg_cells, dg_fold, List.drop_succ_cons, ↓rF, rG, ne_eq, not_true_eq_false, not_false_eq_true, Int.reduceNe, List.getElem?_cons_zero, List.getElem?_cons_succ, hca, ha, hlen, e1, hcd, hd32, zz, dig_put]
    rw [Hp.set_set]
    generalize hS1 : (((s.set l5 (.cells (a.map byteAV))).set l10 (.cells (List.replicate 32 (.v (.int .u8 0))))).set l11 (.cells (List.replicate 32 (.v (.int .u8 0))))).set l14 (.cells (d.map byteAV)) = S1
    have g5 : S1 l5 = some (.cells (a.map byteAV)) := by rw [← hS1, Hp.set_ne _ _ (Ne.symm d145), Hp.set_ne _ _ (Ne.symm d115), Hp.set_ne _ _ (Ne.symm d105)]; exact Hp.set_same _ _ _
    have g10 : S1 l10 = some (.cells (List.replicate 32 (.v (.int .u8 0)))) := by rw [← hS1, Hp.set_ne _ _ (Ne.symm d1410), Hp.set_ne _ _ (Ne.symm d1110)]; exact Hp.set_same _ _ _
    have g11 : S1 l11 = some (.cells (List.replicate 32 (.v (.int .u8 0)))) := by rw [← hS1, Hp.set_ne _ _ (Ne.symm d1411)]; exact Hp.set_same _ _ _
    have g14 : S1 l14 = some (.cells (d.map byteAV)) := by rw [← hS1]; exact Hp.set_same _ _ _
    have hsub : s.sub S1 := by rw [← hS1]; exact Hp.sub_new (hsub3 _ _ _) e14
    have fin : ∀ (S : Hp) (us : List AV) (t : AV) (x y : Ob), MO S1 S 1 us t → MO s ((S.set l10 x).set l11 y) 1 us t := by
      intro S us t x y hm
      refine (MO_other (MO_other hm g10) (o2 := .cells (List.replicate 32 (.v (.int .u8 0)))) ?_).base (Hp.sub_new (Hp.sub_new hsub e10) e11)
      rw [Hp.set_ne _ _ d1110]; exact g11
    clear hS1
    by_cases hk : m ≤ half n
    · have hk' : (m : Int) ≤ (half n : Int) := by omega
      rw [bothF_left h (by omega) ht hk]
      have hgq : q.length = grownN m (half n) own := by rw [grownN_left h (by omega) hk] at hg; simp at hg; omega
      simp (dsimp := false) (implicitDefEqProofs := false) (maxSteps := 1000000) (disch := first | omega | assumption | (simp only [rL, Nat.reduceAdd]; done) | (simp only [rL, Nat.reduceAdd]; omega)) only [↓rD, rU, ev, ofConst, ofCell, ↓reduceIte, Nat.reduceEqDiff, Nat.reduceAdd, Nat.reduceSub, Nat.reduceMul, Nat.reduceLeDiff, Nat.reduceLT, Int.reduceNeg, Int.reduceToNat, Int.reduceAdd, Int.reduceSub, Int.reduceMul, Int.reduceLT, Int.reduceLE, Int.reduceEq, rX, dg_cells, dg_fold, List.drop_succ_cons, ↓rF, rG, ne_eq, not_true_eq_false, not_false_eq_true, Int.reduceNe, List.getElem?_cons_zero, List.getElem?_cons_succ, hca, ha, hlen, e1, hcd, hd32, zz, hk', Hp.read_of g5, hfa, slcAA_hi, hal, htk, Int.toNat_natCast]
      refine call_intro (ih (half n) (by omega) a m (half n) own q .any S1 rfl h1 hk (by omega) ha hq hgq hql) ?_
      rintro _ S2 ⟨t1, us, rfl, m1, hu⟩
      obtain ⟨b1, b2, _⟩ := bothF_ok _ a m (half n) own q rfl h1 hk ha hq
      generalize bothF a m (half n) own q = u at *
      obtain ⟨ux, uy, ud, ut, ul⟩ := u
      simp only at b1 b2 ⊢
      have hcx := dg_cells (d := ux)
      have hcy := dg_cells (d := uy)
      have hfx := dg_fold b1
      have hfy := dg_fold b2
      simp (dsimp := false) (implicitDefEqProofs := false) (maxSteps := 1000000) (disch := first | omega | assumption | (simp only [rL, Nat.reduceAdd]; done) | (simp only [rL, Nat.reduceAdd]; omega)) only [↓rD, rU, ev, ofConst, ofCell, ↓reduceIte, Nat.reduceEqDiff, Nat.reduceAdd, Nat.reduceSub, Nat.reduceMul, Nat.reduceLeDiff, Nat.reduceLT, Int.reduceNeg, Int.reduceToNat, Int.reduceAdd, Int.reduceSub, Int.reduceMul, Int.reduceLT, Int.reduceLE, Int.reduceEq, rX, dg_cells, dg_fold, List.drop_succ_cons, ↓rF, rG, ne_eq, not_true_eq_false, not_false_eq_true, Int.reduceNe, List.getElem?_cons_zero, List.getElem?_cons_succ, hcx, hcy, b1, b2]
      refine newK_intro fun l15 n15 => ?_
      simp (dsimp := false) (implicitDefEqProofs := false) (maxSteps := 1000000) (disch := first | omega | assumption | (simp only [rL, Nat.reduceAdd]; done) | (simp only [rL, Nat.reduceAdd]; omega)) only [↓rD, rU, ev, ofConst, ofCell, ↓reduceIte, Nat.reduceEqDiff, Nat.reduceAdd, Nat.reduceSub, Nat.reduceMul, Nat.reduceLeDiff, Nat.reduceLT, Int.reduceNeg, Int.reduceToNat, Int.reduceAdd, Int.reduceSub, Int.reduceMul, Int.reduceLT, Int.reduceLE, Int.reduceEq, rX, dg_cells, dg_fold, List.drop_succ_cons, ↓rF, rG, ne_eq, not_true_eq_false, not_false_eq_true, Int.reduceNe, List.getElem?_cons_zero, List.getElem?_cons_succ, hcx, hcy, b1, b2]
      refine newK_intro fun l16 n16 => ?_
      obtain ⟨d1615, e16⟩ := Hp.set_none n16
      obtain ⟨S3, hS3⟩ : ∃ S, S = (S2.set l15 (.cells (ux.map byteAV))).set l16 (.cells (uy.map byteAV)) := ⟨_, rfl⟩
      have g15 : S3 l15 = some (.cells (ux.map byteAV)) := by rw [hS3, Hp.set_ne _ _ (Ne.symm d1615)]; exact Hp.set_same _ _ _
      have h23 : S2.sub S3 := by rw [hS3]; exact Hp.sub_new (Hp.sub_new Hp.sub_refl n15) e16
      have g14' := m1.1 _ _ g14
      have m3 : MO ((S1.set l15 (.cells (ux.map byteAV))).set l16 (.cells (uy.map byteAV))) S3 1 us t1 := by
        rw [hS3]
        exact (m1.new n15).new (by rw [Hp.set_ne _ _ d1615]; exact e16)
      have hb3 : S1.sub ((S1.set l15 (.cells (ux.map byteAV))).set l16 (.cells (uy.map byteAV))) := Hp.sub_new (Hp.sub_new Hp.sub_refl (Hp.sub_none m1.1 n15)) (Hp.sub_none m1.1 e16)
      have k15 : ((S1.set l15 (.cells (ux.map byteAV))).set l16 (.cells (uy.map byteAV))) l15 = some (.cells (ux.map byteAV)) := by rw [Hp.set_ne _ _ (Ne.symm d1615)]; exact Hp.set_same _ _ _
      have d1415 : l14 ≠ l15 := by rintro rfl; rw [n15] at g14'; cases g14'
      have d1416 : l14 ≠ l16 := by rintro rfl; rw [e16] at g14'; cases g14'
      simp (dsimp := false) (implicitDefEqProofs := false) (maxSteps := 1000000) (disch := first | omega | assumption | (simp only [rL, Nat.reduceAdd]; done) | (simp only [rL, Nat.reduceAdd]; omega)) only [↓rD, rU, ev, ofConst, ofCell, ↓reduceIte, Nat.reduceEqDiff, Nat.reduceAdd, Nat.reduceSub, Nat.reduceMul, Nat.reduceLeDiff, Nat.reduceLT, Int.reduceNeg, Int.reduceToNat, Int.reduceAdd, Int.reduceSub, Int.reduceMul, Int.reduceLT, Int.reduceLE, Int.reduceEq, rX, dg_cells, dg_fold, List.drop_succ_cons, ↓rF, rG, ne_eq, not_true_eq_false, not_false_eq_true, Int.reduceNe, List.getElem?_cons_zero, List.getElem?_cons_succ, hcx, hcy, b1, b2, zz, dig_put, d1615, Ne.symm d1615, Hp.read_of g14', d1415, d1416, hfy, hfd, hd32]
      rw [← hS3]
      refine call_intro (rnode_spec uy d b2 hd32 S3) ?_
      rintro x18 S4 m4
      have m3' := m3.mono m4.1
      have g15' := m4.1 _ _ g15
      have hnl := nodeB_length uy d b2 hd32
      obtain ⟨nn, z1, z2, z3⟩ := m4.src
      simp only [List.length_map, Nat.mul_one] at z1
      subst z1
      have hx18 := MO_one_cell m4
      have hdef : bslMK 1 Hp.emp [x18] (hid2 (fun _ _ => True) ()) := bslM_intro (by simp [allLen, hx18]) (by simp) fun _ _ => trivial
      simp (dsimp := false) (implicitDefEqProofs := false) (maxSteps := 1000000) (disch := first | omega | assumption | (simp only [rL, Nat.reduceAdd]; done) | (simp only [rL, Nat.reduceAdd]; omega)) only [↓rD, rU, ev, ofConst, ofCell, ↓reduceIte, Nat.reduceEqDiff, Nat.reduceAdd, Nat.reduceSub, Nat.reduceMul, Nat.reduceLeDiff, Nat.reduceLT, Int.reduceNeg, Int.reduceToNat, Int.reduceAdd, Int.reduceSub, Int.reduceMul, Int.reduceLT, Int.reduceLE, Int.reduceEq, rX, dg_cells, dg_fold, List.drop_succ_cons, ↓rF, rG, ne_eq, not_true_eq_false, not_false_eq_true, Int.reduceNe, List.getElem?_cons_zero, List.getElem?_cons_succ, hcx, b1, Hp.read_of g15', hfx, hdef, andK_true]
      refine call_intro (rsum_spec (nodeB uy d) (by omega) x18 S4 z2 z3) ?_
      intro r s' hr
      obtain ⟨rfl, rfl⟩ := hr
      simp (dsimp := false) (implicitDefEqProofs := false) (maxSteps := 1000000) (disch := first | omega | assumption | (simp only [rL, Nat.reduceAdd]; done) | (simp only [rL, Nat.reduceAdd]; omega)) only [↓rD, rU, ev, ofConst, ofCell, ↓reduceIte, Nat.reduceEqDiff, Nat.reduceAdd, Nat.reduceSub, Nat.reduceMul, Nat.reduceLeDiff, Nat.reduceLT, Int.reduceNeg, Int.reduceToNat, Int.reduceAdd, Int.reduceSub, Int.reduceMul, Int.reduceLT, Int.reduceLE, Int.reduceEq, rX, dg_cells, dg_fold, List.drop_succ_cons, ↓rF, rG, ne_eq, not_true_eq_false, not_false_eq_true, Int.reduceNe, List.getElem?_cons_zero, List.getElem?_cons_succ, hcx, b1, Hp.read_of g15', hfx, hdef, andK_true]
      refine bslM_intro (by simp [allLen, hx18]) (by simp) fun gb ngb => ?_
      have hfl : flat [x18] = [x18] := by simp [flat, hx18]
      rw [hfl]
      simp (dsimp := false) (implicitDefEqProofs := false) (maxSteps := 1000000) (disch := first | omega | assumption | (simp only [rL, Nat.reduceAdd]; done) | (simp only [rL, Nat.reduceAdd]; omega)) only [↓rD, rU, ev, ofConst, ofCell, ↓reduceIte, Nat.reduceEqDiff, Nat.reduceAdd, Nat.reduceSub, Nat.reduceMul, Nat.reduceLeDiff, Nat.reduceLT, Int.reduceNeg, Int.reduceToNat, Int.reduceAdd, Int.reduceSub, Int.reduceMul, Int.reduceLT, Int.reduceLE, Int.reduceEq, rX, dg_cells, dg_fold, List.drop_succ_cons, ↓rF, rG, ne_eq, not_true_eq_false, not_false_eq_true, Int.reduceNe, List.getElem?_cons_zero, List.getElem?_cons_succ, hcx, b1, hfx]
      have m3b := m3'.mono (Hp.sub_new Hp.sub_refl ngb (o := .cells [x18]))
      have g15b := Hp.sub_new Hp.sub_refl ngb (o := .cells [x18]) _ _ g15'
      refine appM_own m3b (by omega) (srcF_cells rfl) rfl (by simp; omega) (by simp; omega) fun t2 S6 m6 => ?_
      have k6 := m6.1 _ _ k15
      replace m6 := m6.base hb3
      have h10 := m6.1 _ _ g10
      have h11 := m6.1 _ _ g11
      have hsy := sha256_length (nodeB uy d)
      have hcs := dg_cells (d := sha256 (nodeB uy d))
      have hfs := dg_fold hsy
      simp (dsimp := false) (implicitDefEqProofs := false) (maxSteps := 1000000) (disch := first | omega | assumption | (simp only [rL, Nat.reduceAdd]; done) | (simp only [rL, Nat.reduceAdd]; omega)) only [↓rD, rU, ev, ofConst, ofCell, ↓reduceIte, Nat.reduceEqDiff, Nat.reduceAdd, Nat.reduceSub, Nat.reduceMul, Nat.reduceLeDiff, Nat.reduceLT, Int.reduceNeg, Int.reduceToNat, Int.reduceAdd, Int.reduceSub, Int.reduceMul, Int.reduceLT, Int.reduceLE, Int.reduceEq, rX, dg_cells, dg_fold, List.drop_succ_cons, ↓rF, rG, ne_eq, not_true_eq_false, not_false_eq_true, Int.reduceNe, List.getElem?_cons_zero, List.getElem?_cons_succ, hcx, b1, hfx, hcs, hsy, Hp.read_of k6, Hp.read_of h10, Hp.read_of h11, Hp.stA_of h10, Hp.stA_of h11, d1110, Ne.symm d1110, zz, dig_put]
      exact ⟨_, Hp.sub_refl, t2, _, rfl, fin _ _ _ _ _ m6, by simp; omega⟩
    · have hk' : ¬ (m : Int) ≤ (half n : Int) := by omega
      rw [bothF_right h (by omega) ht hk]
      have hgq : q.length = grownN (m - half n) (n - half n) false := by rw [grownN_right h (by omega) hk] at hg; simp at hg; omega
      have e2 : (m : Int) - (half n : Int) = ((m - half n : Nat) : Int) := by omega
      have e3 : (n : Int) - (half n : Int) = ((n - half n : Nat) : Int) := by omega
      simp (dsimp := false) (implicitDefEqProofs := false) (maxSteps := 1000000) (disch := first | omega | assumption | (simp only [rL, Nat.reduceAdd]; done) | (simp only [rL, Nat.reduceAdd]; omega)) only [↓rD, rU, ev, ofConst, ofCell, ↓reduceIte, Nat.reduceEqDiff, Nat.reduceAdd, Nat.reduceSub, Nat.reduceMul, Nat.reduceLeDiff, Nat.reduceLT, Int.reduceNeg, Int.reduceToNat, Int.reduceAdd, Int.reduceSub, Int.reduceMul, Int.reduceLT, Int.reduceLE, Int.reduceEq, rX, dg_cells, dg_fold, List.drop_succ_cons, ↓rF, rG, ne_eq, not_true_eq_false, not_false_eq_true, Int.reduceNe, List.getElem?_cons_zero, List.getElem?_cons_succ, hca, ha, hlen, e1, e2, e3, hcd, hd32, zz, hk', Hp.read_of g5, hfa, slcAA_hi, hal, htk, Int.toNat_natCast]
      refine call_intro (ih (n - half n) (by omega) a (m - half n) (n - half n) false q .any S1 rfl (by omega) (by omega) (by omega) ha hq hgq hql) ?_
      rintro _ S2 ⟨t1, us, rfl, m1, hu⟩
      obtain ⟨b1, b2, _⟩ := bothF_ok _ a (m - half n) (n - half n) false q rfl (by omega) (by omega) ha hq
      generalize bothF a (m - half n) (n - half n) false q = u at *
      obtain ⟨ux, uy, ud, ut, ul⟩ := u
      simp only at b1 b2 ⊢
      have hcx := dg_cells (d := ux)
      have hcy := dg_cells (d := uy)
      have hfx := dg_fold b1
      have hfy := dg_fold b2
      simp (dsimp := false) (implicitDefEqProofs := false) (maxSteps := 1000000) (disch := first | omega | assumption | (simp only [rL, Nat.reduceAdd]; done) | (simp only [rL, Nat.reduceAdd]; omega)) only [↓rD, rU, ev, ofConst, ofCell, ↓reduceIte, Nat.reduceEqDiff, Nat.reduceAdd, Nat.reduceSub, Nat.reduceMul, Nat.reduceLeDiff, Nat.reduceLT, Int.reduceNeg, Int.reduceToNat, Int.reduceAdd, Int.reduceSub, Int.reduceMul, Int.reduceLT, Int.reduceLE, Int.reduceEq, rX, dg_cells, dg_fold, List.drop_succ_cons, ↓rF, rG, ne_eq, not_true_eq_false, not_false_eq_true, Int.reduceNe, List.getElem?_cons_zero, List.getElem?_cons_succ, hcx, hcy, b1, b2]
      refine newK_intro fun l15 n15 => ?_
      simp (dsimp := false) (implicitDefEqProofs := false) (maxSteps := 1000000) (disch := first | omega | assumption | (simp only [rL, Nat.reduceAdd]; done) | (simp only [rL, Nat.reduceAdd]; omega)) only [↓rD, rU, ev, ofConst, ofCell, ↓reduceIte, Nat.reduceEqDiff, Nat.reduceAdd, Nat.reduceSub, Nat.reduceMul, Nat.reduceLeDiff, Nat.reduceLT, Int.reduceNeg, Int.reduceToNat, Int.reduceAdd, Int.reduceSub, Int.reduceMul, Int.reduceLT, Int.reduceLE, Int.reduceEq, rX, dg_cells, dg_fold, List.drop_succ_cons, ↓rF, rG, ne_eq, not_true_eq_false, not_false_eq_true, Int.reduceNe, List.getElem?_cons_zero, List.getElem?_cons_succ, hcx, hcy, b1, b2]
      refine newK_intro fun l16 n16 => ?_
      obtain ⟨d1615, e16⟩ := Hp.set_none n16
      obtain ⟨S3, hS3⟩ : ∃ S, S = (S2.set l15 (.cells (ux.map byteAV))).set l16 (.cells (uy.map byteAV)) := ⟨_, rfl⟩
      have h23 : S2.sub S3 := by rw [hS3]; exact Hp.sub_new (Hp.sub_new Hp.sub_refl n15) e16
      have g14' := m1.1 _ _ g14
      have m3 : MO ((S1.set l15 (.cells (ux.map byteAV))).set l16 (.cells (uy.map byteAV))) S3 1 us t1 := by
        rw [hS3]
        exact (m1.new n15).new (by rw [Hp.set_ne _ _ d1615]; exact e16)
      have hb3 : S1.sub ((S1.set l15 (.cells (ux.map byteAV))).set l16 (.cells (uy.map byteAV))) := Hp.sub_new (Hp.sub_new Hp.sub_refl (Hp.sub_none m1.1 n15)) (Hp.sub_none m1.1 e16)
      have k15 : ((S1.set l15 (.cells (ux.map byteAV))).set l16 (.cells (uy.map byteAV))) l15 = some (.cells (ux.map byteAV)) := by rw [Hp.set_ne _ _ (Ne.symm d1615)]; exact Hp.set_same _ _ _
      have k16 : ((S1.set l15 (.cells (ux.map byteAV))).set l16 (.cells (uy.map byteAV))) l16 = some (.cells (uy.map byteAV)) := Hp.set_same _ _ _
      have g15 := m3.1 _ _ k15
      have g16 := m3.1 _ _ k16
      have g14s := h23 _ _ g14'
      have d1415 : l14 ≠ l15 := by rintro rfl; rw [n15] at g14'; cases g14'
      have d1416 : l14 ≠ l16 := by rintro rfl; rw [e16] at g14'; cases g14'
      simp (dsimp := false) (implicitDefEqProofs := false) (maxSteps := 1000000) (disch := first | omega | assumption | (simp only [rL, Nat.reduceAdd]; done) | (simp only [rL, Nat.reduceAdd]; omega)) only [↓rD, rU, ev, ofConst, ofCell, ↓reduceIte, Nat.reduceEqDiff, Nat.reduceAdd, Nat.reduceSub, Nat.reduceMul, Nat.reduceLeDiff, Nat.reduceLT, Int.reduceNeg, Int.reduceToNat, Int.reduceAdd, Int.reduceSub, Int.reduceMul, Int.reduceLT, Int.reduceLE, Int.reduceEq, rX, dg_cells, dg_fold, List.drop_succ_cons, ↓rF, rG, ne_eq, not_true_eq_false, not_false_eq_true, Int.reduceNe, List.getElem?_cons_zero, List.getElem?_cons_succ, hcx, hcy, b1, b2, zz, dig_put, d1615, Ne.symm d1615, Hp.read_of g14', d1415, d1416, hfx, hfy, hfd, hd32]
      rw [← hS3]
      refine call_intro (rnode_spec d ux hd32 b1 S3) ?_
      rintro x22 S4 m4
      have m3' := m3.mono m4.1
      simp (dsimp := false) (implicitDefEqProofs := false) (maxSteps := 1000000) (disch := first | omega | assumption | (simp only [rL, Nat.reduceAdd]; done) | (simp only [rL, Nat.reduceAdd]; omega)) only [↓rD, rU, ev, ofConst, ofCell, ↓reduceIte, Nat.reduceEqDiff, Nat.reduceAdd, Nat.reduceSub, Nat.reduceMul, Nat.reduceLeDiff, Nat.reduceLT, Int.reduceNeg, Int.reduceToNat, Int.reduceAdd, Int.reduceSub, Int.reduceMul, Int.reduceLT, Int.reduceLE, Int.reduceEq, rX, dg_cells, dg_fold, List.drop_succ_cons, ↓rF, rG, ne_eq, not_true_eq_false, not_false_eq_true, Int.reduceNe, List.getElem?_cons_zero, List.getElem?_cons_succ, hcx, hcy, b1, b2, Hp.read_of (m4.1 _ _ g14s), Hp.read_of (m4.1 _ _ g16), Hp.read_of (m4.1 _ _ g15), hfx, hfy, hfd, hd32]
      refine call_intro (rnode_spec d uy hd32 b2 S4) ?_
      rintro x23 S5 m5
      have hn1 := nodeB_length d ux hd32 b1
      have hn2 := nodeB_length d uy hd32 b2
      obtain ⟨nn, z1, z2, z3⟩ := (m4.mono m5.1).src
      simp only [List.length_map, Nat.mul_one] at z1
      subst z1
      obtain ⟨nn, y1, y2, y3⟩ := m5.src
      simp only [List.length_map, Nat.mul_one] at y1
      subst y1
      simp (dsimp := false) (implicitDefEqProofs := false) (maxSteps := 1000000) (disch := first | omega | assumption | (simp only [rL, Nat.reduceAdd]; done) | (simp only [rL, Nat.reduceAdd]; omega)) only [↓rD, rU, ev, ofConst, ofCell, ↓reduceIte, Nat.reduceEqDiff, Nat.reduceAdd, Nat.reduceSub, Nat.reduceMul, Nat.reduceLeDiff, Nat.reduceLT, Int.reduceNeg, Int.reduceToNat, Int.reduceAdd, Int.reduceSub, Int.reduceMul, Int.reduceLT, Int.reduceLE, Int.reduceEq, rX, dg_cells, dg_fold, List.drop_succ_cons, ↓rF, rG, ne_eq, not_true_eq_false, not_false_eq_true, Int.reduceNe, List.getElem?_cons_zero, List.getElem?_cons_succ]
      refine call_intro (rsum_spec (nodeB d ux) (by omega) x22 S5 z2 z3) ?_
      intro r s' hr
      obtain ⟨rfl, rfl⟩ := hr
      simp (dsimp := false) (implicitDefEqProofs := false) (maxSteps := 1000000) (disch := first | omega | assumption | (simp only [rL, Nat.reduceAdd]; done) | (simp only [rL, Nat.reduceAdd]; omega)) only [↓rD, rU, ev, ofConst, ofCell, ↓reduceIte, Nat.reduceEqDiff, Nat.reduceAdd, Nat.reduceSub, Nat.reduceMul, Nat.reduceLeDiff, Nat.reduceLT, Int.reduceNeg, Int.reduceToNat, Int.reduceAdd, Int.reduceSub, Int.reduceMul, Int.reduceLT, Int.reduceLE, Int.reduceEq, rX, dg_cells, dg_fold, List.drop_succ_cons, ↓rF, rG, ne_eq, not_true_eq_false, not_false_eq_true, Int.reduceNe, List.getElem?_cons_zero, List.getElem?_cons_succ]
      refine call_intro (rsum_spec (nodeB d uy) (by omega) x23 _ y2 y3) ?_
      intro r s' hr
      obtain ⟨rfl, rfl⟩ := hr
      simp (dsimp := false) (implicitDefEqProofs := false) (maxSteps := 1000000) (disch := first | omega | assumption | (simp only [rL, Nat.reduceAdd]; done) | (simp only [rL, Nat.reduceAdd]; omega)) only [↓rD, rU, ev, ofConst, ofCell, ↓reduceIte, Nat.reduceEqDiff, Nat.reduceAdd, Nat.reduceSub, Nat.reduceMul, Nat.reduceLeDiff, Nat.reduceLT, Int.reduceNeg, Int.reduceToNat, Int.reduceAdd, Int.reduceSub, Int.reduceMul, Int.reduceLT, Int.reduceLE, Int.reduceEq, rX, dg_cells, dg_fold, List.drop_succ_cons, ↓rF, rG, ne_eq, not_true_eq_false, not_false_eq_true, Int.reduceNe, List.getElem?_cons_zero, List.getElem?_cons_succ]
      have hx1 := MO_one_cell m4
      have hx2 := MO_one_cell m5
      refine bslM_intro (by simp [allLen, hx1, hx2]) (by simp) fun gb ngb => ?_
      have hfl : flat [x22, x23] = [x22, x23] := by simp [flat, hx1, hx2]
      rw [hfl]
      simp (dsimp := false) (implicitDefEqProofs := false) (maxSteps := 1000000) (disch := first | omega | assumption | (simp only [rL, Nat.reduceAdd]; done) | (simp only [rL, Nat.reduceAdd]; omega)) only [↓rD, rU, ev, ofConst, ofCell, ↓reduceIte, Nat.reduceEqDiff, Nat.reduceAdd, Nat.reduceSub, Nat.reduceMul, Nat.reduceLeDiff, Nat.reduceLT, Int.reduceNeg, Int.reduceToNat, Int.reduceAdd, Int.reduceSub, Int.reduceMul, Int.reduceLT, Int.reduceLE, Int.reduceEq, rX, dg_cells, dg_fold, List.drop_succ_cons, ↓rF, rG, ne_eq, not_true_eq_false, not_false_eq_true, Int.reduceNe, List.getElem?_cons_zero, List.getElem?_cons_succ]
      have m3b := (m3'.mono m5.1).mono (Hp.sub_new Hp.sub_refl ngb (o := .cells [x22, x23]))
      refine appM_own m3b (by omega) (srcF_cells rfl) rfl (by simp; omega) (by simp; omega) fun t2 S6 m6 => ?_
      replace m6 := m6.base hb3
      have h10 := m6.1 _ _ g10
      have h11 := m6.1 _ _ g11
      have hs1 := sha256_length (nodeB d ux)
      have hs2 := sha256_length (nodeB d uy)
      have hc1 := dg_cells (d := sha256 (nodeB d ux))
      have hc2 := dg_cells (d := sha256 (nodeB d uy))
      have hf1 := dg_fold hs1
      have hf2 := dg_fold hs2
      simp (dsimp := false) (implicitDefEqProofs := false) (maxSteps := 1000000) (disch := first | omega | assumption | (simp only [rL, Nat.reduceAdd]; done) | (simp only [rL, Nat.reduceAdd]; omega)) only [↓rD, rU, ev, ofConst, ofCell, ↓reduceIte, Nat.reduceEqDiff, Nat.reduceAdd, Nat.reduceSub, Nat.reduceMul, Nat.reduceLeDiff, Nat.reduceLT, Int.reduceNeg, Int.reduceToNat, Int.reduceAdd, Int.reduceSub, Int.reduceMul, Int.reduceLT, Int.reduceLE, Int.reduceEq, rX, dg_cells, dg_fold, List.drop_succ_cons, ↓rF, rG, ne_eq, not_true_eq_false, not_false_eq_true, Int.reduceNe, List.getElem?_cons_zero, List.getElem?_cons_succ, hc1, hc2, hs1, hs2, hf1, hf2, Hp.read_of h10, Hp.read_of h11, Hp.stA_of h10, Hp.stA_of h11, d1110, Ne.symm d1110, zz, dig_put]
      exact ⟨_, Hp.sub_refl, t2, _, rfl, fin _ _ _ _ _ m6, by simp; omega⟩
end Go.Proofs.Ytapjikladjoicaa
/-
  ref18.Grows.
-/
set_option maxRecDepth 100000
set_option maxHeartbeats 1000000
namespace Go.Proofs.Ytapjikladjoicaa
open Go Go.Av

theorem growsF_grown {a b : List UInt8} {m n : Nat} {ds : List (List UInt8)} (h1 : 1 ≤ m) (hmn : m ≤ n) (hn : n ≤ 1099511627776) :
    growsF a m b n ds = (decide (ds.length = grownN m n true) && decide ((bothF a m n true ds).x = a) && decide ((bothF a m n true ds).y = b)) := by
  rw [growsF, if_neg (by omega), if_neg (by omega), Int.toNat_natCast, Int.toNat_natCast]
  obtain ⟨g1, g2⟩ := both_grown _ a m n true ds rfl h1 hmn
  by_cases hlt : ds.length < grownN m n true
  · have e : ¬ ds.length = grownN m n true := by omega
    rw [g1 hlt]; simp [e]
  · obtain ⟨l1, l2⟩ := g2 (by omega)
    by_cases he : ds.length = grownN m n true
    · have : (bothF a m n true ds).ds.length = 0 := by omega
      rw [l1, this]; simp [he]
    · have : ¬ (bothF a m n true ds).ds.length = 0 := by omega
      rw [l1]; simp only [this]; simp [he]

theorem rgrows_spec (a : List UInt8) (m : Int) (b : List UInt8) (n : Int) (ds : List (List UInt8)) (o : Own) (s : Hp) (ha : a.length = 32) (hb : b.length = 32) (hd : Digs ds) (hl : ds.length ≤ 400000) :
    AC Try.prog 38 [dg a, .v (.int .i64 m), dg b, .v (.int .i64 n), .sl (ds.map dg) o] s fun r s' => s' = s ∧ r = .v (.bool (growsF a m b n ds)) := by
  refine AC_run hm prep38 (by simp) ?_
  have hca := dg_cells (d := a)
  have hcb := dg_cells (d := b)
  have hfa := dg_fold ha
  have hfb := dg_fold hb
  have zz := z32_len
  simp (dsimp := false) (implicitDefEqProofs := false) (maxSteps := 1000000) (disch := first | omega | assumption | (simp only [rL, Nat.reduceAdd]; done) | (simp only [rL, Nat.reduceAdd]; omega)) only [↓rD, rU, ev, ofConst, ofCell, ↓reduceIte, Nat.reduceEqDiff, Nat.reduceAdd, Nat.reduceSub, Nat.reduceMul, Nat.reduceLeDiff, Nat.reduceLT, Int.reduceNeg, Int.reduceToNat, Int.reduceAdd, Int.reduceSub, Int.reduceMul, Int.reduceLT, Int.reduceLE, Int.reduceEq, rX, dg_cells, dg_fold, List.drop_succ_cons, ↓rF, rG, ne_eq, not_true_eq_false, not_false_eq_true, Int.reduceNe, List.getElem?_cons_zero, List.getElem?_cons_succ, hca, ha]
  refine newK_intro fun l5 n5 => ?_
  simp (dsimp := false) (implicitDefEqProofs := false) (maxSteps := 1000000) (disch := first | omega | assumption | (simp only [rL, Nat.reduceAdd]; done) | (simp only [rL, Nat.reduceAdd]; omega)) only [↓rD, rU, ev, ofConst, ofCell, ↓reduceIte, Nat.reduceEqDiff, Nat.reduceAdd, Nat.reduceSub, Nat.reduceMul, Nat.reduceLeDiff, Nat.reduceLT, Int.reduceNeg, Int.reduceToNat, Int.reduceAdd, Int.reduceSub, Int.reduceMul, Int.reduceLT, Int.reduceLE, Int.reduceEq, rX, dg_cells, dg_fold, List.drop_succ_cons, ↓rF, rG, ne_eq, not_true_eq_false, not_false_eq_true, Int.reduceNe, List.getElem?_cons_zero, List.getElem?_cons_succ, hcb, hb]
  refine newK_intro fun l7 n7 => ?_
  obtain ⟨d75, e7⟩ := Hp.set_none n7
  have fin : s.sub ((s.set l5 (.cells (a.map byteAV))).set l7 (.cells (b.map byteAV))) := Hp.sub_new (Hp.sub_new Hp.sub_refl n5) e7
  by_cases c1 : m < 0
  · have hp : growsF a m b n ds = false := by simp [growsF, c1]
    simp (dsimp := false) (implicitDefEqProofs := false) (maxSteps := 1000000) (disch := first | omega | assumption | (simp only [rL, Nat.reduceAdd]; done) | (simp only [rL, Nat.reduceAdd]; omega)) only [↓rD, rU, ev, ofConst, ofCell, ↓reduceIte, Nat.reduceEqDiff, Nat.reduceAdd, Nat.reduceSub, Nat.reduceMul, Nat.reduceLeDiff, Nat.reduceLT, Int.reduceNeg, Int.reduceToNat, Int.reduceAdd, Int.reduceSub, Int.reduceMul, Int.reduceLT, Int.reduceLE, Int.reduceEq, rX, dg_cells, dg_fold, List.drop_succ_cons, ↓rF, rG, ne_eq, not_true_eq_false, not_false_eq_true, Int.reduceNe, List.getElem?_cons_zero, List.getElem?_cons_succ, c1]
    exact ⟨s, fin, rfl, by rw [hp]⟩
  · by_cases c2 : n < m
    · have hp : growsF a m b n ds = false := by simp [growsF, c2]
      simp (dsimp := false) (implicitDefEqProofs := false) (maxSteps := 1000000) (disch := first | omega | assumption | (simp only [rL, Nat.reduceAdd]; done) | (simp only [rL, Nat.reduceAdd]; omega)) only [↓rD, rU, ev, ofConst, ofCell, ↓reduceIte, Nat.reduceEqDiff, Nat.reduceAdd, Nat.reduceSub, Nat.reduceMul, Nat.reduceLeDiff, Nat.reduceLT, Int.reduceNeg, Int.reduceToNat, Int.reduceAdd, Int.reduceSub, Int.reduceMul, Int.reduceLT, Int.reduceLE, Int.reduceEq, rX, dg_cells, dg_fold, List.drop_succ_cons, ↓rF, rG, ne_eq, not_true_eq_false, not_false_eq_true, Int.reduceNe, List.getElem?_cons_zero, List.getElem?_cons_succ, c1, c2]
      exact ⟨s, fin, rfl, by rw [hp]⟩
    · by_cases c3 : 1099511627776 < n
      · have hp : growsF a m b n ds = false := by simp [growsF, c3]
        simp (dsimp := false) (implicitDefEqProofs := false) (maxSteps := 1000000) (disch := first | omega | assumption | (simp only [rL, Nat.reduceAdd]; done) | (simp only [rL, Nat.reduceAdd]; omega)) only [↓rD, rU, ev, ofConst, ofCell, ↓reduceIte, Nat.reduceEqDiff, Nat.reduceAdd, Nat.reduceSub, Nat.reduceMul, Nat.reduceLeDiff, Nat.reduceLT, Int.reduceNeg, Int.reduceToNat, Int.reduceAdd, Int.reduceSub, Int.reduceMul, Int.reduceLT, Int.reduceLE, Int.reduceEq, rX, dg_cells, dg_fold, List.drop_succ_cons, ↓rF, rG, ne_eq, not_true_eq_false, not_false_eq_true, Int.reduceNe, List.getElem?_cons_zero, List.getElem?_cons_succ, c1, c2, c3]
        exact ⟨s, fin, rfl, by rw [hp]⟩
      · by_cases c4 : m = 0
        · have hp : growsF a m b n ds = (decide (a = sha256 (preB 72 [])) && decide (ds.length = 0)) := by
            rw [growsF, if_neg (by omega), if_pos c4]
          rw [hp]
          subst c4
          simp (dsimp := false) (implicitDefEqProofs := false) (maxSteps := 1000000) (disch := first | omega | assumption | (simp only [rL, Nat.reduceAdd]; done) | (simp only [rL, Nat.reduceAdd]; omega)) only [↓rD, rU, ev, ofConst, ofCell, ↓reduceIte, Nat.reduceEqDiff, Nat.reduceAdd, Nat.reduceSub, Nat.reduceMul, Nat.reduceLeDiff, Nat.reduceLT, Int.reduceNeg, Int.reduceToNat, Int.reduceAdd, Int.reduceSub, Int.reduceMul, Int.reduceLT, Int.reduceLE, Int.reduceEq, rX, dg_cells, dg_fold, List.drop_succ_cons, ↓rF, rG, ne_eq, not_true_eq_false, not_false_eq_true, Int.reduceNe, List.getElem?_cons_zero, List.getElem?_cons_succ, c1, c2, c3, Ne.symm d75, d75, ha, hfa]
          refine call_intro (rroot_nil .nil _) ?_
          rintro _ _ ⟨rfl, rfl⟩
          have hq := sha256_length (preB 72 [])
          generalize sha256 (preB 72 []) = d at *
          simp (dsimp := false) (implicitDefEqProofs := false) (maxSteps := 1000000) (disch := first | omega | assumption | (simp only [rL, Nat.reduceAdd]; done) | (simp only [rL, Nat.reduceAdd]; omega)) only [↓rD, rU, ev, ofConst, ofCell, ↓reduceIte, Nat.reduceEqDiff, Nat.reduceAdd, Nat.reduceSub, Nat.reduceMul, Nat.reduceLeDiff, Nat.reduceLT, Int.reduceNeg, Int.reduceToNat, Int.reduceAdd, Int.reduceSub, Int.reduceMul, Int.reduceLT, Int.reduceLE, Int.reduceEq, rX, dg_cells, dg_fold, List.drop_succ_cons, ↓rF, rG, ne_eq, not_true_eq_false, not_false_eq_true, Int.reduceNe, List.getElem?_cons_zero, List.getElem?_cons_succ, Ne.symm d75, d75, ha, hfa, eqvK_dg, hq]
          cases hda : decide (a = d)
          · simp (dsimp := false) (implicitDefEqProofs := false) (maxSteps := 1000000) (disch := first | omega | assumption | (simp only [rL, Nat.reduceAdd]; done) | (simp only [rL, Nat.reduceAdd]; omega)) only [↓rD, rU, ev, ofConst, ofCell, ↓reduceIte, Nat.reduceEqDiff, Nat.reduceAdd, Nat.reduceSub, Nat.reduceMul, Nat.reduceLeDiff, Nat.reduceLT, Int.reduceNeg, Int.reduceToNat, Int.reduceAdd, Int.reduceSub, Int.reduceMul, Int.reduceLT, Int.reduceLE, Int.reduceEq, rX, dg_cells, dg_fold, List.drop_succ_cons, ↓rF, rG, ne_eq, not_true_eq_false, not_false_eq_true, Int.reduceNe, List.getElem?_cons_zero, List.getElem?_cons_succ]
            exact ⟨s, fin, rfl⟩
          · simp (dsimp := false) (implicitDefEqProofs := false) (maxSteps := 1000000) (disch := first | omega | assumption | (simp only [rL, Nat.reduceAdd]; done) | (simp only [rL, Nat.reduceAdd]; omega)) only [↓rD, rU, ev, ofConst, ofCell, ↓reduceIte, Nat.reduceEqDiff, Nat.reduceAdd, Nat.reduceSub, Nat.reduceMul, Nat.reduceLeDiff, Nat.reduceLT, Int.reduceNeg, Int.reduceToNat, Int.reduceAdd, Int.reduceSub, Int.reduceMul, Int.reduceLT, Int.reduceLE, Int.reduceEq, rX, dg_cells, dg_fold, List.drop_succ_cons, ↓rF, rG, ne_eq, not_true_eq_false, not_false_eq_true, Int.reduceNe, List.getElem?_cons_zero, List.getElem?_cons_succ]
            refine ⟨s, fin, rfl, ?_⟩
            simp
        · obtain ⟨m, rfl⟩ : ∃ k : Nat, m = k := ⟨m.toNat, by omega⟩
          obtain ⟨n, rfl⟩ : ∃ k : Nat, n = k := ⟨n.toNat, by omega⟩
          rw [growsF_grown (by omega) (by omega) (by omega)]
          have hgl := grownN_le _ m n true rfl (by omega) (by omega)
          simp (dsimp := false) (implicitDefEqProofs := false) (maxSteps := 1000000) (disch := first | omega | assumption | (simp only [rL, Nat.reduceAdd]; done) | (simp only [rL, Nat.reduceAdd]; omega)) only [↓rD, rU, ev, ofConst, ofCell, ↓reduceIte, Nat.reduceEqDiff, Nat.reduceAdd, Nat.reduceSub, Nat.reduceMul, Nat.reduceLeDiff, Nat.reduceLT, Int.reduceNeg, Int.reduceToNat, Int.reduceAdd, Int.reduceSub, Int.reduceMul, Int.reduceLT, Int.reduceLE, Int.reduceEq, rX, dg_cells, dg_fold, List.drop_succ_cons, ↓rF, rG, ne_eq, not_true_eq_false, not_false_eq_true, Int.reduceNe, List.getElem?_cons_zero, List.getElem?_cons_succ, c1, c2, c3, c4]
          refine call_intro (rgrown_spec _ m n true _ rfl (by omega) (by omega) (by omega)) ?_
          rintro _ _ ⟨rfl, rfl⟩
          by_cases c5 : ds.length = grownN m n true
          · have c5' : (ds.length : Int) = (grownN m n true : Int) := by omega
            simp (dsimp := false) (implicitDefEqProofs := false) (maxSteps := 1000000) (disch := first | omega | assumption | (simp only [rL, Nat.reduceAdd]; done) | (simp only [rL, Nat.reduceAdd]; omega)) only [↓rD, rU, ev, ofConst, ofCell, ↓reduceIte, Nat.reduceEqDiff, Nat.reduceAdd, Nat.reduceSub, Nat.reduceMul, Nat.reduceLeDiff, Nat.reduceLT, Int.reduceNeg, Int.reduceToNat, Int.reduceAdd, Int.reduceSub, Int.reduceMul, Int.reduceLT, Int.reduceLE, Int.reduceEq, rX, dg_cells, dg_fold, List.drop_succ_cons, ↓rF, rG, ne_eq, not_true_eq_false, not_false_eq_true, Int.reduceNe, List.getElem?_cons_zero, List.getElem?_cons_succ, c5', Ne.symm d75, d75, ha, hfa, List.length_map]
            refine call_intro (rboth_spec _ a m n true ds o _ rfl (by omega) (by omega) (by omega) ha hd c5 hl) ?_
            rintro _ S2 ⟨t, us, rfl, m2, _⟩
            obtain ⟨u1, u2, _⟩ := bothF_ok _ a m n true ds rfl (by omega) (by omega) ha hd
            generalize bothF a m n true ds = u at *
            obtain ⟨ux, uy, ud, ut, ul⟩ := u
            simp only at u1 u2 ⊢
            have hcx := dg_cells (d := ux)
            have hcy := dg_cells (d := uy)
            have hfx := dg_fold u1
            have hfy := dg_fold u2
            have g5 : S2 l5 = some (.cells (a.map byteAV)) := m2.1 _ _ (by rw [Hp.set_ne _ _ (Ne.symm d75)]; exact Hp.set_same _ _ _)
            have g7 : S2 l7 = some (.cells (b.map byteAV)) := m2.1 _ _ (Hp.set_same _ _ _)
            have hb2 := Hp.sub_trans fin m2.1
            simp (dsimp := false) (implicitDefEqProofs := false) (maxSteps := 1000000) (disch := first | omega | assumption | (simp only [rL, Nat.reduceAdd]; done) | (simp only [rL, Nat.reduceAdd]; omega)) only [↓rD, rU, ev, ofConst, ofCell, ↓reduceIte, Nat.reduceEqDiff, Nat.reduceAdd, Nat.reduceSub, Nat.reduceMul, Nat.reduceLeDiff, Nat.reduceLT, Int.reduceNeg, Int.reduceToNat, Int.reduceAdd, Int.reduceSub, Int.reduceMul, Int.reduceLT, Int.reduceLE, Int.reduceEq, rX, dg_cells, dg_fold, List.drop_succ_cons, ↓rF, rG, ne_eq, not_true_eq_false, not_false_eq_true, Int.reduceNe, List.getElem?_cons_zero, List.getElem?_cons_succ, hcx, hcy, u1, u2]
            refine newK_intro fun lA nA => ?_
            simp (dsimp := false) (implicitDefEqProofs := false) (maxSteps := 1000000) (disch := first | omega | assumption | (simp only [rL, Nat.reduceAdd]; done) | (simp only [rL, Nat.reduceAdd]; omega)) only [↓rD, rU, ev, ofConst, ofCell, ↓reduceIte, Nat.reduceEqDiff, Nat.reduceAdd, Nat.reduceSub, Nat.reduceMul, Nat.reduceLeDiff, Nat.reduceLT, Int.reduceNeg, Int.reduceToNat, Int.reduceAdd, Int.reduceSub, Int.reduceMul, Int.reduceLT, Int.reduceLE, Int.reduceEq, rX, dg_cells, dg_fold, List.drop_succ_cons, ↓rF, rG, ne_eq, not_true_eq_false, not_false_eq_true, Int.reduceNe, List.getElem?_cons_zero, List.getElem?_cons_succ, hcx, hcy, u1, u2]
            refine newK_intro fun lB nB => ?_
            obtain ⟨dBA, eB⟩ := Hp.set_none nB
            have d5A : l5 ≠ lA := by rintro rfl; rw [nA] at g5; cases g5
            have d5B : l5 ≠ lB := by rintro rfl; rw [eB] at g5; cases g5
            have d7A : l7 ≠ lA := by rintro rfl; rw [nA] at g7; cases g7
            have d7B : l7 ≠ lB := by rintro rfl; rw [eB] at g7; cases g7
            simp (dsimp := false) (implicitDefEqProofs := false) (maxSteps := 1000000) (disch := first | omega | assumption | (simp only [rL, Nat.reduceAdd]; done) | (simp only [rL, Nat.reduceAdd]; omega)) only [↓rD, rU, ev, ofConst, ofCell, ↓reduceIte, Nat.reduceEqDiff, Nat.reduceAdd, Nat.reduceSub, Nat.reduceMul, Nat.reduceLeDiff, Nat.reduceLT, Int.reduceNeg, Int.reduceToNat, Int.reduceAdd, Int.reduceSub, Int.reduceMul, Int.reduceLT, Int.reduceLE, Int.reduceEq, rX, dg_cells, dg_fold, List.drop_succ_cons, ↓rF, rG, ne_eq, not_true_eq_false, not_false_eq_true, Int.reduceNe, List.getElem?_cons_zero, List.getElem?_cons_succ, hcx, hcy, u1, u2, zz, dig_put, dBA, Ne.symm dBA, d5A, d5B, d7A, d7B, Hp.read_of g5, Hp.read_of g7, hfa, hfb, hfx, hfy, eqvK_dg, ha, hb]
            cases hxa : decide (ux = a)
            · simp (dsimp := false) (implicitDefEqProofs := false) (maxSteps := 1000000) (disch := first | omega | assumption | (simp only [rL, Nat.reduceAdd]; done) | (simp only [rL, Nat.reduceAdd]; omega)) only [↓rD, rU, ev, ofConst, ofCell, ↓reduceIte, Nat.reduceEqDiff, Nat.reduceAdd, Nat.reduceSub, Nat.reduceMul, Nat.reduceLeDiff, Nat.reduceLT, Int.reduceNeg, Int.reduceToNat, Int.reduceAdd, Int.reduceSub, Int.reduceMul, Int.reduceLT, Int.reduceLE, Int.reduceEq, rX, dg_cells, dg_fold, List.drop_succ_cons, ↓rF, rG, ne_eq, not_true_eq_false, not_false_eq_true, Int.reduceNe, List.getElem?_cons_zero, List.getElem?_cons_succ]
              exact ⟨s, Hp.sub_trans hb2 (Hp.sub_new (Hp.sub_new Hp.sub_refl nA) eB), rfl, by simp⟩
            · simp (dsimp := false) (implicitDefEqProofs := false) (maxSteps := 1000000) (disch := first | omega | assumption | (simp only [rL, Nat.reduceAdd]; done) | (simp only [rL, Nat.reduceAdd]; omega)) only [↓rD, rU, ev, ofConst, ofCell, ↓reduceIte, Nat.reduceEqDiff, Nat.reduceAdd, Nat.reduceSub, Nat.reduceMul, Nat.reduceLeDiff, Nat.reduceLT, Int.reduceNeg, Int.reduceToNat, Int.reduceAdd, Int.reduceSub, Int.reduceMul, Int.reduceLT, Int.reduceLE, Int.reduceEq, rX, dg_cells, dg_fold, List.drop_succ_cons, ↓rF, rG, ne_eq, not_true_eq_false, not_false_eq_true, Int.reduceNe, List.getElem?_cons_zero, List.getElem?_cons_succ, hcx, hcy, u1, u2, zz, dig_put, dBA, Ne.symm dBA, d5A, d5B, d7A, d7B, Hp.read_of g5, Hp.read_of g7, hfa, hfb, hfx, hfy, eqvK_dg, ha, hb]
              exact ⟨s, Hp.sub_trans hb2 (Hp.sub_new (Hp.sub_new Hp.sub_refl nA) eB), rfl, by simp [c5]⟩
          · have c5' : ¬ (ds.length : Int) = (grownN m n true : Int) := by omega
            simp (dsimp := false) (implicitDefEqProofs := false) (maxSteps := 1000000) (disch := first | omega | assumption | (simp only [rL, Nat.reduceAdd]; done) | (simp only [rL, Nat.reduceAdd]; omega)) only [↓rD, rU, ev, ofConst, ofCell, ↓reduceIte, Nat.reduceEqDiff, Nat.reduceAdd, Nat.reduceSub, Nat.reduceMul, Nat.reduceLeDiff, Nat.reduceLT, Int.reduceNeg, Int.reduceToNat, Int.reduceAdd, Int.reduceSub, Int.reduceMul, Int.reduceLT, Int.reduceLE, Int.reduceEq, rX, dg_cells, dg_fold, List.drop_succ_cons, ↓rF, rG, ne_eq, not_true_eq_false, not_false_eq_true, Int.reduceNe, List.getElem?_cons_zero, List.getElem?_cons_succ, c5', List.length_map]
            exact ⟨s, fin, rfl, by simp [c5]⟩
end Go.Proofs.Ytapjikladjoicaa
/-
  ref22.Preimage, ref22.Sum.
-/
set_option maxRecDepth 100000
set_option maxHeartbeats 1000000
namespace Go.Proofs.Ytapjikladjoicaa
open Go Go.Av

theorem rdigpre_spec (o : Opn) (ho : o.ok) (s : Hp) : AC Try.prog 64 [o.V] s fun r s' => MO s s' 1 ((digPre o.n o.h o.d).map byteAV) r := by
  refine AC_run hm prep64 (by simp) ?_
  have hc := Opn.cells (o := o)
  have hl := Opn.lenC ho
  simp (dsimp := false) (implicitDefEqProofs := false) (maxSteps := 1000000) (disch := first | omega | assumption | (simp only [rL, Nat.reduceAdd]; done) | (simp only [rL, Nat.reduceAdd]; omega)) only [↓rD, rU, ev, ofConst, ofCell, ↓reduceIte, Nat.reduceEqDiff, Nat.reduceAdd, Nat.reduceSub, Nat.reduceMul, Nat.reduceLeDiff, Nat.reduceLT, Int.reduceNeg, Int.reduceToNat, Int.reduceAdd, Int.reduceSub, Int.reduceMul, Int.reduceLT, Int.reduceLE, Int.reduceEq, rX, dg_cells, dg_fold, List.drop_succ_cons, ↓rF, rG, ne_eq, not_true_eq_false, not_false_eq_true, Int.reduceNe, List.getElem?_cons_zero, List.getElem?_cons_succ, hc, hl]
  refine newK_intro fun l1 n1 => ?_
  simp (dsimp := false) (implicitDefEqProofs := false) (maxSteps := 1000000) (disch := first | omega | assumption | (simp only [rL, Nat.reduceAdd]; done) | (simp only [rL, Nat.reduceAdd]; omega)) only [↓rD, rU, ev, ofConst, ofCell, ↓reduceIte, Nat.reduceEqDiff, Nat.reduceAdd, Nat.reduceSub, Nat.reduceMul, Nat.reduceLeDiff, Nat.reduceLT, Int.reduceNeg, Int.reduceToNat, Int.reduceAdd, Int.reduceSub, Int.reduceMul, Int.reduceLT, Int.reduceLE, Int.reduceEq, rX, dg_cells, dg_fold, List.drop_succ_cons, ↓rF, rG, ne_eq, not_true_eq_false, not_false_eq_true, Int.reduceNe, List.getElem?_cons_zero, List.getElem?_cons_succ, hc, hl, Opn.m0, bslM_nil]
  have k1 : ∀ S : Hp, S l1 = some (.ro o.C) → slcRA 1 32 S (.ptr l1 1) = some (.sl (o.h.map byteAV) .any) := by
    intro S g; rw [slcRA_at g (by omega)]; exact congrArg (fun z => some (AV.sl z .any)) (Opn.h32 ho)
  have k2 : ∀ S : Hp, S l1 = some (.ro o.C) → slcRA 1 32 S (.ptr l1 33) = some (.sl (o.d.map byteAV) .any) := by
    intro S g; rw [slcRA_at g (by omega)]; exact congrArg (fun z => some (AV.sl z .any)) (Opn.d32 ho)
  have g0 : (s.set l1 (.ro o.C)) l1 = some (.ro o.C) := Hp.set_same _ _ _
  simp (dsimp := false) (implicitDefEqProofs := false) (maxSteps := 1000000) (disch := first | omega | assumption | (simp only [rL, Nat.reduceAdd]; done) | (simp only [rL, Nat.reduceAdd]; omega)) only [↓rD, rU, ev, ofConst, ofCell, ↓reduceIte, Nat.reduceEqDiff, Nat.reduceAdd, Nat.reduceSub, Nat.reduceMul, Nat.reduceLeDiff, Nat.reduceLT, Int.reduceNeg, Int.reduceToNat, Int.reduceAdd, Int.reduceSub, Int.reduceMul, Int.reduceLT, Int.reduceLE, Int.reduceEq, rX, dg_cells, dg_fold, List.drop_succ_cons, ↓rF, rG, ne_eq, not_true_eq_false, not_false_eq_true, Int.reduceNe, List.getElem?_cons_zero, List.getElem?_cons_succ, k1 _ g0, k2 _ g0, hc, bslM_nil, andK_true]
  refine call_intro (rnumR_spec o.n _) ?_
  rintro x5 s1 h5
  have g1 := h5.1 _ _ g0
  simp (dsimp := false) (implicitDefEqProofs := false) (maxSteps := 1000000) (disch := first | omega | assumption | (simp only [rL, Nat.reduceAdd]; done) | (simp only [rL, Nat.reduceAdd]; omega)) only [↓rD, rU, ev, ofConst, ofCell, ↓reduceIte, Nat.reduceEqDiff, Nat.reduceAdd, Nat.reduceSub, Nat.reduceMul, Nat.reduceLeDiff, Nat.reduceLT, Int.reduceNeg, Int.reduceToNat, Int.reduceAdd, Int.reduceSub, Int.reduceMul, Int.reduceLT, Int.reduceLE, Int.reduceEq, rX, dg_cells, dg_fold, List.drop_succ_cons, ↓rF, rG, ne_eq, not_true_eq_false, not_false_eq_true, Int.reduceNe, List.getElem?_cons_zero, List.getElem?_cons_succ, k1 _ g1, k2 _ g1, bslM_nil, andK_true]
  refine appB_own (bs := []) (MO.zero Hp.sub_refl) srcF_bytes (by simp [ho.1]) fun x9 s2 h9 => ?_
  rw [List.nil_append] at h9
  have g2 := h9.1 _ _ g1
  simp (dsimp := false) (implicitDefEqProofs := false) (maxSteps := 1000000) (disch := first | omega | assumption | (simp only [rL, Nat.reduceAdd]; done) | (simp only [rL, Nat.reduceAdd]; omega)) only [↓rD, rU, ev, ofConst, ofCell, ↓reduceIte, Nat.reduceEqDiff, Nat.reduceAdd, Nat.reduceSub, Nat.reduceMul, Nat.reduceLeDiff, Nat.reduceLT, Int.reduceNeg, Int.reduceToNat, Int.reduceAdd, Int.reduceSub, Int.reduceMul, Int.reduceLT, Int.reduceLE, Int.reduceEq, rX, dg_cells, dg_fold, List.drop_succ_cons, ↓rF, rG, ne_eq, not_true_eq_false, not_false_eq_true, Int.reduceNe, List.getElem?_cons_zero, List.getElem?_cons_succ, k1 _ g2, k2 _ g2, bslM_nil, andK_true]
  refine appB_own (bs := []) (MO.zero Hp.sub_refl) srcF_bytes (by simp [ho.2]) fun x13 s3 h13 => ?_
  rw [List.nil_append] at h13
  simp (dsimp := false) (implicitDefEqProofs := false) (maxSteps := 1000000) (disch := first | omega | assumption | (simp only [rL, Nat.reduceAdd]; done) | (simp only [rL, Nat.reduceAdd]; omega)) only [↓rD, rU, ev, ofConst, ofCell, ↓reduceIte, Nat.reduceEqDiff, Nat.reduceAdd, Nat.reduceSub, Nat.reduceMul, Nat.reduceLeDiff, Nat.reduceLT, Int.reduceNeg, Int.reduceToNat, Int.reduceAdd, Int.reduceSub, Int.reduceMul, Int.reduceLT, Int.reduceLE, Int.reduceEq, rX, dg_cells, dg_fold, List.drop_succ_cons, ↓rF, rG, ne_eq, not_true_eq_false, not_false_eq_true, Int.reduceNe, List.getElem?_cons_zero, List.getElem?_cons_succ]
  have c5 := MO_one_cell h5
  have c9 := MO_one_cell h9
  have c13 := MO_one_cell h13
  refine bslM_intro (by simp [allLen, c5, c9, c13]) (by simp) fun g ng => ?_
  have hobj : flat [x5, x9, x13] = [(x5, numB o.n), (x9, o.h), (x13, o.d)].map (·.1) := by simp [flat, c5, c9, c13]
  rw [hobj]
  have hsn := Hp.sub_new (Hp.sub_refl (s := s3)) ng (o := .cells ([(x5, numB o.n), (x9, o.h), (x13, o.d)].map (·.1)))
  have hlen := digPre_length o.n o.h o.d ho.1 ho.2
  simp (dsimp := false) (implicitDefEqProofs := false) (maxSteps := 1000000) (disch := first | omega | assumption | (simp only [rL, Nat.reduceAdd]; done) | (simp only [rL, Nat.reduceAdd]; omega)) only [↓rD, rU, ev, ofConst, ofCell, ↓reduceIte, Nat.reduceEqDiff, Nat.reduceAdd, Nat.reduceSub, Nat.reduceMul, Nat.reduceLeDiff, Nat.reduceLT, Int.reduceNeg, Int.reduceToNat, Int.reduceAdd, Int.reduceSub, Int.reduceMul, Int.reduceLT, Int.reduceLE, Int.reduceEq, rX, dg_cells, dg_fold, List.drop_succ_cons, ↓rF, rG, ne_eq, not_true_eq_false, not_false_eq_true, Int.reduceNe, List.getElem?_cons_zero, List.getElem?_cons_succ]
  refine call_intro (rpre_list 68 [(x5, numB o.n), (x9, o.h), (x13, o.d)] g _ (Hp.set_same _ _ _) ?_ ?_) ?_
  · have key : ∀ {a b : Hp} {x : AV} {bs : List UInt8}, MO a b 1 (bs.map byteAV) x → b.sub (s3.set g (.cells ([(x5, numB o.n), (x9, o.h), (x13, o.d)].map (·.1)))) → srcF (s3.set g (.cells ([(x5, numB o.n), (x9, o.h), (x13, o.d)].map (·.1)))) 1 x = some (bs.length, bs.map byteAV) ∧ lenAA x = some (.v (.int .i64 bs.length)) := by
      intro a b x bs hm hsb
      obtain ⟨n, e1, e2, e3⟩ := (hm.mono hsb).src
      simp only [List.length_map, Nat.mul_one] at e1
      subst e1
      exact ⟨e2, e3⟩
    intro p hp
    simp only [List.mem_cons, List.not_mem_nil, or_false] at hp
    rcases hp with rfl | rfl | rfl
    · exact .inr (key h5 (Hp.sub_trans h9.1 (Hp.sub_trans h13.1 hsn)))
    · exact .inr (key h9 (Hp.sub_trans h13.1 hsn))
    · exact .inr (key h13 hsn)
  · simp only [digPre] at hlen
    simp only [List.map_cons, List.map_nil, hlen]; omega
  rintro x15 s4 h15
  simp (dsimp := false) (implicitDefEqProofs := false) (maxSteps := 1000000) (disch := first | omega | assumption | (simp only [rL, Nat.reduceAdd]; done) | (simp only [rL, Nat.reduceAdd]; omega)) only [↓rD, rU, ev, ofConst, ofCell, ↓reduceIte, Nat.reduceEqDiff, Nat.reduceAdd, Nat.reduceSub, Nat.reduceMul, Nat.reduceLeDiff, Nat.reduceLT, Int.reduceNeg, Int.reduceToNat, Int.reduceAdd, Int.reduceSub, Int.reduceMul, Int.reduceLT, Int.reduceLE, Int.reduceEq, rX, dg_cells, dg_fold, List.drop_succ_cons, ↓rF, rG, ne_eq, not_true_eq_false, not_false_eq_true, Int.reduceNe, List.getElem?_cons_zero, List.getElem?_cons_succ]
  exact ⟨_, Hp.sub_refl, h15.base (Hp.sub_trans (Hp.sub_new Hp.sub_refl n1) (Hp.sub_trans h5.1 (Hp.sub_trans h9.1 (Hp.sub_trans h13.1 hsn))))⟩
theorem rlsum_spec (o : Opn) (ho : o.ok) (s : Hp) : AC Try.prog 37 [o.V] s fun r s' => s' = s ∧ r = dg o.sum := by
  refine AC_run hm prep37 (by simp) ?_
  have hc := Opn.cells (o := o)
  have hl := Opn.lenC ho
  have hf := Opn.fold ho
  simp (dsimp := false) (implicitDefEqProofs := false) (maxSteps := 1000000) (disch := first | omega | assumption | (simp only [rL, Nat.reduceAdd]; done) | (simp only [rL, Nat.reduceAdd]; omega)) only [↓rD, rU, ev, ofConst, ofCell, ↓reduceIte, Nat.reduceEqDiff, Nat.reduceAdd, Nat.reduceSub, Nat.reduceMul, Nat.reduceLeDiff, Nat.reduceLT, Int.reduceNeg, Int.reduceToNat, Int.reduceAdd, Int.reduceSub, Int.reduceMul, Int.reduceLT, Int.reduceLE, Int.reduceEq, rX, dg_cells, dg_fold, List.drop_succ_cons, ↓rF, rG, ne_eq, not_true_eq_false, not_false_eq_true, Int.reduceNe, List.getElem?_cons_zero, List.getElem?_cons_succ, hc, hl]
  refine newK_intro fun l1 n1 => ?_
  simp (dsimp := false) (implicitDefEqProofs := false) (maxSteps := 1000000) (disch := first | omega | assumption | (simp only [rL, Nat.reduceAdd]; done) | (simp only [rL, Nat.reduceAdd]; omega)) only [↓rD, rU, ev, ofConst, ofCell, ↓reduceIte, Nat.reduceEqDiff, Nat.reduceAdd, Nat.reduceSub, Nat.reduceMul, Nat.reduceLeDiff, Nat.reduceLT, Int.reduceNeg, Int.reduceToNat, Int.reduceAdd, Int.reduceSub, Int.reduceMul, Int.reduceLT, Int.reduceLE, Int.reduceEq, rX, dg_cells, dg_fold, List.drop_succ_cons, ↓rF, rG, ne_eq, not_true_eq_false, not_false_eq_true, Int.reduceNe, List.getElem?_cons_zero, List.getElem?_cons_succ, hc, hl]
  refine newK_intro fun l2 n2 => ?_
  obtain ⟨d2, e2⟩ := Hp.set_none n2
  simp (dsimp := false) (implicitDefEqProofs := false) (maxSteps := 1000000) (disch := first | omega | assumption | (simp only [rL, Nat.reduceAdd]; done) | (simp only [rL, Nat.reduceAdd]; omega)) only [↓rD, rU, ev, ofConst, ofCell, ↓reduceIte, Nat.reduceEqDiff, Nat.reduceAdd, Nat.reduceSub, Nat.reduceMul, Nat.reduceLeDiff, Nat.reduceLT, Int.reduceNeg, Int.reduceToNat, Int.reduceAdd, Int.reduceSub, Int.reduceMul, Int.reduceLT, Int.reduceLE, Int.reduceEq, rX, dg_cells, dg_fold, List.drop_succ_cons, ↓rF, rG, ne_eq, not_true_eq_false, not_false_eq_true, Int.reduceNe, List.getElem?_cons_zero, List.getElem?_cons_succ, hc, hl, d2, Ne.symm d2, hf]
  refine call_intro (rdigpre_spec o ho _) ?_
  rintro x4 s1 h4
  obtain ⟨n, z1, z2, z3⟩ := h4.src
  simp only [List.length_map, Nat.mul_one] at z1
  subst z1
  have hlen := digPre_length o.n o.h o.d ho.1 ho.2
  simp (dsimp := false) (implicitDefEqProofs := false) (maxSteps := 1000000) (disch := first | omega | assumption | (simp only [rL, Nat.reduceAdd]; done) | (simp only [rL, Nat.reduceAdd]; omega)) only [↓rD, rU, ev, ofConst, ofCell, ↓reduceIte, Nat.reduceEqDiff, Nat.reduceAdd, Nat.reduceSub, Nat.reduceMul, Nat.reduceLeDiff, Nat.reduceLT, Int.reduceNeg, Int.reduceToNat, Int.reduceAdd, Int.reduceSub, Int.reduceMul, Int.reduceLT, Int.reduceLE, Int.reduceEq, rX, dg_cells, dg_fold, List.drop_succ_cons, ↓rF, rG, ne_eq, not_true_eq_false, not_false_eq_true, Int.reduceNe, List.getElem?_cons_zero, List.getElem?_cons_succ]
  refine call_intro (rsum_spec (digPre o.n o.h o.d) (by omega) x4 s1 z2 z3) ?_
  rintro _ s1 ⟨rfl, rfl⟩
  have gl := h4.1 _ _ (Hp.set_same _ _ _)
  have hs := h4.1
  clear h4 z2 z3
  have hq : o.sum.length = 32 := sha256_length _
  have e : sha256 (digPre o.n o.h o.d) = o.sum := rfl
  rw [e]
  clear e
  generalize o.sum = d at *
  have hcd := dg_cells (d := d)
  have hfd := dg_fold hq
  have zz := z32_len
  simp (dsimp := false) (implicitDefEqProofs := false) (maxSteps := 1000000) (disch := first | omega | assumption | (simp only [rL, Nat.reduceAdd]; done) | (simp only [rL, Nat.reduceAdd]; omega)) only [↓rD, rU, ev, ofConst, ofCell, ↓reduceIte, Nat.reduceEqDiff, Nat.reduceAdd, Nat.reduceSub, Nat.reduceMul, Nat.reduceLeDiff, Nat.reduceLT, Int.reduceNeg, Int.reduceToNat, Int.reduceAdd, Int.reduceSub, Int.reduceMul, Int.reduceLT, Int.reduceLE, Int.reduceEq, rX, dg_cells, dg_fold, List.drop_succ_cons, ↓rF, rG, ne_eq, not_true_eq_false, not_false_eq_true, Int.reduceNe, List.getElem?_cons_zero, List.getElem?_cons_succ, hcd, hq, hfd, zz, dig_put, Hp.read_of gl, Hp.stA_of gl]
  exact ⟨s, Hp.sub_new (Hp.sub_trans (Hp.sub_new (Hp.sub_new Hp.sub_refl n1) e2) hs) e2, rfl⟩
end Go.Proofs.Ytapjikladjoicaa
/-
  ref34.Follower.Next.
-/
set_option maxRecDepth 100000
set_option maxHeartbeats 1000000
namespace Go.Proofs.Ytapjikladjoicaa
open Go Go.Av

/-- the document's follower of a follower -/
def toR (F : Fw) : RFw := ⟨F.o, F.st, F.fk.isSome, toldF F, thenF F⟩
theorem toldF_ok {F : Fw} (h : F.ok) : (toldF F).ok := by unfold toldF; split <;> rename_i e; exact (h.2 _ _ e).1; exact zo_ok
theorem thenF_ok {F : Fw} (h : F.ok) : (thenF F).ok := by unfold thenF; split <;> rename_i e; exact (h.2 _ _ e).2; exact zo_ok
theorem toR_ok {F : Fw} (h : F.ok) : (toR F).ok := ⟨h.1, toldF_ok h, thenF_ok h⟩

theorem put_skip {xs ys cs : List AV} {i : Nat} (h : xs.length = i) (j : Nat) : putAt (xs ++ ys) (i + j) cs = xs ++ putAt ys j cs := by
  subst h
  rw [putAt, putAt, List.take_append, List.take_of_length_le (by omega), show xs.length + j - xs.length = j by omega, Nat.add_assoc, List.drop_append, List.drop_of_length_le (by omega),
    show xs.length + (j + cs.length) - xs.length = j + cs.length by omega]
  simp
theorem put_here {xs ys cs : List AV} (h : cs.length = xs.length) : putAt (xs ++ ys) 0 cs = cs ++ ys := by
  rw [putAt, Nat.zero_add, h, List.drop_left]; rfl
section
variable {o o' a a' b b' : Opn} {st st' : Int} {fk fk' : Bool}
theorem rfC_put0 (ho : o.ok) (ho' : o'.ok) : putAt (rfC ⟨o, st, fk, a, b⟩) 0 o'.C = rfC ⟨o', st, fk, a, b⟩ := put_here (by rw [Opn.lenC ho, Opn.lenC ho'])
theorem rfC_put65 (ho : o.ok) : putAt (rfC ⟨o, st, fk, a, b⟩) 65 [.v (.int .i64 st')] = rfC ⟨o, st', fk, a, b⟩ := put_skip (Opn.lenC ho) 0
theorem rfC_put66 (ho : o.ok) : putAt (rfC ⟨o, st, fk, a, b⟩) 66 [.v (.bool fk')] = rfC ⟨o, st, fk', a, b⟩ := put_skip (Opn.lenC ho) 1
theorem rfC_put67 (ho : o.ok) (ha : a.ok) (ha' : a'.ok) : putAt (rfC ⟨o, st, fk, a, b⟩) 67 a'.C = rfC ⟨o, st, fk, a', b⟩ := by
  have h : putAt (rfC ⟨o, st, fk, a, b⟩) (65 + 2) a'.C = o.C ++ putAt ([.v (.int .i64 st), .v (.bool fk)] ++ (a.C ++ b.C)) 2 a'.C := put_skip (Opn.lenC ho) 2
  have h2 : putAt ([AV.v (.int .i64 st), .v (.bool fk)] ++ (a.C ++ b.C)) (2 + 0) a'.C = [.v (.int .i64 st), .v (.bool fk)] ++ putAt (a.C ++ b.C) 0 a'.C := put_skip rfl 0
  rw [put_here (by rw [Opn.lenC ha, Opn.lenC ha'])] at h2
  rw [show (67 : Nat) = 65 + 2 from rfl, h, show (2 : Nat) = 2 + 0 from rfl, h2]; rfl
theorem rfC_put132 (ho : o.ok) (ha : a.ok) (hb : b.ok) (hb' : b'.ok) : putAt (rfC ⟨o, st, fk, a, b⟩) 132 b'.C = rfC ⟨o, st, fk, a, b'⟩ := by
  have h : putAt (rfC ⟨o, st, fk, a, b⟩) (65 + 67) b'.C = o.C ++ putAt ([.v (.int .i64 st), .v (.bool fk)] ++ (a.C ++ b.C)) 67 b'.C := put_skip (Opn.lenC ho) 67
  have h2 : putAt ([AV.v (.int .i64 st), .v (.bool fk)] ++ (a.C ++ b.C)) (2 + 65) b'.C = [.v (.int .i64 st), .v (.bool fk)] ++ putAt (a.C ++ b.C) 65 b'.C := put_skip rfl 65
  have h3 : putAt (a.C ++ b.C) (65 + 0) b'.C = a.C ++ putAt b.C 0 b'.C := put_skip (Opn.lenC ha) 0
  have h4 : putAt b.C 0 b'.C = b'.C := by
    have := put_here (xs := b.C) (ys := []) (cs := b'.C) (by rw [Opn.lenC hb, Opn.lenC hb'])
    simpa using this
  rw [h4] at h3
  rw [show (132 : Nat) = 65 + 67 from rfl, h, show (67 : Nat) = 2 + 65 from rfl, h2, show (65 : Nat) = 65 + 0 from rfl, h3]; rfl
end
theorem rfC_m0 {F : RFw} : mkv false 1 (rfC F) = .v (.int .i64 F.o.n) := rfl
theorem rfC_h32 {F : RFw} (h : F.ok) : ((rfC F).drop 1).take 32 = F.o.h.map byteAV := by
  have e : (rfC F).drop 1 = F.o.C.drop 1 ++ ([.v (.int .i64 F.st), .v (.bool F.fk)] ++ (F.a.C ++ F.b.C)) := by
    rw [rfC, List.drop_append_of_le_length (by rw [Opn.lenC h.1]; omega)]
  rw [e, List.take_append_of_le_length (by rw [List.length_drop, Opn.lenC h.1]; omega)]
  exact Opn.h32 h.1

def RF (s0 : Hp) (l : Nat) (F : Fw) (s : Hp) : Prop := (s0.set l (.cells (rfC (toR F)))).sub s

theorem rnext_spec (s0 s : Hp) (l : Nat) (F : Fw) (d : List UInt8) (o : Opn) (g : List (List UInt8)) (ow : Own) (hd : d.length = 32) (hF : F.ok) (ho : o.ok) (hg : Digs g) (hgl : g.length ≤ 400000) (hst : 0 ≤ F.st ∧ F.st ≤ 1000000) (h0 : s0 l = none) (h : RF s0 l F s) :
    AC Try.prog 19 [.ptr l 0, dg d, o.V, .sl (g.map dg) ow] s fun r s' => r = .v (.int .i64 (nextF F d o g).1) ∧ RF s0 l (nextF F d o g).2 s' := by
  have hR := toR_ok hF
  have hs := h _ _ (Hp.set_same _ _ _)
  have hw := rfC_length hR
  have hro : (toR F).o = F.o := rfl
  have hop := rfC_op hR
  have hm0 := rfC_m0 (F := toR F)
  have hh32 := rfC_h32 hR
  rw [hro] at hop hm0 hh32
  refine AC_run hm prep19 (by simp) ?_
  have hc := Opn.cells (o := o)
  have hl := Opn.lenC ho
  have hf := Opn.fold ho
  have hcd := dg_cells (d := d)
  have hfd := dg_fold hd
  simp (dsimp := false) (implicitDefEqProofs := false) (maxSteps := 1000000) (disch := first | omega | assumption | (simp only [rL, Nat.reduceAdd]; done) | (simp only [rL, Nat.reduceAdd]; omega)) only [↓rD, rU, ev, ofConst, ofCell, ↓reduceIte, Nat.reduceEqDiff, Nat.reduceAdd, Nat.reduceSub, Nat.reduceMul, Nat.reduceLeDiff, Nat.reduceLT, Int.reduceNeg, Int.reduceToNat, Int.reduceAdd, Int.reduceSub, Int.reduceMul, Int.reduceLT, Int.reduceLE, Int.reduceEq, rX, dg_cells, dg_fold, List.drop_succ_cons, ↓rF, rG, ne_eq, not_true_eq_false, not_false_eq_true, Int.reduceNe, List.getElem?_cons_zero, List.getElem?_cons_succ, hd, hcd]
  refine newK_intro fun l5 n5 => ?_
  have d5 : l ≠ l5 := by rintro rfl; rw [n5] at hs; cases hs
  simp (dsimp := false) (implicitDefEqProofs := false) (maxSteps := 1000000) (disch := first | omega | assumption | (simp only [rL, Nat.reduceAdd]; done) | (simp only [rL, Nat.reduceAdd]; omega)) only [↓rD, rU, ev, ofConst, ofCell, ↓reduceIte, Nat.reduceEqDiff, Nat.reduceAdd, Nat.reduceSub, Nat.reduceMul, Nat.reduceLeDiff, Nat.reduceLT, Int.reduceNeg, Int.reduceToNat, Int.reduceAdd, Int.reduceSub, Int.reduceMul, Int.reduceLT, Int.reduceLE, Int.reduceEq, rX, dg_cells, dg_fold, List.drop_succ_cons, ↓rF, rG, ne_eq, not_true_eq_false, not_false_eq_true, Int.reduceNe, List.getElem?_cons_zero, List.getElem?_cons_succ, hd, hc, hl]
  refine newK_intro fun l6 n6 => ?_
  obtain ⟨d65, n6⟩ := Hp.set_none n6
  have d6 : l ≠ l6 := by rintro rfl; rw [n6] at hs; cases hs
  have hsub := Hp.sub_new (o := .cells o.C) (Hp.sub_new (o := .cells (d.map byteAV)) (Hp.sub_refl (s := s)) n5) n6
  simp (dsimp := false) (implicitDefEqProofs := false) (maxSteps := 1000000) (disch := first | omega | assumption | (simp only [rL, Nat.reduceAdd]; done) | (simp only [rL, Nat.reduceAdd]; omega)) only [↓rD, rU, ev, ofConst, ofCell, ↓reduceIte, Nat.reduceEqDiff, Nat.reduceAdd, Nat.reduceSub, Nat.reduceMul, Nat.reduceLeDiff, Nat.reduceLT, Int.reduceNeg, Int.reduceToNat, Int.reduceAdd, Int.reduceSub, Int.reduceMul, Int.reduceLT, Int.reduceLE, Int.reduceEq, rX, dg_cells, dg_fold, List.drop_succ_cons, ↓rF, rG, ne_eq, not_true_eq_false, not_false_eq_true, Int.reduceNe, List.getElem?_cons_zero, List.getElem?_cons_succ, hc, hl, hf, hd, hfd, d65, Ne.symm d65]
  refine call_intro (rlsum_spec o ho _) ?_
  rintro _ _ ⟨rfl, rfl⟩
  have hq : o.sum.length = 32 := sha256_length _
  simp (dsimp := false) (implicitDefEqProofs := false) (maxSteps := 1000000) (disch := first | omega | assumption | (simp only [rL, Nat.reduceAdd]; done) | (simp only [rL, Nat.reduceAdd]; omega)) only [↓rD, rU, ev, ofConst, ofCell, ↓reduceIte, Nat.reduceEqDiff, Nat.reduceAdd, Nat.reduceSub, Nat.reduceMul, Nat.reduceLeDiff, Nat.reduceLT, Int.reduceNeg, Int.reduceToNat, Int.reduceAdd, Int.reduceSub, Int.reduceMul, Int.reduceLT, Int.reduceLE, Int.reduceEq, rX, dg_cells, dg_fold, List.drop_succ_cons, ↓rF, rG, ne_eq, not_true_eq_false, not_false_eq_true, Int.reduceNe, List.getElem?_cons_zero, List.getElem?_cons_succ, hc, hl, hf, hd, hfd, hq, d65, Ne.symm d65, eqvK_dg]
  by_cases c1 : o.sum = d
  · simp (dsimp := false) (implicitDefEqProofs := false) (maxSteps := 1000000) (disch := first | omega | assumption | (simp only [rL, Nat.reduceAdd]; done) | (simp only [rL, Nat.reduceAdd]; omega)) only [↓rD, rU, ev, ofConst, ofCell, ↓reduceIte, Nat.reduceEqDiff, Nat.reduceAdd, Nat.reduceSub, Nat.reduceMul, Nat.reduceLeDiff, Nat.reduceLT, Int.reduceNeg, Int.reduceToNat, Int.reduceAdd, Int.reduceSub, Int.reduceMul, Int.reduceLT, Int.reduceLE, Int.reduceEq, rX, dg_cells, dg_fold, List.drop_succ_cons, ↓rF, rG, ne_eq, not_true_eq_false, not_false_eq_true, Int.reduceNe, List.getElem?_cons_zero, List.getElem?_cons_succ, c1, hd, hfd, d65, Ne.symm d65, Hp.read_of hs, d5, d6, hw, hop, Opn.fold']
    refine call_intro (rlsum_spec F.o hF.1 _) ?_
    rintro _ _ ⟨rfl, rfl⟩
    have hq2 : F.o.sum.length = 32 := sha256_length _
    simp (dsimp := false) (implicitDefEqProofs := false) (maxSteps := 1000000) (disch := first | omega | assumption | (simp only [rL, Nat.reduceAdd]; done) | (simp only [rL, Nat.reduceAdd]; omega)) only [↓rD, rU, ev, ofConst, ofCell, ↓reduceIte, Nat.reduceEqDiff, Nat.reduceAdd, Nat.reduceSub, Nat.reduceMul, Nat.reduceLeDiff, Nat.reduceLT, Int.reduceNeg, Int.reduceToNat, Int.reduceAdd, Int.reduceSub, Int.reduceMul, Int.reduceLT, Int.reduceLE, Int.reduceEq, rX, dg_cells, dg_fold, List.drop_succ_cons, ↓rF, rG, ne_eq, not_true_eq_false, not_false_eq_true, Int.reduceNe, List.getElem?_cons_zero, List.getElem?_cons_succ, hd, hfd, hq2, d65, Ne.symm d65, eqvK_dg]
    by_cases c2 : d = F.o.sum
    · have e : nextF F d o g = (0, F) := by rw [nextF, if_neg (by simpa using c1), if_pos c2]
      rw [e]
      rw [← c2]
      simp (dsimp := false) (implicitDefEqProofs := false) (maxSteps := 1000000) (disch := first | omega | assumption | (simp only [rL, Nat.reduceAdd]; done) | (simp only [rL, Nat.reduceAdd]; omega)) only [↓rD, rU, ev, ofConst, ofCell, ↓reduceIte, Nat.reduceEqDiff, Nat.reduceAdd, Nat.reduceSub, Nat.reduceMul, Nat.reduceLeDiff, Nat.reduceLT, Int.reduceNeg, Int.reduceToNat, Int.reduceAdd, Int.reduceSub, Int.reduceMul, Int.reduceLT, Int.reduceLE, Int.reduceEq, rX, dg_cells, dg_fold, List.drop_succ_cons, ↓rF, rG, ne_eq, not_true_eq_false, not_false_eq_true, Int.reduceNe, List.getElem?_cons_zero, List.getElem?_cons_succ]
      exact ⟨_, Hp.sub_refl, Hp.sub_trans h hsub⟩
    · simp (dsimp := false) (implicitDefEqProofs := false) (maxSteps := 1000000) (disch := first | omega | assumption | (simp only [rL, Nat.reduceAdd]; done) | (simp only [rL, Nat.reduceAdd]; omega)) only [↓rD, rU, ev, ofConst, ofCell, ↓reduceIte, Nat.reduceEqDiff, Nat.reduceAdd, Nat.reduceSub, Nat.reduceMul, Nat.reduceLeDiff, Nat.reduceLT, Int.reduceNeg, Int.reduceToNat, Int.reduceAdd, Int.reduceSub, Int.reduceMul, Int.reduceLT, Int.reduceLE, Int.reduceEq, rX, dg_cells, dg_fold, List.drop_succ_cons, ↓rF, rG, ne_eq, not_true_eq_false, not_false_eq_true, Int.reduceNe, List.getElem?_cons_zero, List.getElem?_cons_succ, c2, hc, hl, hf, Opn.m0, d65, Ne.symm d65]
      by_cases c3 : o.n < 0
      · have hr : rightN o.n = false := by simp [rightN]; omega
        have e : nextF F d o g = (42, F) := by rw [nextF, if_neg (by simpa using c1), if_neg c2, if_pos hr]
        rw [e]
        simp (dsimp := false) (implicitDefEqProofs := false) (maxSteps := 1000000) (disch := first | omega | assumption | (simp only [rL, Nat.reduceAdd]; done) | (simp only [rL, Nat.reduceAdd]; omega)) only [↓rD, rU, ev, ofConst, ofCell, ↓reduceIte, Nat.reduceEqDiff, Nat.reduceAdd, Nat.reduceSub, Nat.reduceMul, Nat.reduceLeDiff, Nat.reduceLT, Int.reduceNeg, Int.reduceToNat, Int.reduceAdd, Int.reduceSub, Int.reduceMul, Int.reduceLT, Int.reduceLE, Int.reduceEq, rX, dg_cells, dg_fold, List.drop_succ_cons, ↓rF, rG, ne_eq, not_true_eq_false, not_false_eq_true, Int.reduceNe, List.getElem?_cons_zero, List.getElem?_cons_succ, c3]
        exact ⟨_, Hp.sub_refl, Hp.sub_trans h hsub⟩
      by_cases c3' : (1099511627776 : Int) < o.n
      · have hr : rightN o.n = false := by simp [rightN]; omega
        have e : nextF F d o g = (42, F) := by rw [nextF, if_neg (by simpa using c1), if_neg c2, if_pos hr]
        rw [e]
        simp (dsimp := false) (implicitDefEqProofs := false) (maxSteps := 1000000) (disch := first | omega | assumption | (simp only [rL, Nat.reduceAdd]; done) | (simp only [rL, Nat.reduceAdd]; omega)) only [↓rD, rU, ev, ofConst, ofCell, ↓reduceIte, Nat.reduceEqDiff, Nat.reduceAdd, Nat.reduceSub, Nat.reduceMul, Nat.reduceLeDiff, Nat.reduceLT, Int.reduceNeg, Int.reduceToNat, Int.reduceAdd, Int.reduceSub, Int.reduceMul, Int.reduceLT, Int.reduceLE, Int.reduceEq, rX, dg_cells, dg_fold, List.drop_succ_cons, ↓rF, rG, ne_eq, not_true_eq_false, not_false_eq_true, Int.reduceNe, List.getElem?_cons_zero, List.getElem?_cons_succ, c3, c3', hl, Opn.m0]
        exact ⟨_, Hp.sub_refl, Hp.sub_trans h hsub⟩
      have hr : rightN o.n = true := by simp [rightN]; omega
      have he5 : ∀ x y : Ob, ((s.set l5 x).set l6 y) l = s l := by intro x y; rw [Hp.set_ne _ _ d6, Hp.set_ne _ _ d5]
      have hs6 : ((s.set l5 (.cells (d.map byteAV))).set l6 (.cells o.C)) l = some (.cells (rfC (toR F))) := by rw [he5]; exact hs
      simp (dsimp := false) (implicitDefEqProofs := false) (maxSteps := 1000000) (disch := first | omega | assumption | (simp only [rL, Nat.reduceAdd]; done) | (simp only [rL, Nat.reduceAdd]; omega)) only [↓rD, rU, ev, ofConst, ofCell, ↓reduceIte, Nat.reduceEqDiff, Nat.reduceAdd, Nat.reduceSub, Nat.reduceMul, Nat.reduceLeDiff, Nat.reduceLT, Int.reduceNeg, Int.reduceToNat, Int.reduceAdd, Int.reduceSub, Int.reduceMul, Int.reduceLT, Int.reduceLE, Int.reduceEq, rX, dg_cells, dg_fold, List.drop_succ_cons, ↓rF, rG, ne_eq, not_true_eq_false, not_false_eq_true, Int.reduceNe, List.getElem?_cons_zero, List.getElem?_cons_succ, c3, c3', hc, hl, hf, Opn.m0, Hp.read_of hs, d5, d6, hw, hm0, d65, Ne.symm d65]
      have hbase : RF s0 l F ((s.set l5 (.cells (d.map byteAV))).set l6 (.cells o.C)) := Hp.sub_trans h hsub
      by_cases c4 : o.n ≤ F.o.n
      · have e : nextF F d o g = (42, keepF F o) := by rw [nextF, if_neg (by simpa using c1), if_neg c2, if_neg (by simp [hr]), if_pos c4]
        rw [e]
        have h66 : mkv false 1 ((rfC (toR F)).drop 66) = .v (.bool F.fk.isSome) := by rw [rfC_66 hR]; rfl
        cases hk : F.fk with
        | some ab =>
          have ek : keepF F o = F := by unfold keepF; rw [hk]
          rw [ek]
          rw [hk, Option.isSome_some] at h66
          simp (dsimp := false) (implicitDefEqProofs := false) (maxSteps := 1000000) (disch := first | omega | assumption | (simp only [rL, Nat.reduceAdd]; done) | (simp only [rL, Nat.reduceAdd]; omega)) only [↓rD, rU, ev, ofConst, ofCell, ↓reduceIte, Nat.reduceEqDiff, Nat.reduceAdd, Nat.reduceSub, Nat.reduceMul, Nat.reduceLeDiff, Nat.reduceLT, Int.reduceNeg, Int.reduceToNat, Int.reduceAdd, Int.reduceSub, Int.reduceMul, Int.reduceLT, Int.reduceLE, Int.reduceEq, rX, dg_cells, dg_fold, List.drop_succ_cons, ↓rF, rG, ne_eq, not_true_eq_false, not_false_eq_true, Int.reduceNe, List.getElem?_cons_zero, List.getElem?_cons_succ, c4, hc, hl, hf, Hp.read_of hs, d5, d6, hw, h66]
          exact ⟨_, Hp.sub_refl, hbase⟩
        | none =>
          rw [hk, Option.isSome_none] at h66
          have k1 : RFw.ok ⟨F.o, F.st, true, toldF F, thenF F⟩ := ⟨hF.1, toldF_ok hF, thenF_ok hF⟩
          have k2 : RFw.ok ⟨F.o, F.st, true, o, thenF F⟩ := ⟨hF.1, ho, thenF_ok hF⟩
          have k3 : RFw.ok ⟨F.o, F.st, true, o, F.o⟩ := ⟨hF.1, ho, hF.1⟩
          have p1 : putAt (rfC (toR F)) 66 [.v (.bool true)] = rfC ⟨F.o, F.st, true, toldF F, thenF F⟩ := rfC_put66 hF.1
          have p2 : putAt (rfC ⟨F.o, F.st, true, toldF F, thenF F⟩) 67 o.C = rfC ⟨F.o, F.st, true, o, thenF F⟩ := rfC_put67 hF.1 (toldF_ok hF) ho
          have p3 : putAt (rfC ⟨F.o, F.st, true, o, thenF F⟩) 132 F.o.C = rfC ⟨F.o, F.st, true, o, F.o⟩ := rfC_put132 hF.1 ho (thenF_ok hF) hF.1
          have w1 := rfC_length k1
          have w2 := rfC_length k2
          have q2 := rfC_op k2
          have hlF := Opn.lenC hF.1
          have hcF := Opn.cells (o := F.o)
          simp only at q2
          have et : rfC (toR (keepF F o)) = rfC ⟨F.o, F.st, true, o, F.o⟩ := by unfold keepF; rw [hk]; rfl
          simp (dsimp := false) (implicitDefEqProofs := false) (maxSteps := 1000000) (disch := first | omega | assumption | (simp only [rL, Nat.reduceAdd]; done) | (simp only [rL, Nat.reduceAdd]; omega)) only [↓rD, rU, ev, ofConst, ofCell, ↓reduceIte, Nat.reduceEqDiff, Nat.reduceAdd, Nat.reduceSub, Nat.reduceMul, Nat.reduceLeDiff, Nat.reduceLT, Int.reduceNeg, Int.reduceToNat, Int.reduceAdd, Int.reduceSub, Int.reduceMul, Int.reduceLT, Int.reduceLE, Int.reduceEq, rX, dg_cells, dg_fold, List.drop_succ_cons, ↓rF, rG, ne_eq, not_true_eq_false, not_false_eq_true, Int.reduceNe, List.getElem?_cons_zero, List.getElem?_cons_succ, c4, hc, hl, hf, Hp.read_of hs, Hp.stA_of hs, d5, d6, hw, h66, p1, p2, p3, w1, w2, q2, hlF, hcF, Opn.fold', Ne.symm d5, Ne.symm d6]
          refine ⟨_, Hp.sub_refl, ?_⟩
          rw [RF, et]
          exact Hp.sub_set_of hbase
      · simp (dsimp := false) (implicitDefEqProofs := false) (maxSteps := 1000000) (disch := first | omega | assumption | (simp only [rL, Nat.reduceAdd]; done) | (simp only [rL, Nat.reduceAdd]; omega)) only [↓rD, rU, ev, ofConst, ofCell, ↓reduceIte, Nat.reduceEqDiff, Nat.reduceAdd, Nat.reduceSub, Nat.reduceMul, Nat.reduceLeDiff, Nat.reduceLT, Int.reduceNeg, Int.reduceToNat, Int.reduceAdd, Int.reduceSub, Int.reduceMul, Int.reduceLT, Int.reduceLE, Int.reduceEq, rX, dg_cells, dg_fold, List.drop_succ_cons, ↓rF, rG, ne_eq, not_true_eq_false, not_false_eq_true, Int.reduceNe, List.getElem?_cons_zero, List.getElem?_cons_succ, c4, hc, hl, hf, Hp.read_of hs, d6, d5, Opn.h32 ho, hh32, hm0, hw, dg_fold', Opn.m0, Nat.add_zero, d65, Ne.symm d65]
        refine call_intro (rgrows_spec F.o.h F.o.n o.h o.n g ow _ hF.1.1 ho.1 hg hgl) ?_
        rintro _ _ ⟨rfl, rfl⟩
        cases hG : growsF F.o.h F.o.n o.h o.n g
        · have e : nextF F d o g = (42, F) := by rw [nextF, if_neg (by simpa using c1), if_neg c2, if_neg (by simp [hr]), if_neg c4, if_pos hG]
          rw [e]
          simp (dsimp := false) (implicitDefEqProofs := false) (maxSteps := 1000000) (disch := first | omega | assumption | (simp only [rL, Nat.reduceAdd]; done) | (simp only [rL, Nat.reduceAdd]; omega)) only [↓rD, rU, ev, ofConst, ofCell, ↓reduceIte, Nat.reduceEqDiff, Nat.reduceAdd, Nat.reduceSub, Nat.reduceMul, Nat.reduceLeDiff, Nat.reduceLT, Int.reduceNeg, Int.reduceToNat, Int.reduceAdd, Int.reduceSub, Int.reduceMul, Int.reduceLT, Int.reduceLE, Int.reduceEq, rX, dg_cells, dg_fold, List.drop_succ_cons, ↓rF, rG, ne_eq, not_true_eq_false, not_false_eq_true, Int.reduceNe, List.getElem?_cons_zero, List.getElem?_cons_succ]
          exact ⟨_, Hp.sub_refl, hbase⟩
        · have e : nextF F d o g = (0, { F with o := o, st := F.st + 1 }) := by rw [nextF, if_neg (by simpa using c1), if_neg c2, if_neg (by simp [hr]), if_neg c4, if_neg (by simp [hG])]
          rw [e]
          have k1 : RFw.ok ⟨o, F.st, F.fk.isSome, toldF F, thenF F⟩ := ⟨ho, toldF_ok hF, thenF_ok hF⟩
          have p1 : putAt (rfC (toR F)) 0 o.C = rfC ⟨o, F.st, F.fk.isSome, toldF F, thenF F⟩ := rfC_put0 hF.1 ho
          have p2 : putAt (rfC ⟨o, F.st, F.fk.isSome, toldF F, thenF F⟩) 65 [.v (.int .i64 (F.st + 1))] = rfC ⟨o, F.st + 1, F.fk.isSome, toldF F, thenF F⟩ := rfC_put65 ho
          have w1 := rfC_length k1
          have q1 : mkv false 1 ((rfC ⟨o, F.st, F.fk.isSome, toldF F, thenF F⟩).drop 65) = .v (.int .i64 F.st) := by rw [rfC_65 k1]; rfl
          simp (dsimp := false) (implicitDefEqProofs := false) (maxSteps := 1000000) (disch := first | omega | assumption | (simp only [rL, Nat.reduceAdd]; done) | (simp only [rL, Nat.reduceAdd]; omega)) only [↓rD, rU, ev, ofConst, ofCell, ↓reduceIte, Nat.reduceEqDiff, Nat.reduceAdd, Nat.reduceSub, Nat.reduceMul, Nat.reduceLeDiff, Nat.reduceLT, Int.reduceNeg, Int.reduceToNat, Int.reduceAdd, Int.reduceSub, Int.reduceMul, Int.reduceLT, Int.reduceLE, Int.reduceEq, rX, dg_cells, dg_fold, List.drop_succ_cons, ↓rF, rG, ne_eq, not_true_eq_false, not_false_eq_true, Int.reduceNe, List.getElem?_cons_zero, List.getElem?_cons_succ, hc, hl, hf, Hp.read_of hs, Hp.stA_of hs, d6, d5, hw, d65, Ne.symm d65, p1, p2, w1, q1, Ne.symm d5, Ne.symm d6]
          exact ⟨_, Hp.sub_refl, Hp.sub_set_of hbase⟩
  · have e : nextF F d o g = (41, F) := by rw [nextF, if_pos c1]
    rw [e]
    simp (dsimp := false) (implicitDefEqProofs := false) (maxSteps := 1000000) (disch := first | omega | assumption | (simp only [rL, Nat.reduceAdd]; done) | (simp only [rL, Nat.reduceAdd]; omega)) only [↓rD, rU, ev, ofConst, ofCell, ↓reduceIte, Nat.reduceEqDiff, Nat.reduceAdd, Nat.reduceSub, Nat.reduceMul, Nat.reduceLeDiff, Nat.reduceLT, Int.reduceNeg, Int.reduceToNat, Int.reduceAdd, Int.reduceSub, Int.reduceMul, Int.reduceLT, Int.reduceLE, Int.reduceEq, rX, dg_cells, dg_fold, List.drop_succ_cons, ↓rF, rG, ne_eq, not_true_eq_false, not_false_eq_true, Int.reduceNe, List.getElem?_cons_zero, List.getElem?_cons_succ, c1]
    exact ⟨_, Hp.sub_refl, Hp.sub_trans h hsub⟩
end Go.Proofs.Ytapjikladjoicaa
/-
  The plain law of LightKeeps: what grew from a history and has another item at a place makes two unlike texts with one sum.
-/
set_option maxRecDepth 100000
namespace Go.Proofs.Ytapjikladjoicaa
open Go Go.Av

/-- two unlike texts that have one sum -/
def Cl (ts : List (List UInt8)) : Prop := ∃ a ∈ ts, ∃ b ∈ ts, sha256 a = sha256 b ∧ a ≠ b
theorem Cl.mono {a b : List (List UInt8)} (h : Cl a) (hs : ∀ t ∈ a, t ∈ b) : Cl b := by
  obtain ⟨x, hx, y, hy, h1, h2⟩ := h
  exact ⟨x, hs x hx, y, hs y hy, h1, h2⟩
theorem Cl.of {ts : List (List UInt8)} {a b : List UInt8} (ha : a ∈ ts) (hb : b ∈ ts) (h : sha256 a = sha256 b) (hn : a ≠ b) : Cl ts := ⟨a, ha, b, hb, h, hn⟩

theorem leafB_inj {a b : List UInt8} (ha : a.length = 32) (hb : b.length = 32) (h : leafB a = leafB b) : a = b := by
  simpa [leafB, preB, chunk, ha, hb] using h
theorem nodeB_inj {a b c d : List UInt8} (ha : a.length = 32) (hb : b.length = 32) (hc : c.length = 32) (hd : d.length = 32) (h : nodeB a b = nodeB c d) : a = c ∧ b = d := by
  simp only [nodeB, preB, chunk, ha, hb, hc, hd, List.flatMap_cons, List.flatMap_nil, List.append_nil, List.append_assoc, List.cons.injEq, true_and, List.append_cancel_left_eq] at h
  obtain ⟨h1, h2⟩ := List.append_inj h (by rw [ha, hc])
  exact ⟨h1, List.append_cancel_left h2⟩

theorem half_eq {m n : Nat} (h : half n < m) (h2 : m ≤ n) (hn : 2 ≤ n) : half m = half n := by
  have h3 : (m - 1).log2 = (n - 1).log2 := by
    have hk : 2 ^ (n - 1).log2 ≤ m - 1 := by unfold half at h; omega
    have hu : n - 1 < 2 ^ ((n - 1).log2 + 1) := Nat.lt_log2_self
    exact (Nat.log2_eq_iff (by have := Nat.pow_pos (n := (n - 1).log2) (show 0 < 2 by omega); omega)).2 ⟨hk, by omega⟩
  rw [half, half, h3]

theorem takeF_false {ds d1 : List (List UInt8)} {o : List UInt8} {lk : Bool} (h : takeF ds false = (o, d1, lk)) (hd : Digs ds) : o.length = 32 ∧ Digs d1 := by
  obtain ⟨t1, t2, _⟩ := takeF_digs (lk := false) hd
  rw [h] at t1 t2
  exact ⟨t1, t2⟩

theorem up_up : ∀ (N n i : Nat) (u v : List UInt8) (p q : List (List UInt8)), n = N → i < n → u.length = 32 → v.length = 32 → Digs p → Digs q → (upF n i u p).2.2.2 = false → (upF n i v q).2.2.2 = false →
    (upF n i u p).1 = (upF n i v q).1 → u ≠ v → Cl ((upF n i u p).2.2.1 ++ (upF n i v q).2.2.1) := by
  intro N
  induction N using Nat.strongRecOn with
  | _ N ih =>
  intro n i u v p q hN hi hu hv hp hq l1 l2 he hne
  by_cases h : n < 2
  · rw [upF_leaf h, upF_leaf h] at he ⊢
    exact Cl.of (a := leafB u) (b := leafB v) (by simp) (by simp) he fun hh => hne (leafB_inj hu hv hh)
  · generalize ht : takeF p false = tp at *
    obtain ⟨o1, p1, k1⟩ := tp
    generalize ht2 : takeF q false = tq at *
    obtain ⟨o2, q1, k2⟩ := tq
    obtain ⟨e1, e2⟩ := takeF_false ht hp
    obtain ⟨e3, e4⟩ := takeF_false ht2 hq
    cases k1 with
    | true => rw [upF_lack h ht] at l1; cases l1
    | false =>
    cases k2 with
    | true => rw [upF_lack h ht2] at l2; cases l2
    | false =>
    have hlt := half_lt n (by omega)
    have hpos := half_pos n
    by_cases hk : i < half n
    · rw [upF_left h ht hk] at l1 he ⊢
      rw [upF_left h ht2 hk] at l2 he ⊢
      simp only at l1 l2 he ⊢
      have g1 := (upF_ok _ (half n) i u p1 rfl e2).1
      have g2 := (upF_ok _ (half n) i v q1 rfl e4).1
      by_cases hx : (upF (half n) i u p1).1 = (upF (half n) i v q1).1
      · refine (ih (half n) (by omega) (half n) i u v p1 q1 rfl hk hu hv e2 e4 l1 l2 hx hne).mono ?_
        intro t ht; simp only [List.mem_append] at ht ⊢; rcases ht with ht | ht; exact .inl (.inl ht); exact .inr (.inl ht)
      · exact Cl.of (by simp) (by simp) he fun hh => hx (nodeB_inj g1 e1 g2 e3 hh).1
    · rw [upF_right h ht hk] at l1 he ⊢
      rw [upF_right h ht2 hk] at l2 he ⊢
      simp only at l1 l2 he ⊢
      have g1 := (upF_ok _ (n - half n) (i - half n) u p1 rfl e2).1
      have g2 := (upF_ok _ (n - half n) (i - half n) v q1 rfl e4).1
      by_cases hx : (upF (n - half n) (i - half n) u p1).1 = (upF (n - half n) (i - half n) v q1).1
      · refine (ih (n - half n) (by omega) (n - half n) (i - half n) u v p1 q1 rfl (by omega) hu hv e2 e4 l1 l2 hx hne).mono ?_
        intro t ht; simp only [List.mem_append] at ht ⊢; rcases ht with ht | ht; exact .inl (.inl ht); exact .inr (.inl ht)
      · exact Cl.of (by simp) (by simp) he fun hh => hx (nodeB_inj e1 g1 e3 g2 hh).2

theorem keep_up : ∀ (N : Nat) (a : List UInt8) (m n : Nat) (own : Bool) (g : List (List UInt8)) (i : Nat) (u v : List UInt8) (p q : List (List UInt8)), n = N → i < m → m ≤ n → a.length = 32 → Digs g → u.length = 32 → v.length = 32 → Digs p → Digs q →
    (bothF a m n own g).lk = false → (upF m i u p).2.2.2 = false → (upF n i v q).2.2.2 = false → (upF m i u p).1 = (bothF a m n own g).x → (upF n i v q).1 = (bothF a m n own g).y → u ≠ v →
    Cl ((upF m i u p).2.2.1 ++ (upF n i v q).2.2.1 ++ (bothF a m n own g).ts) := by
  intro N
  induction N using Nat.strongRecOn with
  | _ N ih =>
  intro a m n own g i u v p q hN him hmn ha hg hu hv hp hq l0 l1 l2 hx hy hne
  by_cases hmn0 : m = n ∧ own = true
  · obtain ⟨rfl, rfl⟩ := hmn0
    rw [bothF_own] at hx hy
    refine (up_up _ m i u v p q rfl him hu hv hp hq l1 l2 (hx.trans hy.symm) hne).mono ?_
    intro t ht; exact List.mem_append_left _ ht
  · generalize htg : takeF g false = tg at *
    obtain ⟨o0, g1, k0⟩ := tg
    obtain ⟨eo, eg⟩ := takeF_false htg hg
    by_cases h2 : k0 = true ∨ m = n
    · rw [bothF_end hmn0 htg h2] at l0 hx hy ⊢
      simp only at l0 hx hy
      subst l0
      have hm : m = n := by simpa using h2
      subst hm
      refine (up_up _ m i u v p q rfl him hu hv hp hq l1 l2 (hx.trans hy.symm) hne).mono ?_
      intro t ht; exact List.mem_append_left _ ht
    · have hk0 : k0 = false := by cases k0 <;> simp_all
      subst hk0
      have hmn' : m ≠ n := by omega
      have hn2 : ¬ n < 2 := by omega
      have hlt := half_lt n (by omega)
      have hpos := half_pos n
      generalize htq : takeF q false = tq at *
      obtain ⟨o2, q1, k2⟩ := tq
      obtain ⟨e3, e4⟩ := takeF_false htq hq
      cases k2 with
      | true => rw [upF_lack hn2 htq] at l2; cases l2
      | false =>
      by_cases hk : m ≤ half n
      · rw [bothF_left hmn' (by omega) htg hk] at l0 hx hy ⊢
        have hik : i < half n := by omega
        rw [upF_left hn2 htq hik] at l2 hy ⊢
        simp only at l0 l2 hx hy ⊢
        have gb := (bothF_ok _ a m (half n) own g1 rfl (by omega) hk ha eg).2.1
        have g2 := (upF_ok _ (half n) i v q1 rfl e4).1
        by_cases he : (upF (half n) i v q1).1 = (bothF a m (half n) own g1).y
        · refine (ih (half n) (by omega) a m (half n) own g1 i u v p q1 rfl him hk ha eg hu hv hp e4 l0 l1 l2 hx he hne).mono ?_
          intro t ht; simp only [List.mem_append] at ht ⊢
          rcases ht with (ht | ht) | ht
          · exact .inl (.inl ht)
          · exact .inl (.inr (.inl ht))
          · exact .inr (.inl ht)
        · exact Cl.of (by simp) (by simp) hy fun hh => he (nodeB_inj g2 e3 gb eo hh).1
      · have hhm : half m = half n := half_eq (by omega) hmn (by omega)
        have hm2 : ¬ m < 2 := by omega
        rw [bothF_right hmn' (by omega) htg hk] at l0 hx hy ⊢
        generalize htp : takeF p false = tp at *
        obtain ⟨o1, p1, k1⟩ := tp
        obtain ⟨e1, e2⟩ := takeF_false htp hp
        cases k1 with
        | true => rw [upF_lack hm2 htp] at l1; cases l1
        | false =>
        simp only at l0 hx hy ⊢
        obtain ⟨gx, gy, _⟩ := bothF_ok _ a (m - half n) (n - half n) false g1 rfl (by omega) (by omega) ha eg
        by_cases hik : i < half n
        · rw [upF_left hm2 htp (by omega), hhm] at l1 hx ⊢
          rw [upF_left hn2 htq hik] at l2 hy ⊢
          simp only at l1 l2 hx hy ⊢
          have ga := (upF_ok _ (half n) i u p1 rfl e2).1
          have gb := (upF_ok _ (half n) i v q1 rfl e4).1
          by_cases h1 : (upF (half n) i u p1).1 = o0
          · by_cases h3 : (upF (half n) i v q1).1 = o0
            · refine (up_up _ (half n) i u v p1 q1 rfl hik hu hv e2 e4 l1 l2 (h1.trans h3.symm) hne).mono ?_
              intro t ht; simp only [List.mem_append] at ht ⊢
              rcases ht with ht | ht
              · exact .inl (.inl (.inl ht))
              · exact .inl (.inr (.inl ht))
            · exact Cl.of (by simp) (by simp) hy fun hh => h3 (nodeB_inj gb e3 eo gy hh).1
          · exact Cl.of (by simp) (by simp) hx fun hh => h1 (nodeB_inj ga e1 eo gx hh).1
        · rw [upF_right hm2 htp (by omega), hhm] at l1 hx ⊢
          rw [upF_right hn2 htq hik] at l2 hy ⊢
          simp only at l1 l2 hx hy ⊢
          have ga := (upF_ok _ (m - half n) (i - half n) u p1 rfl e2).1
          have gb := (upF_ok _ (n - half n) (i - half n) v q1 rfl e4).1
          by_cases h1 : (upF (m - half n) (i - half n) u p1).1 = (bothF a (m - half n) (n - half n) false g1).x
          · by_cases h3 : (upF (n - half n) (i - half n) v q1).1 = (bothF a (m - half n) (n - half n) false g1).y
            · refine (ih (n - half n) (by omega) a (m - half n) (n - half n) false g1 (i - half n) u v p1 q1 rfl (by omega) (by omega) ha eg hu hv e2 e4 l0 l1 l2 h1 h3 hne).mono ?_
              intro t ht; simp only [List.mem_append] at ht ⊢
              rcases ht with (ht | ht) | ht
              · exact .inl (.inl (.inl ht))
              · exact .inl (.inr (.inl ht))
              · exact .inr (.inl ht)
            · exact Cl.of (by simp) (by simp) hy fun hh => h3 (nodeB_inj e3 gb eo gy hh).2
          · exact Cl.of (by simp) (by simp) hx fun hh => h1 (nodeB_inj e1 ga eo gx hh).2

theorem takeF_snoc {ds : List (List UInt8)} {d : List UInt8} : takeF (ds ++ [d]) false = (d, ds, false) := by simp [takeF]

/-- a path's own sums make the root -/
theorem path_up : ∀ (N : Nat) (l : List (List UInt8)) (i : Nat) (ds : List (List UInt8)), l.length = N → i < l.length →
    (upF l.length i (l.getD i zd) (ds ++ pathD l i)).1 = rootD l ∧ (upF l.length i (l.getD i zd) (ds ++ pathD l i)).2.1 = ds ∧ (upF l.length i (l.getD i zd) (ds ++ pathD l i)).2.2.2 = false := by
  intro N
  induction N using Nat.strongRecOn with
  | _ N ih =>
  intro l i ds hN hi
  by_cases h : l.length < 2
  · rw [upF_leaf h, pathD_leaf h]
    match l, h, hi with
    | [d], _, hi =>
      have : i = 0 := by simpa using hi
      subst this
      exact ⟨(rootD_one d).symm, by simp, rfl⟩
  · have hlt := half_lt l.length (by omega)
    have hpos := half_pos l.length
    by_cases hk : i < half l.length
    · rw [pathD_left h hk, ← List.append_assoc, upF_left h takeF_snoc hk]
      have hl : (l.take (half l.length)).length = half l.length := by simp; omega
      have hg : (l.take (half l.length)).getD i zd = l.getD i zd := by simp [List.getD, hk]
      obtain ⟨a1, a2, a3⟩ := ih (half l.length) (by omega) (l.take (half l.length)) i ds hl (by omega)
      rw [hl, hg] at a1 a2 a3
      exact ⟨by simp only [a1]; exact (rootD_node l (by omega)).symm, a2, a3⟩
    · rw [pathD_right h hk, ← List.append_assoc, upF_right h takeF_snoc hk]
      have hl : (l.drop (half l.length)).length = l.length - half l.length := by simp
      have hg : (l.drop (half l.length)).getD (i - half l.length) zd = l.getD i zd := by
        simp only [List.getD, List.getElem?_drop]; rw [show half l.length + (i - half l.length) = i by omega]
      obtain ⟨a1, a2, a3⟩ := ih (l.length - half l.length) (by omega) (l.drop (half l.length)) (i - half l.length) ds hl (by omega)
      rw [hl, hg] at a1 a2 a3
      exact ⟨by simp only [a1]; exact (rootD_node l (by omega)).symm, a2, a3⟩

/-- the honest growth is taken -/
theorem grow_both : ∀ (N : Nat) (a : List UInt8) (l : List (List UInt8)) (m : Nat) (own : Bool) (ds : List (List UInt8)), l.length = N → 1 ≤ m → m ≤ l.length → (own = true → a = rootD (l.take m)) →
    (bothF a m l.length own (ds ++ restD l m own)).x = rootD (l.take m) ∧ (bothF a m l.length own (ds ++ restD l m own)).y = rootD l ∧ (bothF a m l.length own (ds ++ restD l m own)).ds = ds ∧ (bothF a m l.length own (ds ++ restD l m own)).lk = false := by
  intro N
  induction N using Nat.strongRecOn with
  | _ N ih =>
  intro a l m own ds hN h1 hm ha
  by_cases hml : m = l.length
  · subst hml
    cases own with
    | true => rw [restD_own rfl, bothF_own, ha rfl, List.take_of_length_le (Nat.le_refl _)]; exact ⟨rfl, rfl, by simp, rfl⟩
    | false => rw [restD_all rfl, bothF_end (by simp) takeF_snoc (.inr rfl), List.take_of_length_le (Nat.le_refl _)]; exact ⟨rfl, rfl, rfl, rfl⟩
  · have hlt := half_lt l.length (by omega)
    have hpos := half_pos l.length
    have hr : ¬ (l.length < 2 ∨ m = l.length) := by omega
    by_cases hk : m ≤ half l.length
    · rw [restD_left hr hk, ← List.append_assoc, bothF_left hml (by omega) takeF_snoc hk]
      have hl : (l.take (half l.length)).length = half l.length := by simp; omega
      have ht : (l.take (half l.length)).take m = l.take m := by rw [List.take_take, Nat.min_eq_left hk]
      obtain ⟨a1, a2, a3, a4⟩ := ih (half l.length) (by omega) a (l.take (half l.length)) m own ds hl h1 (by omega) (by rw [ht]; exact ha)
      rw [hl] at a1 a2 a3 a4
      rw [ht] at a1
      exact ⟨a1, by simp only [a2]; exact (rootD_node l (by omega)).symm, a3, a4⟩
    · rw [restD_right hr hk, ← List.append_assoc, bothF_right hml (by omega) takeF_snoc hk]
      have hl : (l.drop (half l.length)).length = l.length - half l.length := by simp
      obtain ⟨a1, a2, a3, a4⟩ := ih (l.length - half l.length) (by omega) a (l.drop (half l.length)) (m - half l.length) false ds hl (by omega) (by omega) (by simp)
      rw [hl] at a1 a2 a3 a4
      have hhm : half m = half l.length := half_eq (by omega) hm (by omega)
      have htl : (l.take m).length = m := by simp; omega
      have e1 : (l.take m).take (half m) = l.take (half l.length) := by rw [List.take_take, hhm, Nat.min_eq_left (by omega)]
      have e2 : (l.take m).drop (half m) = (l.drop (half l.length)).take (m - half l.length) := by rw [hhm, List.drop_take]
      have er := rootD_node (l.take m) (by omega)
      rw [htl, e1, e2] at er
      exact ⟨by simp only [a1]; exact er.symm, by simp only [a2]; exact (rootD_node l (by omega)).symm, a3, a4⟩
end Go.Proofs.Ytapjikladjoicaa
/-
  The document's example in numbers: the digests of two small openings are unlike.
-/
set_option maxRecDepth 100000
namespace Go.Proofs.Ytapjikladjoicaa
open Go Go.Av

def exD (b : UInt8) : List UInt8 := b :: List.replicate 31 0
def exL : List (List UInt8) := [exD 1, exD 2, exD 3]
theorem exL_digs : Digs exL := by
  intro d hd; simp only [exL, List.mem_cons, List.not_mem_nil, or_false] at hd
  rcases hd with rfl | rfl | rfl <;> rfl
def exA : Opn := ⟨1, rootD [exD 1], exD 1⟩
def exB : Opn := ⟨3, rootD exL, exD 3⟩
theorem exA_ok : exA.ok := ⟨rootD_length _, rfl⟩
theorem exB_ok : exB.ok := ⟨rootD_length _, rfl⟩
theorem half2 : half 2 = 1 := by decide
theorem half3 : half 3 = 2 := by decide
theorem root_exL : rootD exL = sha256 (nodeB (sha256 (nodeB (sha256 (leafB (exD 1))) (sha256 (leafB (exD 2))))) (sha256 (leafB (exD 3)))) := by
  rw [rootD_node exL (by simp [exL])]
  have e : half exL.length = 2 := half3
  rw [e]
  have e1 : exL.take 2 = [exD 1, exD 2] := rfl
  have e2 : exL.drop 2 = [exD 3] := rfl
  rw [e1, e2, rootD_one, rootD_node [exD 1, exD 2] (by simp)]
  have e3 : half [exD 1, exD 2].length = 1 := half2
  rw [e3]
  have e4 : [exD 1, exD 2].take 1 = [exD 1] := rfl
  have e5 : [exD 1, exD 2].drop 1 = [exD 2] := rfl
  rw [e4, e5, rootD_one, rootD_one]
theorem ex_ne' : sha256 (digPre 1 (sha256 (leafB (exD 1))) (exD 1)) ≠ sha256 (digPre 3 (sha256 (nodeB (sha256 (nodeB (sha256 (leafB (exD 1))) (sha256 (leafB (exD 2))))) (sha256 (leafB (exD 3))))) (exD 3)) := by
  decide +kernel
theorem ex_ne : exA.sum ≠ exB.sum := by
  unfold Opn.sum exA exB
  simp only
  rw [rootD_one, root_exL]
  exact ex_ne'
theorem ex_grows : growsF exA.h exA.n exB.h exB.n (restD exL 1 true) = true := by
  have h := grow_both _ (rootD [exD 1]) exL 1 true [] rfl (by omega) (by simp [exL]) (fun _ => rfl)
  obtain ⟨h1, h2, h3, h4⟩ := h
  have e1 : exL.take 1 = [exD 1] := rfl
  have e2 : exL.length = 3 := rfl
  rw [List.nil_append, e2] at h1 h2 h3 h4
  rw [e1] at h1
  have ea : exA.n = 1 := rfl
  have eb : exB.n = 3 := rfl
  have eh : exA.h = rootD [exD 1] := rfl
  have eh' : exB.h = rootD exL := rfl
  rw [growsF, ea, eb, eh, eh', if_neg (by omega), if_neg (by omega), show (1 : Int).toNat = 1 from rfl, show (3 : Int).toNat = 3 from rfl, h1, h2, h3, h4]
  simp
end Go.Proofs.Ytapjikladjoicaa
set_option maxRecDepth 100000
namespace Go.Proofs.Ytapjikladjoicaa
open Go Go.Av

theorem exD_cells (b : UInt8) : putAt (List.replicate 32 (AV.v (Value.int IntKind.u8 0))) 0 [AV.v (Value.int IntKind.u8 b.toNat)] = (exD b).map byteAV := rfl
theorem exA_V : OPV 1 (rootD (exL.take 1)) (headD exL 1) = exA.V := rfl
theorem exB_V : OPV 3 (rootD (exL.take 3)) (headD exL 3) = exB.V := rfl
theorem fitR_op {o : Opn} (h : o.ok) : fitR [(1, .int .i64), (64, .int .u8)] o.C := by
  have hl := Opn.lenC h
  refine ⟨by omega, ?_, ?_, ?_, ?_⟩
  · intro c hc
    simp only [Opn.C, opC, List.take_succ_cons, List.take_zero, List.mem_singleton] at hc
    subst hc; rfl
  · simp [hl]
  · intro c hc
    have hc := List.mem_of_mem_take hc
    simp only [Opn.C, opC, List.drop_succ_cons, List.drop_zero, List.mem_append, List.mem_map] at hc
    rcases hc with ⟨x, _, rfl⟩ | ⟨x, _, rfl⟩ <;> rfl
  · show List.drop 64 (List.drop 1 o.C) = []
    apply List.drop_of_length_le; simp [hl]
theorem opV_inj {a b : Opn} (ha : a.ok) (hb : b.ok) (h : a.V = b.V) : a = b := by
  obtain ⟨n, x, y⟩ := a
  obtain ⟨m, u, v⟩ := b
  simp only [Opn.V, OPV, opC, AV.agg.injEq, List.cons.injEq] at h
  obtain ⟨h1, h2⟩ := h
  have h1 : n = m := by simpa using h1
  obtain ⟨h3, h4⟩ := List.append_inj h2 (by simp [ha.1, hb.1])
  have e1 : x = u := dg_inj (by rw [dg, dg, h3])
  have e2 : y = v := dg_inj (by rw [dg, dg, h4])
  rw [h1, e1, e2]
theorem eqvK_op {neg : Bool} {a b : Opn} {C : AV → Prop} (ha : a.ok) (hb : b.ok) : eqvK neg [(1, .int .i64), (64, .int .u8)] a.V b.V C = C (.v (.bool (xor neg (decide (a = b))))) := by
  have h1 := fitR_op ha
  have h2 := fitR_op hb
  show (fitR _ _ ∧ fitR _ _ ∧ C (.v (.bool (xor neg (peq a.V b.V))))) = _
  have e : peq a.V b.V = decide (a = b) := by
    by_cases h : a = b
    · subst h; simp [peq_self]
    · have : ¬ peq a.V b.V = true := fun hh => h (opV_inj ha hb ((peq_iff _ _).1 hh))
      simp [h, this]
  rw [e]
  simp only [h1, h2, true_and, Opn.C] at *
  simp [h1, h2]

theorem alive_spec (s : Hp) : AC Try.prog 6 [] s fun r s' => s' = s ∧ r = .v (.bool true) := by
  refine AC_run hm prep6 (by simp) ?_
  have c1 := exD_cells 1
  have c2 := exD_cells 2
  have c3 := exD_cells 3
  have k1 : ((1 : UInt8).toNat : Int) = 1 := rfl
  have k2 : ((2 : UInt8).toNat : Int) = 2 := rfl
  have k3 : ((3 : UInt8).toNat : Int) = 3 := rfl
  rw [k1] at c1; rw [k2] at c2; rw [k3] at c3
  rw [zo_C]
  have z0 : zo.C.length = 65 := rfl
  simp (dsimp := false) (implicitDefEqProofs := false) (maxSteps := 1000000) (disch := first | omega | assumption | (simp only [rL, Nat.reduceAdd]; done) | (simp only [rL, Nat.reduceAdd]; omega)) only [↓rD, rU, ev, ofConst, ofCell, ↓reduceIte, Nat.reduceEqDiff, Nat.reduceAdd, Nat.reduceSub, Nat.reduceMul, Nat.reduceLeDiff, Nat.reduceLT, Int.reduceNeg, Int.reduceToNat, Int.reduceAdd, Int.reduceSub, Int.reduceMul, Int.reduceLT, Int.reduceLE, Int.reduceEq, rX, dg_cells, dg_fold, List.drop_succ_cons, ↓rF, rG, ne_eq, not_true_eq_false, not_false_eq_true, Int.reduceNe, List.getElem?_cons_zero, List.getElem?_cons_succ, c1, c2, c3, dg_fold']
  refine bsl_own Hp.sub_refl (show allLen 32 (exL.map dg) from exL_digs.all) fun o1 s1 h1 => ?_
  have h1 : Owned s s1 32 (exL.map dg) o1 := h1
  simp (dsimp := false) (implicitDefEqProofs := false) (maxSteps := 1000000) (disch := first | omega | assumption | (simp only [rL, Nat.reduceAdd]; done) | (simp only [rL, Nat.reduceAdd]; omega)) only [↓rD, rU, ev, ofConst, ofCell, ↓reduceIte, Nat.reduceEqDiff, Nat.reduceAdd, Nat.reduceSub, Nat.reduceMul, Nat.reduceLeDiff, Nat.reduceLT, Int.reduceNeg, Int.reduceToNat, Int.reduceAdd, Int.reduceSub, Int.reduceMul, Int.reduceLT, Int.reduceLE, Int.reduceEq, rX, dg_cells, dg_fold, List.drop_succ_cons, ↓rF, rG, ne_eq, not_true_eq_false, not_false_eq_true, Int.reduceNe, List.getElem?_cons_zero, List.getElem?_cons_succ]
  refine call_intro (opened_spec exL 1 o1 s1 (by simp [exL]) (by simp [exL]) exL_digs) ?_
  rintro _ s1 ⟨rfl, rfl⟩
  simp (dsimp := false) (implicitDefEqProofs := false) (maxSteps := 1000000) (disch := first | omega | assumption | (simp only [rL, Nat.reduceAdd]; done) | (simp only [rL, Nat.reduceAdd]; omega)) only [↓rD, rU, ev, ofConst, ofCell, ↓reduceIte, Nat.reduceEqDiff, Nat.reduceAdd, Nat.reduceSub, Nat.reduceMul, Nat.reduceLeDiff, Nat.reduceLT, Int.reduceNeg, Int.reduceToNat, Int.reduceAdd, Int.reduceSub, Int.reduceMul, Int.reduceLT, Int.reduceLE, Int.reduceEq, rX, dg_cells, dg_fold, List.drop_succ_cons, ↓rF, rG, ne_eq, not_true_eq_false, not_false_eq_true, Int.reduceNe, List.getElem?_cons_zero, List.getElem?_cons_succ]
  refine call_intro (opened_spec exL 3 o1 s1 (by simp [exL]) (by simp [exL]) exL_digs) ?_
  rintro _ s1 ⟨rfl, rfl⟩
  have hA := Opn.lenC exA_ok
  have hB := Opn.lenC exB_ok
  have kA := Opn.cells (o := exA)
  have kB := Opn.cells (o := exB)
  rw [show ((1 : Nat) : Int) = 1 from rfl, show ((3 : Nat) : Int) = 3 from rfl, exA_V, exB_V]
  have fA := Opn.fold exA_ok
  have fB := Opn.fold exB_ok
  simp (dsimp := false) (implicitDefEqProofs := false) (maxSteps := 1000000) (disch := first | omega | assumption | (simp only [rL, Nat.reduceAdd]; done) | (simp only [rL, Nat.reduceAdd]; omega)) only [↓rD, rU, ev, ofConst, ofCell, ↓reduceIte, Nat.reduceEqDiff, Nat.reduceAdd, Nat.reduceSub, Nat.reduceMul, Nat.reduceLeDiff, Nat.reduceLT, Int.reduceNeg, Int.reduceToNat, Int.reduceAdd, Int.reduceSub, Int.reduceMul, Int.reduceLT, Int.reduceLE, Int.reduceEq, rX, dg_cells, dg_fold, List.drop_succ_cons, ↓rF, rG, ne_eq, not_true_eq_false, not_false_eq_true, Int.reduceNe, List.getElem?_cons_zero, List.getElem?_cons_succ, z0]
  refine newK_intro fun l2 n2 => ?_
  simp (dsimp := false) (implicitDefEqProofs := false) (maxSteps := 1000000) (disch := first | omega | assumption | (simp only [rL, Nat.reduceAdd]; done) | (simp only [rL, Nat.reduceAdd]; omega)) only [↓rD, rU, ev, ofConst, ofCell, ↓reduceIte, Nat.reduceEqDiff, Nat.reduceAdd, Nat.reduceSub, Nat.reduceMul, Nat.reduceLeDiff, Nat.reduceLT, Int.reduceNeg, Int.reduceToNat, Int.reduceAdd, Int.reduceSub, Int.reduceMul, Int.reduceLT, Int.reduceLE, Int.reduceEq, rX, dg_cells, dg_fold, List.drop_succ_cons, ↓rF, rG, ne_eq, not_true_eq_false, not_false_eq_true, Int.reduceNe, List.getElem?_cons_zero, List.getElem?_cons_succ, z0]
  refine newK_intro fun l3 n3 => ?_
  obtain ⟨d32, n3⟩ := Hp.set_none n3
  have hb : s.sub ((s1.set l2 (.cells exA.C)).set l3 (.cells exB.C)) := Hp.sub_trans h1.sub (Hp.sub_new (Hp.sub_new Hp.sub_refl n2) n3)
  simp (dsimp := false) (implicitDefEqProofs := false) (maxSteps := 1000000) (disch := first | omega | assumption | (simp only [rL, Nat.reduceAdd]; done) | (simp only [rL, Nat.reduceAdd]; omega)) only [↓rD, rU, ev, ofConst, ofCell, ↓reduceIte, Nat.reduceEqDiff, Nat.reduceAdd, Nat.reduceSub, Nat.reduceMul, Nat.reduceLeDiff, Nat.reduceLT, Int.reduceNeg, Int.reduceToNat, Int.reduceAdd, Int.reduceSub, Int.reduceMul, Int.reduceLT, Int.reduceLE, Int.reduceEq, rX, dg_cells, dg_fold, List.drop_succ_cons, ↓rF, rG, ne_eq, not_true_eq_false, not_false_eq_true, Int.reduceNe, List.getElem?_cons_zero, List.getElem?_cons_succ, kA, kB, hA, hB, fA, fB, z0, d32, Ne.symm d32]
  refine call_intro (lsum_spec exA.n exA.h exA.d exA_ok.1 exA_ok.2 _) ?_
  rintro _ _ ⟨rfl, rfl⟩
  have eA : sha256 (digPre exA.n exA.h exA.d) = exA.sum := rfl
  have eB : sha256 (digPre exB.n exB.h exB.d) = exB.sum := rfl
  have qA : exA.sum.length = 32 := sha256_length _
  have qB : exB.sum.length = 32 := sha256_length _
  rw [eA]
  simp (dsimp := false) (implicitDefEqProofs := false) (maxSteps := 1000000) (disch := first | omega | assumption | (simp only [rL, Nat.reduceAdd]; done) | (simp only [rL, Nat.reduceAdd]; omega)) only [↓rD, rU, ev, ofConst, ofCell, ↓reduceIte, Nat.reduceEqDiff, Nat.reduceAdd, Nat.reduceSub, Nat.reduceMul, Nat.reduceLeDiff, Nat.reduceLT, Int.reduceNeg, Int.reduceToNat, Int.reduceAdd, Int.reduceSub, Int.reduceMul, Int.reduceLT, Int.reduceLE, Int.reduceEq, rX, dg_cells, dg_fold, List.drop_succ_cons, ↓rF, rG, ne_eq, not_true_eq_false, not_false_eq_true, Int.reduceNe, List.getElem?_cons_zero, List.getElem?_cons_succ, kA, kB, hA, hB, fA, fB, d32, Ne.symm d32]
  refine call_intro (Follow_spec exA.sum exA qA exA_ok _) ?_
  intro r s2 h2
  rw [if_neg (by simp), if_neg (by decide)] at h2
  obtain ⟨l, nl, rfl, rfl⟩ := h2
  obtain ⟨e3, nl'⟩ := Hp.set_none nl
  obtain ⟨e2, nl'⟩ := Hp.set_none nl'
  generalize hG : (s1.set l2 (.cells exA.C)).set l3 (.cells exB.C) = G at *
  have g2 : G l2 = some (.cells exA.C) := by rw [← hG, Hp.set_ne _ _ (Ne.symm d32)]; exact Hp.set_same _ _ _
  have g3 : G l3 = some (.cells exB.C) := by rw [← hG]; exact Hp.set_same _ _ _
  have hF : FS G l ⟨exA, 0, none⟩ (G.set l (.cells (fwC exA 0 (.v (.pointer none))))) := Hp.sub_refl
  simp (dsimp := false) (implicitDefEqProofs := false) (maxSteps := 1000000) (disch := first | omega | assumption | (simp only [rL, Nat.reduceAdd]; done) | (simp only [rL, Nat.reduceAdd]; omega)) only [↓rD, rU, ev, ofConst, ofCell, ↓reduceIte, Nat.reduceEqDiff, Nat.reduceAdd, Nat.reduceSub, Nat.reduceMul, Nat.reduceLeDiff, Nat.reduceLT, Int.reduceNeg, Int.reduceToNat, Int.reduceAdd, Int.reduceSub, Int.reduceMul, Int.reduceLT, Int.reduceLE, Int.reduceEq, rX, dg_cells, dg_fold, List.drop_succ_cons, ↓rF, rG, ne_eq, not_true_eq_false, not_false_eq_true, Int.reduceNe, List.getElem?_cons_zero, List.getElem?_cons_succ]
  have hg1 : Owned s s1 32 (exL.map dg) o1 := h1
  refine call_intro (Growth_spec exL 1 o1 _ (by simp [exL]) (by omega) (by simp [exL]) exL_digs) ?_
  rintro _ s3 ⟨o2, h3, rfl⟩
  have hF3 := hF.mono h3.sub
  have g2' := hF3.sub nl _ _ g2
  have g3' := hF3.sub nl _ _ g3
  have hgd := (restD_ok _ exL 1 true rfl).1
  have hgl := (restD_ok _ exL 1 true rfl).2
  have hgr := ex_grows
  generalize restD exL 1 true = gr at *
  simp (dsimp := false) (implicitDefEqProofs := false) (maxSteps := 1000000) (disch := first | omega | assumption | (simp only [rL, Nat.reduceAdd]; done) | (simp only [rL, Nat.reduceAdd]; omega)) only [↓rD, rU, ev, ofConst, ofCell, ↓reduceIte, Nat.reduceEqDiff, Nat.reduceAdd, Nat.reduceSub, Nat.reduceMul, Nat.reduceLeDiff, Nat.reduceLT, Int.reduceNeg, Int.reduceToNat, Int.reduceAdd, Int.reduceSub, Int.reduceMul, Int.reduceLT, Int.reduceLE, Int.reduceEq, rX, dg_cells, dg_fold, List.drop_succ_cons, ↓rF, rG, ne_eq, not_true_eq_false, not_false_eq_true, Int.reduceNe, List.getElem?_cons_zero, List.getElem?_cons_succ, Hp.read_of g3', hB, fB]
  refine call_intro (lsum_spec exB.n exB.h exB.d exB_ok.1 exB_ok.2 _) ?_
  rintro _ s3 ⟨rfl, rfl⟩
  rw [eB]
  simp (dsimp := false) (implicitDefEqProofs := false) (maxSteps := 1000000) (disch := first | omega | assumption | (simp only [rL, Nat.reduceAdd]; done) | (simp only [rL, Nat.reduceAdd]; omega)) only [↓rD, rU, ev, ofConst, ofCell, ↓reduceIte, Nat.reduceEqDiff, Nat.reduceAdd, Nat.reduceSub, Nat.reduceMul, Nat.reduceLeDiff, Nat.reduceLT, Int.reduceNeg, Int.reduceToNat, Int.reduceAdd, Int.reduceSub, Int.reduceMul, Int.reduceLT, Int.reduceLE, Int.reduceEq, rX, dg_cells, dg_fold, List.drop_succ_cons, ↓rF, rG, ne_eq, not_true_eq_false, not_false_eq_true, Int.reduceNe, List.getElem?_cons_zero, List.getElem?_cons_succ, Hp.read_of g3', hB, fB]
  refine call_intro (Next_spec G s3 l ⟨exA, 0, none⟩ exB.sum exB gr o2 qB exA_ok exB_ok hgd (by simp [exL] at hgl; omega) (by simp) nl hF3) ?_
  rintro _ s4 ⟨rfl, hF4⟩
  have hn1 : nextF ⟨exA, 0, none⟩ exB.sum exB gr = (0, ⟨exB, 1, none⟩) := by
    rw [nextF, if_neg (by simp), if_neg (fun h => ex_ne h.symm), if_neg (by decide), if_neg (by decide), if_neg (by simp [hgr])]
    rfl
  rw [hn1] at hF4 ⊢
  simp only at hF4 ⊢
  have g2'' := hF4.sub nl _ _ g2
  simp (dsimp := false) (implicitDefEqProofs := false) (maxSteps := 1000000) (disch := first | omega | assumption | (simp only [rL, Nat.reduceAdd]; done) | (simp only [rL, Nat.reduceAdd]; omega)) only [↓rD, rU, ev, ofConst, ofCell, ↓reduceIte, Nat.reduceEqDiff, Nat.reduceAdd, Nat.reduceSub, Nat.reduceMul, Nat.reduceLeDiff, Nat.reduceLT, Int.reduceNeg, Int.reduceToNat, Int.reduceAdd, Int.reduceSub, Int.reduceMul, Int.reduceLT, Int.reduceLE, Int.reduceEq, rX, dg_cells, dg_fold, List.drop_succ_cons, ↓rF, rG, ne_eq, not_true_eq_false, not_false_eq_true, Int.reduceNe, List.getElem?_cons_zero, List.getElem?_cons_succ, Hp.read_of g2'', hA, fA]
  refine call_intro (lsum_spec exA.n exA.h exA.d exA_ok.1 exA_ok.2 _) ?_
  rintro _ s4 ⟨rfl, rfl⟩
  rw [eA]
  simp (dsimp := false) (implicitDefEqProofs := false) (maxSteps := 1000000) (disch := first | omega | assumption | (simp only [rL, Nat.reduceAdd]; done) | (simp only [rL, Nat.reduceAdd]; omega)) only [↓rD, rU, ev, ofConst, ofCell, ↓reduceIte, Nat.reduceEqDiff, Nat.reduceAdd, Nat.reduceSub, Nat.reduceMul, Nat.reduceLeDiff, Nat.reduceLT, Int.reduceNeg, Int.reduceToNat, Int.reduceAdd, Int.reduceSub, Int.reduceMul, Int.reduceLT, Int.reduceLE, Int.reduceEq, rX, dg_cells, dg_fold, List.drop_succ_cons, ↓rF, rG, ne_eq, not_true_eq_false, not_false_eq_true, Int.reduceNe, List.getElem?_cons_zero, List.getElem?_cons_succ, Hp.read_of g2'', hA, fA]
  refine call_intro (Next_spec G s4 l ⟨exB, 1, none⟩ exA.sum exA [] .nil qA exB_ok exA_ok (by intro d hd; cases hd) (by simp) (by simp) nl hF4) ?_
  rintro _ s5 ⟨rfl, hF5⟩
  have hn2 : nextF ⟨exB, 1, none⟩ exA.sum exA [] = (42, ⟨exB, 1, some (exA, exB)⟩) := by
    rw [nextF, if_neg (by simp), if_neg (fun h => ex_ne h), if_neg (by decide), if_pos (by decide)]
    rfl
  rw [hn2] at hF5 ⊢
  simp only at hF5 ⊢
  have g2 := hF5.sub nl _ _ g2
  have g3 := hF5.sub nl _ _ g3
  simp (dsimp := false) (implicitDefEqProofs := false) (maxSteps := 1000000) (disch := first | omega | assumption | (simp only [rL, Nat.reduceAdd]; done) | (simp only [rL, Nat.reduceAdd]; omega)) only [↓rD, rU, ev, ofConst, ofCell, ↓reduceIte, Nat.reduceEqDiff, Nat.reduceAdd, Nat.reduceSub, Nat.reduceMul, Nat.reduceLeDiff, Nat.reduceLT, Int.reduceNeg, Int.reduceToNat, Int.reduceAdd, Int.reduceSub, Int.reduceMul, Int.reduceLT, Int.reduceLE, Int.reduceEq, rX, dg_cells, dg_fold, List.drop_succ_cons, ↓rF, rG, ne_eq, not_true_eq_false, not_false_eq_true, Int.reduceNe, List.getElem?_cons_zero, List.getElem?_cons_succ]
  refine call_intro (Fork_spec G s5 l ⟨exB, 1, some (exA, exB)⟩ ⟨exB_ok, by rintro a b h; cases h; exact ⟨exA_ok, exB_ok⟩⟩ hF5) ?_
  rintro _ s5 ⟨rfl, rfl⟩
  have t1 : toldF ⟨exB, 1, some (exA, exB)⟩ = exA := rfl
  have t2 : thenF ⟨exB, 1, some (exA, exB)⟩ = exB := rfl
  rw [t1, t2]
  simp only [Option.isSome_some]
  simp (dsimp := false) (implicitDefEqProofs := false) (maxSteps := 1000000) (disch := first | omega | assumption | (simp only [rL, Nat.reduceAdd]; done) | (simp only [rL, Nat.reduceAdd]; omega)) only [↓rD, rU, ev, ofConst, ofCell, ↓reduceIte, Nat.reduceEqDiff, Nat.reduceAdd, Nat.reduceSub, Nat.reduceMul, Nat.reduceLeDiff, Nat.reduceLT, Int.reduceNeg, Int.reduceToNat, Int.reduceAdd, Int.reduceSub, Int.reduceMul, Int.reduceLT, Int.reduceLE, Int.reduceEq, rX, dg_cells, dg_fold, List.drop_succ_cons, ↓rF, rG, ne_eq, not_true_eq_false, not_false_eq_true, Int.reduceNe, List.getElem?_cons_zero, List.getElem?_cons_succ, z0]
  refine newK_intro fun l10 n10 => ?_
  simp (dsimp := false) (implicitDefEqProofs := false) (maxSteps := 1000000) (disch := first | omega | assumption | (simp only [rL, Nat.reduceAdd]; done) | (simp only [rL, Nat.reduceAdd]; omega)) only [↓rD, rU, ev, ofConst, ofCell, ↓reduceIte, Nat.reduceEqDiff, Nat.reduceAdd, Nat.reduceSub, Nat.reduceMul, Nat.reduceLeDiff, Nat.reduceLT, Int.reduceNeg, Int.reduceToNat, Int.reduceAdd, Int.reduceSub, Int.reduceMul, Int.reduceLT, Int.reduceLE, Int.reduceEq, rX, dg_cells, dg_fold, List.drop_succ_cons, ↓rF, rG, ne_eq, not_true_eq_false, not_false_eq_true, Int.reduceNe, List.getElem?_cons_zero, List.getElem?_cons_succ, z0]
  refine newK_intro fun l11 n11 => ?_
  have oA := exA_ok
  have oB := exB_ok
  obtain ⟨dba, n11⟩ := Hp.set_none n11
  have d102 : l2 ≠ l10 := by rintro rfl; rw [n10] at g2; cases g2
  have d103 : l3 ≠ l10 := by rintro rfl; rw [n10] at g3; cases g3
  have d112 : l2 ≠ l11 := by rintro rfl; rw [n11] at g2; cases g2
  have d113 : l3 ≠ l11 := by rintro rfl; rw [n11] at g3; cases g3
  obtain ⟨p, gl, _⟩ := hF5.get
  have dl10 : l ≠ l10 := by rintro rfl; rw [n10] at gl; cases gl
  have dl11 : l ≠ l11 := by rintro rfl; rw [n11] at gl; cases gl
  have fin (x y : Ob) : s.sub ((s5.set l10 x).set l11 y) := Hp.sub_trans hb (Hp.sub_trans (hF5.sub nl) (Hp.sub_new (Hp.sub_new Hp.sub_refl n10) n11))
  simp (dsimp := false) (implicitDefEqProofs := false) (maxSteps := 1000000) (disch := first | omega | assumption | (simp only [rL, Nat.reduceAdd]; done) | (simp only [rL, Nat.reduceAdd]; omega)) only [↓rD, rU, ev, ofConst, ofCell, ↓reduceIte, Nat.reduceEqDiff, Nat.reduceAdd, Nat.reduceSub, Nat.reduceMul, Nat.reduceLeDiff, Nat.reduceLT, Int.reduceNeg, Int.reduceToNat, Int.reduceAdd, Int.reduceSub, Int.reduceMul, Int.reduceLT, Int.reduceLE, Int.reduceEq, rX, dg_cells, dg_fold, List.drop_succ_cons, ↓rF, rG, ne_eq, not_true_eq_false, not_false_eq_true, Int.reduceNe, List.getElem?_cons_zero, List.getElem?_cons_succ, kA, kB, hA, hB, fA, fB, z0, dba, Ne.symm dba, Hp.read_of g2, Hp.read_of g3, d102, d103, d112, d113, eqvK_op, decide_true]
  refine call_intro (Steps_spec _ l exB.n exB.h exB.d 1 p exB_ok.1 exB_ok.2 ?_) ?_
  · rw [Hp.set_ne _ _ dl11, Hp.set_ne _ _ dl10]; exact gl
  rintro _ _ ⟨rfl, rfl⟩
  simp (dsimp := false) (implicitDefEqProofs := false) (maxSteps := 1000000) (disch := first | omega | assumption | (simp only [rL, Nat.reduceAdd]; done) | (simp only [rL, Nat.reduceAdd]; omega)) only [↓rD, rU, ev, ofConst, ofCell, ↓reduceIte, Nat.reduceEqDiff, Nat.reduceAdd, Nat.reduceSub, Nat.reduceMul, Nat.reduceLeDiff, Nat.reduceLT, Int.reduceNeg, Int.reduceToNat, Int.reduceAdd, Int.reduceSub, Int.reduceMul, Int.reduceLT, Int.reduceLE, Int.reduceEq, rX, dg_cells, dg_fold, List.drop_succ_cons, ↓rF, rG, ne_eq, not_true_eq_false, not_false_eq_true, Int.reduceNe, List.getElem?_cons_zero, List.getElem?_cons_succ]
  exact ⟨s, fin _ _, rfl⟩
end Go.Proofs.Ytapjikladjoicaa
/-
  law34.same over abstract values, all slices as ones that may be written. Printed by the program PrepDump (mode true), names put in.
-/
set_option maxRecDepth 100000
namespace Go.Proofs.Ytapjikladjoicaa
open Go Go.Av

def Fsame : AFunc where
  ntmps := 73
  nparams := 2
  results := [(4, none)]
  code :=
(.seq
(.plain (
⟨(some 4), .mv (.const (.bool false)), none⟩ ::
[]))
(.seq
(.plain (
⟨(some 9), .mv (.tmp 0), none⟩ ::
⟨(some 10), .callF 24 [(.tmp 9)], none⟩ ::
⟨(some 8), .mv (.tmp 10), none⟩ ::
⟨(some 11), .ext (.tmp 8) 0, none⟩ ::
⟨(some 12), .ext (.tmp 8) 1, none⟩ ::
⟨(some 13), .ext (.tmp 8) 2, none⟩ ::
⟨(some 5), .alloc 26 ([(.v (.int .i64 0))] ++ List.replicate 64 (.v (.int .u8 0))), none⟩ ::
⟨(some 6), .alloc 26 ([(.v (.int .i64 0))] ++ List.replicate 64 (.v (.int .u8 0))), none⟩ ::
⟨none, .store 65 (.tmp 5) (.tmp 11), none⟩ ::
⟨none, .store 65 (.tmp 6) (.tmp 12), none⟩ ::
⟨(some 7), .mv (.tmp 13), none⟩ ::
[]))
(.seq
(.draw (
⟨(some 14), .mv (.tmp 0), none⟩ ::
⟨(some 15), .callF 11 [(.tmp 14)], none⟩ ::
⟨(some 16), .mv (.tmp 1), none⟩ ::
⟨(some 17), .nilc (.tmp 16), none⟩ ::
⟨(some 18), .fa 0 (.tmp 17), none⟩ ::
⟨(some 19), .load true 65 (.tmp 18), none⟩ ::
⟨(some 20), .eqv false [(1, .int .i64), (64, .int .u8)] (.tmp 15) (.tmp 19), none⟩ ::
⟨(some 21), .mv (.tmp 20), none⟩ ::
⟨(some 22), .mv (.tmp 0), (some (21, true))⟩ ::
⟨(some 23), .callF 28 [(.tmp 22)], (some (21, true))⟩ ::
⟨(some 24), .mv (.tmp 1), (some (21, true))⟩ ::
⟨(some 25), .nilc (.tmp 24), (some (21, true))⟩ ::
⟨(some 26), .fa 0 (.tmp 25), (some (21, true))⟩ ::
⟨(some 27), .load true 65 (.tmp 26), (some (21, true))⟩ ::
⟨(some 28), .callF 37 [(.tmp 27)], (some (21, true))⟩ ::
⟨(some 29), .eqv false [(32, .int .u8)] (.tmp 23) (.tmp 28), (some (21, true))⟩ ::
⟨(some 30), .pick (.tmp 21) (.tmp 29) (.const (.bool false)), none⟩ ::
⟨(some 31), .mv (.tmp 30), none⟩ ::
⟨(some 32), .mv (.tmp 0), (some (31, true))⟩ ::
⟨(some 33), .callF 13 [(.tmp 32)], (some (31, true))⟩ ::
⟨(some 34), .mv (.tmp 1), (some (31, true))⟩ ::
⟨(some 35), .nilc (.tmp 34), (some (31, true))⟩ ::
⟨(some 36), .fa 65 (.tmp 35), (some (31, true))⟩ ::
⟨(some 37), .load false 1 (.tmp 36), (some (31, true))⟩ ::
⟨(some 38), .bin .eql (.tmp 33) (.tmp 37), (some (31, true))⟩ ::
⟨(some 39), .pick (.tmp 31) (.tmp 38) (.const (.bool false)), none⟩ ::
⟨(some 40), .mv (.tmp 39), none⟩ ::
⟨(some 41), .mv (.tmp 7), (some (40, true))⟩ ::
⟨(some 42), .mv (.tmp 1), (some (40, true))⟩ ::
⟨(some 43), .nilc (.tmp 42), (some (40, true))⟩ ::
⟨(some 44), .fa 66 (.tmp 43), (some (40, true))⟩ ::
⟨(some 45), .load false 1 (.tmp 44), (some (40, true))⟩ ::
⟨(some 46), .eqb false (.tmp 41) (.tmp 45), (some (40, true))⟩ ::
⟨(some 47), .pick (.tmp 40) (.tmp 46) (.const (.bool false)), none⟩ ::
⟨(some 48), .mv (.tmp 47), none⟩ ::
⟨(some 49), .load true 65 (.tmp 5), (some (48, true))⟩ ::
⟨(some 50), .mv (.tmp 1), (some (48, true))⟩ ::
⟨(some 51), .nilc (.tmp 50), (some (48, true))⟩ ::
⟨(some 52), .fa 67 (.tmp 51), (some (48, true))⟩ ::
⟨(some 53), .load true 65 (.tmp 52), (some (48, true))⟩ ::
⟨(some 54), .eqv false [(1, .int .i64), (64, .int .u8)] (.tmp 49) (.tmp 53), (some (48, true))⟩ ::
⟨(some 55), .pick (.tmp 48) (.tmp 54) (.const (.bool false)), none⟩ ::
⟨(some 56), .mv (.tmp 55), none⟩ ::
⟨(some 57), .load true 65 (.tmp 6), (some (56, true))⟩ ::
⟨(some 58), .mv (.tmp 1), (some (56, true))⟩ ::
⟨(some 59), .nilc (.tmp 58), (some (56, true))⟩ ::
⟨(some 60), .fa 132 (.tmp 59), (some (56, true))⟩ ::
⟨(some 61), .load true 65 (.tmp 60), (some (56, true))⟩ ::
⟨(some 62), .eqv false [(1, .int .i64), (64, .int .u8)] (.tmp 57) (.tmp 61), (some (56, true))⟩ ::
⟨(some 63), .pick (.tmp 56) (.tmp 62) (.const (.bool false)), none⟩ ::
⟨(some 64), .mv (.tmp 63), none⟩ ::
⟨(some 65), .mv (.tmp 0), (some (64, true))⟩ ::
⟨(some 66), .callF 22 [(.tmp 65)], (some (64, true))⟩ ::
⟨(some 67), .b2sM (.tmp 66), (some (64, true))⟩ ::
⟨(some 68), .mv (.tmp 1), (some (64, true))⟩ ::
⟨(some 69), .callF 23 [(.tmp 68)], (some (64, true))⟩ ::
⟨(some 70), .b2sM (.tmp 69), (some (64, true))⟩ ::
⟨(some 71), .bin .eql (.tmp 67) (.tmp 70), (some (64, true))⟩ ::
⟨(some 72), .pick (.tmp 64) (.tmp 71) (.const (.bool false)), none⟩ ::
⟨(some 4), .mv (.tmp 72), none⟩ ::
[])
(⟨0, [], []⟩ :: ⟨2, [], []⟩ :: ⟨3, [], []⟩ :: ⟨4, [], []⟩ :: ⟨5, [], []⟩ :: ⟨1, [], [5]⟩ :: ⟨6, [], []⟩ :: ⟨7, [], []⟩ :: ⟨8, [], []⟩ :: ⟨10, [], []⟩ :: ⟨11, [], []⟩ :: ⟨12, [], []⟩ :: ⟨13, [], []⟩ :: ⟨9, [], [13]⟩ :: ⟨14, [], []⟩ :: ⟨15, [], []⟩ :: ⟨16, [], []⟩ :: ⟨17, [], []⟩ :: ⟨18, [], []⟩ :: ⟨20, [], []⟩ :: ⟨21, [], []⟩ :: ⟨22, [], []⟩ :: ⟨23, [], []⟩ :: ⟨19, [], [23]⟩ :: ⟨24, [], []⟩ :: ⟨25, [], []⟩ :: ⟨26, [], []⟩ :: ⟨27, [], []⟩ :: ⟨28, [], []⟩ :: ⟨29, [], []⟩ :: ⟨30, [], []⟩ :: ⟨31, [], []⟩ :: ⟨32, [], []⟩ :: ⟨33, [], []⟩ :: ⟨34, [], []⟩ :: ⟨35, [], []⟩ :: ⟨36, [], []⟩ :: ⟨37, [], []⟩ :: ⟨38, [], []⟩ :: ⟨39, [], []⟩ :: ⟨40, [], []⟩ :: ⟨41, [], []⟩ :: ⟨42, [], []⟩ :: ⟨43, [], []⟩ :: ⟨44, [], []⟩ :: ⟨45, [], []⟩ :: ⟨46, [], []⟩ :: ⟨47, [], []⟩ :: ⟨48, [], []⟩ :: ⟨49, [], []⟩ :: ⟨50, [], []⟩ :: ⟨51, [], []⟩ :: ⟨54, [], []⟩ :: ⟨52, [], []⟩ :: ⟨53, [], []⟩ :: ⟨55, [], [53]⟩ :: ⟨56, [], []⟩ :: ⟨57, [], []⟩ :: ⟨58, [], []⟩ :: ⟨59, [], []⟩ :: []))
.ret)))
theorem prepSame : prepFunc Try.prog true 20 = some Fsame := by kernel_rfl

end Go.Proofs.Ytapjikladjoicaa
/-
  law34.same.
-/
set_option maxRecDepth 100000
set_option maxHeartbeats 1000000
namespace Go.Proofs.Ytapjikladjoicaa
open Go Go.Av

theorem rsaveB_toR {F : Fw} : rsaveB (toR F) = saveB F := by
  obtain ⟨o, st, fk⟩ := F
  cases fk with
  | none => simp [rsaveB, saveB, toR]
  | some ab => obtain ⟨a, b⟩ := ab; simp [rsaveB, saveB, toR, toldF, thenF]

theorem b2sMA_sl {s : Hp} {bs : List UInt8} {o : Own} : b2sMA s (.sl (bs.map byteAV) o) = some (.v (.string ⟨bs.toArray⟩)) := b2sMA_of srcF_bytes
theorem same_spec (s0 s : Hp) (l lw : Nat) (F : Fw) (hF : F.ok) (h : FS s0 l F s) (hw : s lw = some (.cells (rfC (toR F)))) :
    AC Try.prog 20 [.ptr l 0, .ptr lw 0] s fun r s' => s' = s ∧ r = .v (.bool true) := by
  refine AC_run hm prepSame (by simp) ?_
  have hR := toR_ok hF
  have oA := toldF_ok hF
  have oB := thenF_ok hF
  have hA := Opn.lenC oA
  have hB := Opn.lenC oB
  have kA := Opn.cells (o := toldF F)
  have kB := Opn.cells (o := thenF F)
  have fA := Opn.fold oA
  have fB := Opn.fold oB
  have z0 : zo.C.length = 65 := rfl
  have zoC := zo_C
  have w197 := rfC_length hR
  have e0 : (rfC (toR F)).take 65 = F.o.C := rfC_op hR
  have e65 : mkv false 1 ((rfC (toR F)).drop 65) = .v (.int .i64 F.st) := by rw [rfC_65 hR]; rfl
  have e66 : mkv false 1 ((rfC (toR F)).drop 66) = .v (.bool F.fk.isSome) := by rw [rfC_66 hR]; rfl
  have e67 : ((rfC (toR F)).drop 67).take 65 = (toldF F).C := by rw [rfC_67 hR, rfC_a hR]; rfl
  have e132 : ((rfC (toR F)).drop 132).take 65 = (thenF F).C := by rw [rfC_132 hR]; exact List.take_of_length_le (by rw [show (toR F).b = thenF F from rfl, hB]; omega)
  rw [zo_C]
  simp (dsimp := false) (implicitDefEqProofs := false) (maxSteps := 1000000) (disch := first | omega | assumption | (simp only [rL, Nat.reduceAdd]; done) | (simp only [rL, Nat.reduceAdd]; omega)) only [↓rD, rU, ev, ofConst, ofCell, ↓reduceIte, Nat.reduceEqDiff, Nat.reduceAdd, Nat.reduceSub, Nat.reduceMul, Nat.reduceLeDiff, Nat.reduceLT, Int.reduceNeg, Int.reduceToNat, Int.reduceAdd, Int.reduceSub, Int.reduceMul, Int.reduceLT, Int.reduceLE, Int.reduceEq, rX, dg_cells, dg_fold, List.drop_succ_cons, ↓rF, rG, ne_eq, not_true_eq_false, not_false_eq_true, Int.reduceNe, List.getElem?_cons_zero, List.getElem?_cons_succ]
  refine call_intro (Fork_spec s0 s l F hF h) ?_
  rintro _ s ⟨rfl, rfl⟩
  simp (dsimp := false) (implicitDefEqProofs := false) (maxSteps := 1000000) (disch := first | omega | assumption | (simp only [rL, Nat.reduceAdd]; done) | (simp only [rL, Nat.reduceAdd]; omega)) only [↓rD, rU, ev, ofConst, ofCell, ↓reduceIte, Nat.reduceEqDiff, Nat.reduceAdd, Nat.reduceSub, Nat.reduceMul, Nat.reduceLeDiff, Nat.reduceLT, Int.reduceNeg, Int.reduceToNat, Int.reduceAdd, Int.reduceSub, Int.reduceMul, Int.reduceLT, Int.reduceLE, Int.reduceEq, rX, dg_cells, dg_fold, List.drop_succ_cons, ↓rF, rG, ne_eq, not_true_eq_false, not_false_eq_true, Int.reduceNe, List.getElem?_cons_zero, List.getElem?_cons_succ, z0]
  refine newK_intro fun l5 n5 => ?_
  simp (dsimp := false) (implicitDefEqProofs := false) (maxSteps := 1000000) (disch := first | omega | assumption | (simp only [rL, Nat.reduceAdd]; done) | (simp only [rL, Nat.reduceAdd]; omega)) only [↓rD, rU, ev, ofConst, ofCell, ↓reduceIte, Nat.reduceEqDiff, Nat.reduceAdd, Nat.reduceSub, Nat.reduceMul, Nat.reduceLeDiff, Nat.reduceLT, Int.reduceNeg, Int.reduceToNat, Int.reduceAdd, Int.reduceSub, Int.reduceMul, Int.reduceLT, Int.reduceLE, Int.reduceEq, rX, dg_cells, dg_fold, List.drop_succ_cons, ↓rF, rG, ne_eq, not_true_eq_false, not_false_eq_true, Int.reduceNe, List.getElem?_cons_zero, List.getElem?_cons_succ, z0]
  refine newK_intro fun l6 n6 => ?_
  obtain ⟨d65, n6⟩ := Hp.set_none n6
  have dw5 : lw ≠ l5 := by rintro rfl; rw [n5] at hw; cases hw
  have dw6 : lw ≠ l6 := by rintro rfl; rw [n6] at hw; cases hw
  obtain ⟨p, gl, _⟩ := h.get
  have dl5 : l ≠ l5 := by rintro rfl; rw [n5] at gl; cases gl
  have dl6 : l ≠ l6 := by rintro rfl; rw [n6] at gl; cases gl
  obtain ⟨S, hS⟩ : ∃ S, S = (s.set l5 (.cells (toldF F).C)).set l6 (.cells (thenF F).C) := ⟨_, rfl⟩
  have hsub : s.sub S := by rw [hS]; exact Hp.sub_new (Hp.sub_new Hp.sub_refl n5) n6
  have g5 : S l5 = some (.cells (toldF F).C) := by rw [hS, Hp.set_ne _ _ (Ne.symm d65)]; exact Hp.set_same _ _ _
  have g6 : S l6 = some (.cells (thenF F).C) := by rw [hS]; exact Hp.set_same _ _ _
  have gw := hsub _ _ hw
  have gl' := hsub _ _ gl
  have h' := h.mono hsub
  simp (dsimp := false) (implicitDefEqProofs := false) (maxSteps := 1000000) (disch := first | omega | assumption | (simp only [rL, Nat.reduceAdd]; done) | (simp only [rL, Nat.reduceAdd]; omega)) only [↓rD, rU, ev, ofConst, ofCell, ↓reduceIte, Nat.reduceEqDiff, Nat.reduceAdd, Nat.reduceSub, Nat.reduceMul, Nat.reduceLeDiff, Nat.reduceLT, Int.reduceNeg, Int.reduceToNat, Int.reduceAdd, Int.reduceSub, Int.reduceMul, Int.reduceLT, Int.reduceLE, Int.reduceEq, rX, dg_cells, dg_fold, List.drop_succ_cons, ↓rF, rG, ne_eq, not_true_eq_false, not_false_eq_true, Int.reduceNe, List.getElem?_cons_zero, List.getElem?_cons_succ, kA, kB, hA, hB, z0, d65, Ne.symm d65, dw5, dw6, Hp.read_of hw, w197, e0, Opn.fold']
  rw [← hS]
  refine call_intro (Opening_spec S l F.o.n F.o.h F.o.d F.st p hF.1.1 hF.1.2 gl') ?_
  rintro _ S ⟨rfl, rfl⟩
  have hFo := hF.1
  have eV : OPV F.o.n F.o.h F.o.d = F.o.V := rfl
  rw [eV]
  have hqs : F.o.sum.length = 32 := sha256_length _
  simp (dsimp := false) (implicitDefEqProofs := false) (maxSteps := 1000000) (disch := first | omega | assumption | (simp only [rL, Nat.reduceAdd]; done) | (simp only [rL, Nat.reduceAdd]; omega)) only [↓rD, rU, ev, ofConst, ofCell, ↓reduceIte, Nat.reduceEqDiff, Nat.reduceAdd, Nat.reduceSub, Nat.reduceMul, Nat.reduceLeDiff, Nat.reduceLT, Int.reduceNeg, Int.reduceToNat, Int.reduceAdd, Int.reduceSub, Int.reduceMul, Int.reduceLT, Int.reduceLE, Int.reduceEq, rX, dg_cells, dg_fold, List.drop_succ_cons, ↓rF, rG, ne_eq, not_true_eq_false, not_false_eq_true, Int.reduceNe, List.getElem?_cons_zero, List.getElem?_cons_succ, Hp.read_of gw, w197, e0, Opn.fold', eqvK_op, decide_true]
  refine call_intro (fdigest_spec S l F.o F.st p hF.1 gl') ?_
  rintro _ S ⟨rfl, rfl⟩
  simp (dsimp := false) (implicitDefEqProofs := false) (maxSteps := 1000000) (disch := first | omega | assumption | (simp only [rL, Nat.reduceAdd]; done) | (simp only [rL, Nat.reduceAdd]; omega)) only [↓rD, rU, ev, ofConst, ofCell, ↓reduceIte, Nat.reduceEqDiff, Nat.reduceAdd, Nat.reduceSub, Nat.reduceMul, Nat.reduceLeDiff, Nat.reduceLT, Int.reduceNeg, Int.reduceToNat, Int.reduceAdd, Int.reduceSub, Int.reduceMul, Int.reduceLT, Int.reduceLE, Int.reduceEq, rX, dg_cells, dg_fold, List.drop_succ_cons, ↓rF, rG, ne_eq, not_true_eq_false, not_false_eq_true, Int.reduceNe, List.getElem?_cons_zero, List.getElem?_cons_succ, Hp.read_of gw, w197, e0, Opn.fold', eqvK_op, decide_true]
  refine call_intro (rlsum_spec F.o hF.1 S) ?_
  rintro _ S ⟨rfl, rfl⟩
  simp (dsimp := false) (implicitDefEqProofs := false) (maxSteps := 1000000) (disch := first | omega | assumption | (simp only [rL, Nat.reduceAdd]; done) | (simp only [rL, Nat.reduceAdd]; omega)) only [↓rD, rU, ev, ofConst, ofCell, ↓reduceIte, Nat.reduceEqDiff, Nat.reduceAdd, Nat.reduceSub, Nat.reduceMul, Nat.reduceLeDiff, Nat.reduceLT, Int.reduceNeg, Int.reduceToNat, Int.reduceAdd, Int.reduceSub, Int.reduceMul, Int.reduceLT, Int.reduceLE, Int.reduceEq, rX, dg_cells, dg_fold, List.drop_succ_cons, ↓rF, rG, ne_eq, not_true_eq_false, not_false_eq_true, Int.reduceNe, List.getElem?_cons_zero, List.getElem?_cons_succ, Hp.read_of gw, w197, e0, e65, Opn.fold', eqvK_op, eqvK_dg, decide_true]
  refine call_intro (Steps_spec S l F.o.n F.o.h F.o.d F.st p hF.1.1 hF.1.2 gl') ?_
  rintro _ S ⟨rfl, rfl⟩
  have hbb : (F.fk.isSome == F.fk.isSome) = true := by simp
  simp (dsimp := false) (implicitDefEqProofs := false) (maxSteps := 1000000) (disch := first | omega | assumption | (simp only [rL, Nat.reduceAdd]; done) | (simp only [rL, Nat.reduceAdd]; omega)) only [↓rD, rU, ev, ofConst, ofCell, ↓reduceIte, Nat.reduceEqDiff, Nat.reduceAdd, Nat.reduceSub, Nat.reduceMul, Nat.reduceLeDiff, Nat.reduceLT, Int.reduceNeg, Int.reduceToNat, Int.reduceAdd, Int.reduceSub, Int.reduceMul, Int.reduceLT, Int.reduceLE, Int.reduceEq, rX, dg_cells, dg_fold, List.drop_succ_cons, ↓rF, rG, ne_eq, not_true_eq_false, not_false_eq_true, Int.reduceNe, List.getElem?_cons_zero, List.getElem?_cons_succ, hbb, Hp.read_of gw, Hp.read_of g5, Hp.read_of g6, w197, e65, e66, e67, e132, hA, hB, fA, fB, Opn.fold', eqvK_op, decide_true]
  refine call_intro (Save_spec s0 S l F hF h') ?_
  rintro _ S1 ⟨o1, h1, rfl⟩
  have h1s := h1.sub
  have gw1 := h1s _ _ gw
  simp (dsimp := false) (implicitDefEqProofs := false) (maxSteps := 1000000) (disch := first | omega | assumption | (simp only [rL, Nat.reduceAdd]; done) | (simp only [rL, Nat.reduceAdd]; omega)) only [↓rD, rU, ev, ofConst, ofCell, ↓reduceIte, Nat.reduceEqDiff, Nat.reduceAdd, Nat.reduceSub, Nat.reduceMul, Nat.reduceLeDiff, Nat.reduceLT, Int.reduceNeg, Int.reduceToNat, Int.reduceAdd, Int.reduceSub, Int.reduceMul, Int.reduceLT, Int.reduceLE, Int.reduceEq, rX, dg_cells, dg_fold, List.drop_succ_cons, ↓rF, rG, ne_eq, not_true_eq_false, not_false_eq_true, Int.reduceNe, List.getElem?_cons_zero, List.getElem?_cons_succ, b2sMA_sl]
  refine call_intro (rBytes_spec S1 lw (toR F) hR gw1) ?_
  rintro x S2 h2
  rw [rsaveB_toR] at h2
  obtain ⟨n, z1, z2, z3⟩ := h2.src
  have hb := b2sMA_of z2
  simp (dsimp := false) (implicitDefEqProofs := false) (maxSteps := 1000000) (disch := first | omega | assumption | (simp only [rL, Nat.reduceAdd]; done) | (simp only [rL, Nat.reduceAdd]; omega)) only [↓rD, rU, ev, ofConst, ofCell, ↓reduceIte, Nat.reduceEqDiff, Nat.reduceAdd, Nat.reduceSub, Nat.reduceMul, Nat.reduceLeDiff, Nat.reduceLT, Int.reduceNeg, Int.reduceToNat, Int.reduceAdd, Int.reduceSub, Int.reduceMul, Int.reduceLT, Int.reduceLE, Int.reduceEq, rX, dg_cells, dg_fold, List.drop_succ_cons, ↓rF, rG, ne_eq, not_true_eq_false, not_false_eq_true, Int.reduceNe, List.getElem?_cons_zero, List.getElem?_cons_succ, hb, b2sMA_sl, decide_true]
  exact ⟨s, Hp.sub_trans hsub (Hp.sub_trans h1s h2.1), rfl⟩
end Go.Proofs.Ytapjikladjoicaa
/-
  codec.Reader: parts are read.
-/
set_option maxRecDepth 100000
namespace Go.Proofs.Ytapjikladjoicaa
open Go Go.Av

structure Rd where
  b : List UInt8
  e : Int
def RC (r : Rd) (ow : Own) : Ob := .cells [.sl (r.b.map byteAV) ow, .v (.int .i64 r.e)]
/-- a reader at l -/
def RS (s0 : Hp) (l : Nat) (r : Rd) (s : Hp) : Prop := ∃ ow, (s0.set l (RC r ow)).sub s
theorem RS.cell {s0 s : Hp} {l : Nat} {r : Rd} (h : RS s0 l r s) : ∃ ow, s l = some (.cells [.sl (r.b.map byteAV) ow, .v (.int .i64 r.e)]) := by
  obtain ⟨ow, h⟩ := h; exact ⟨ow, h _ _ (Hp.set_same _ _ _)⟩
theorem RS.mono {s0 s s' : Hp} {l : Nat} {r : Rd} (h : RS s0 l r s) (hs : s.sub s') : RS s0 l r s' := by
  obtain ⟨ow, h⟩ := h; exact ⟨ow, Hp.sub_trans h hs⟩
theorem RS.base {s0 s1 s : Hp} {l : Nat} {r : Rd} (h : RS s0 l r s) (hs : s1.sub s0) : RS s1 l r s := by
  obtain ⟨ow, h⟩ := h; exact ⟨ow, Hp.sub_trans (Hp.sub_set hs) h⟩
theorem RS.sub {s0 s : Hp} {l : Nat} {r : Rd} (h : RS s0 l r s) (h0 : s0 l = none) : s0.sub s := by
  obtain ⟨ow, h⟩ := h; exact Hp.sub_trans (Hp.sub_new Hp.sub_refl h0) h
theorem RS.set {s0 s : Hp} {l : Nat} {r : Rd} (h : RS s0 l r s) (r' : Rd) (ow : Own) : RS s0 l r' (s.set l (RC r' ow)) := by
  obtain ⟨ow', h⟩ := h; exact ⟨ow, Hp.sub_set_of h⟩
theorem RS.get {s0 s : Hp} {l l2 : Nat} {r : Rd} {ob : Ob} (h : RS s0 l r s) (hne : l2 ≠ l) (h2 : s0 l2 = some ob) : s l2 = some ob := by
  obtain ⟨ow, h⟩ := h; exact h _ _ (by rw [Hp.set_ne _ _ hne]; exact h2)
theorem RS.new {s0 s : Hp} {l l2 : Nat} {r : Rd} {ob : Ob} (h : RS s0 l r s) (h2 : s l2 = none) : l2 ≠ l ∧ s0 l2 = none ∧ RS (s0.set l2 ob) l r (s.set l2 ob) := by
  obtain ⟨ow, hc⟩ := h.cell
  have hne : l2 ≠ l := by rintro rfl; rw [h2] at hc; cases hc
  obtain ⟨ow, h⟩ := h
  have h0 := Hp.sub_none h h2
  rw [Hp.set_ne _ _ hne] at h0
  refine ⟨hne, h0, ow, ?_⟩
  rw [Hp.set_set_comm _ hne]
  exact Hp.sub_set h
/-- other objects are written -/
theorem RS.other {s0 s : Hp} {l l2 : Nat} {r : Rd} {ob : Ob} (h : RS s0 l r s) (hne : l2 ≠ l) : RS (s0.set l2 ob) l r (s.set l2 ob) := by
  obtain ⟨ow, h⟩ := h
  refine ⟨ow, ?_⟩
  rw [Hp.set_set_comm _ hne]
  exact Hp.sub_set h

theorem New_spec (bs : List UInt8) (o : Own) (s : Hp) (ho : o = .nil → bs = []) (hb : bs.length ≤ 70368744177664) :
    AC Try.prog 39 [.sl (bs.map byteAV) o] s fun r s' => ∃ l, s l = none ∧ r = .ptr l 0 ∧ RS s l ⟨bs, 0⟩ s' := by
  refine AC_run hm prep39 (by simp) ?_
  simp (dsimp := false) (implicitDefEqProofs := false) (maxSteps := 1000000) (disch := first | omega | assumption | (simp only [rL, Nat.reduceAdd]; done) | (simp only [rL, Nat.reduceAdd]; omega)) only [↓rD, rU, ev, ofConst, ofCell, ↓reduceIte, Nat.reduceEqDiff, Nat.reduceAdd, Nat.reduceSub, Nat.reduceMul, Nat.reduceLeDiff, Nat.reduceLT, Int.reduceNeg, Int.reduceToNat, Int.reduceAdd, Int.reduceSub, Int.reduceMul, Int.reduceLT, Int.reduceLE, Int.reduceEq, rX, dg_cells, dg_fold, List.drop_succ_cons, ↓rF, rG]
  refine call_intro (clone_spec bs o s ho hb) ?_
  rintro _ s1 ⟨o1, h1, rfl⟩
  have e : putAt [AV.sl [] Own.nil, AV.v (Value.int IntKind.i64 0)] 0 [AV.sl (bs.map byteAV) o1] = [AV.sl (bs.map byteAV) o1, AV.v (Value.int IntKind.i64 0)] := rfl
  simp (dsimp := false) (implicitDefEqProofs := false) (maxSteps := 1000000) (disch := first | omega | assumption | (simp only [rL, Nat.reduceAdd]; done) | (simp only [rL, Nat.reduceAdd]; omega)) only [↓rD, rU, ev, ofConst, ofCell, ↓reduceIte, Nat.reduceEqDiff, Nat.reduceAdd, Nat.reduceSub, Nat.reduceMul, Nat.reduceLeDiff, Nat.reduceLT, Int.reduceNeg, Int.reduceToNat, Int.reduceAdd, Int.reduceSub, Int.reduceMul, Int.reduceLT, Int.reduceLE, Int.reduceEq, rX, dg_cells, dg_fold, List.drop_succ_cons, ↓rF, rG, e]
  refine newK_intro fun l6 n6 => ?_
  simp (dsimp := false) (implicitDefEqProofs := false) (maxSteps := 1000000) (disch := first | omega | assumption | (simp only [rL, Nat.reduceAdd]; done) | (simp only [rL, Nat.reduceAdd]; omega)) only [↓rD, rU, ev, ofConst, ofCell, ↓reduceIte, Nat.reduceEqDiff, Nat.reduceAdd, Nat.reduceSub, Nat.reduceMul, Nat.reduceLeDiff, Nat.reduceLT, Int.reduceNeg, Int.reduceToNat, Int.reduceAdd, Int.reduceSub, Int.reduceMul, Int.reduceLT, Int.reduceLE, Int.reduceEq, rX, dg_cells, dg_fold, List.drop_succ_cons, ↓rF, rG, e]
  exact ⟨_, Hp.sub_refl, l6, Hp.sub_none h1.sub n6, rfl, o1, Hp.sub_set h1.sub⟩

def failF (r : Rd) (e : Int) : Rd := if r.e = 0 then { r with e := e } else r
theorem put_rd1 {a b c : AV} : putAt [a, b] 1 [c] = [a, c] := rfl
theorem put_rd0 {a b c : AV} : putAt [a, b] 0 [c] = [c, b] := rfl

theorem fail_spec (s0 s : Hp) (l : Nat) (r : Rd) (e : Int) (h : RS s0 l r s) :
    AC Try.prog 72 [.ptr l 0, .v (.int .i64 e)] s fun _ s' => RS s0 l (failF r e) s' := by
  obtain ⟨ow, g⟩ := h.cell
  refine AC_run hm prep72 (by simp) ?_
  by_cases c : r.e = 0
  · simp (dsimp := false) (implicitDefEqProofs := false) (maxSteps := 1000000) (disch := first | omega | assumption | (simp only [rL, Nat.reduceAdd]; done) | (simp only [rL, Nat.reduceAdd]; omega)) only [↓rD, rU, ev, ofConst, ofCell, ↓reduceIte, Nat.reduceEqDiff, Nat.reduceAdd, Nat.reduceSub, Nat.reduceMul, Nat.reduceLeDiff, Nat.reduceLT, Int.reduceNeg, Int.reduceToNat, Int.reduceAdd, Int.reduceSub, Int.reduceMul, Int.reduceLT, Int.reduceLE, Int.reduceEq, rX, dg_cells, dg_fold, List.drop_succ_cons, ↓rF, rG, Hp.read_of g, Hp.stA_of g, c, put_rd1]
    refine ⟨_, Hp.sub_refl, ?_⟩
    rw [failF, if_pos c]
    exact h.set { r with e := e } ow
  · simp (dsimp := false) (implicitDefEqProofs := false) (maxSteps := 1000000) (disch := first | omega | assumption | (simp only [rL, Nat.reduceAdd]; done) | (simp only [rL, Nat.reduceAdd]; omega)) only [↓rD, rU, ev, ofConst, ofCell, ↓reduceIte, Nat.reduceEqDiff, Nat.reduceAdd, Nat.reduceSub, Nat.reduceMul, Nat.reduceLeDiff, Nat.reduceLT, Int.reduceNeg, Int.reduceToNat, Int.reduceAdd, Int.reduceSub, Int.reduceMul, Int.reduceLT, Int.reduceLE, Int.reduceEq, rX, dg_cells, dg_fold, List.drop_succ_cons, ↓rF, rG, Hp.read_of g, c]
    refine ⟨_, Hp.sub_refl, ?_⟩
    rw [failF, if_neg c]; exact h

def takeR (r : Rd) (n : Nat) : Option (List UInt8) × Rd :=
  if r.e = 0 then (if r.b.length < n then (none, { r with e := 20 }) else (some (r.b.take n), { r with b := r.b.drop n })) else (none, r)

theorem rtake_spec (s0 s : Hp) (l : Nat) (r : Rd) (n : Nat) (hn : n ≤ 1000000) (h : RS s0 l r s) :
    AC Try.prog 70 [.ptr l 0, .v (.int .i64 n)] s fun x s' => RS s0 l (takeR r n).2 s' ∧
      (∃ ow, x = .tup [.sl (((takeR r n).1.getD []).map byteAV) ow, .v (.bool (takeR r n).1.isSome)]) := by
  obtain ⟨ow, g⟩ := h.cell
  refine AC_run hm prep70 (by simp) ?_
  by_cases c : r.e = 0
  · by_cases c2 : r.b.length < n
    · have c2' : (r.b.length : Int) < n := by omega
      have e : takeR r n = (none, { r with e := 20 }) := by rw [takeR, if_pos c, if_pos c2]
      rw [e]
      simp (dsimp := false) (implicitDefEqProofs := false) (maxSteps := 1000000) (disch := first | omega | assumption | (simp only [rL, Nat.reduceAdd]; done) | (simp only [rL, Nat.reduceAdd]; omega)) only [↓rD, rU, ev, ofConst, ofCell, ↓reduceIte, Nat.reduceEqDiff, Nat.reduceAdd, Nat.reduceSub, Nat.reduceMul, Nat.reduceLeDiff, Nat.reduceLT, Int.reduceNeg, Int.reduceToNat, Int.reduceAdd, Int.reduceSub, Int.reduceMul, Int.reduceLT, Int.reduceLE, Int.reduceEq, rX, dg_cells, dg_fold, List.drop_succ_cons, ↓rF, rG, ne_eq, not_true_eq_false, not_false_eq_true, Int.reduceNe, List.getElem?_cons_zero, List.getElem?_cons_succ, Hp.read_of g, c, c2']
      refine call_intro (fail_spec s0 s l r 20 h) ?_
      intro x s1 h1
      rw [failF, if_pos c] at h1
      obtain ⟨ow1, g1⟩ := h1.cell
      simp (dsimp := false) (implicitDefEqProofs := false) (maxSteps := 1000000) (disch := first | omega | assumption | (simp only [rL, Nat.reduceAdd]; done) | (simp only [rL, Nat.reduceAdd]; omega)) only [↓rD, rU, ev, ofConst, ofCell, ↓reduceIte, Nat.reduceEqDiff, Nat.reduceAdd, Nat.reduceSub, Nat.reduceMul, Nat.reduceLeDiff, Nat.reduceLT, Int.reduceNeg, Int.reduceToNat, Int.reduceAdd, Int.reduceSub, Int.reduceMul, Int.reduceLT, Int.reduceLE, Int.reduceEq, rX, dg_cells, dg_fold, List.drop_succ_cons, ↓rF, rG, ne_eq, not_true_eq_false, not_false_eq_true, Int.reduceNe, List.getElem?_cons_zero, List.getElem?_cons_succ, Hp.read_of g1]
      exact ⟨_, Hp.sub_refl, h1, .nil, rfl⟩
    · have c2' : ¬ (r.b.length : Int) < n := by omega
      have e : takeR r n = (some (r.b.take n), { r with b := r.b.drop n }) := by rw [takeR, if_pos c, if_neg c2]
      rw [e]
      simp (dsimp := false) (implicitDefEqProofs := false) (maxSteps := 1000000) (disch := first | omega | assumption | (simp only [rL, Nat.reduceAdd]; done) | (simp only [rL, Nat.reduceAdd]; omega)) only [↓rD, rU, ev, ofConst, ofCell, ↓reduceIte, Nat.reduceEqDiff, Nat.reduceAdd, Nat.reduceSub, Nat.reduceMul, Nat.reduceLeDiff, Nat.reduceLT, Int.reduceNeg, Int.reduceToNat, Int.reduceAdd, Int.reduceSub, Int.reduceMul, Int.reduceLT, Int.reduceLE, Int.reduceEq, rX, dg_cells, dg_fold, List.drop_succ_cons, ↓rF, rG, ne_eq, not_true_eq_false, not_false_eq_true, Int.reduceNe, List.getElem?_cons_zero, List.getElem?_cons_succ, Hp.read_of g, Hp.stA_of g, c, c2', put_rd0]
      exact ⟨_, Hp.sub_refl, h.set ⟨r.b.drop n, 0⟩ .any, .any, rfl⟩
  · have e : takeR r n = (none, r) := by rw [takeR, if_neg c]
    rw [e]
    simp (dsimp := false) (implicitDefEqProofs := false) (maxSteps := 1000000) (disch := first | omega | assumption | (simp only [rL, Nat.reduceAdd]; done) | (simp only [rL, Nat.reduceAdd]; omega)) only [↓rD, rU, ev, ofConst, ofCell, ↓reduceIte, Nat.reduceEqDiff, Nat.reduceAdd, Nat.reduceSub, Nat.reduceMul, Nat.reduceLeDiff, Nat.reduceLT, Int.reduceNeg, Int.reduceToNat, Int.reduceAdd, Int.reduceSub, Int.reduceMul, Int.reduceLT, Int.reduceLE, Int.reduceEq, rX, dg_cells, dg_fold, List.drop_succ_cons, ↓rF, rG, ne_eq, not_true_eq_false, not_false_eq_true, Int.reduceNe, List.getElem?_cons_zero, List.getElem?_cons_succ, Hp.read_of g, c]
    exact ⟨_, Hp.sub_refl, h, .nil, rfl⟩

def byteR (r : Rd) : UInt8 × Rd := ((takeR r 1).1.getD [] |>.headD 0, (takeR r 1).2)
theorem takeR_len {r : Rd} {n : Nat} {bs : List UInt8} (h : (takeR r n).1 = some bs) : bs.length = n := by
  unfold takeR at h
  split at h
  · split at h
    · cases h
    · simp only [Option.some.injEq] at h
      subst h; rw [List.length_take]; omega
  · cases h

theorem rbyte_spec (s0 s : Hp) (l : Nat) (r : Rd) (h : RS s0 l r s) :
    AC Try.prog 71 [.ptr l 0] s fun x s' => RS s0 l (byteR r).2 s' ∧ x = .v (.int .u8 (byteR r).1.toNat) := by
  refine AC_run hm prep71 (by simp) ?_
  simp (dsimp := false) (implicitDefEqProofs := false) (maxSteps := 1000000) (disch := first | omega | assumption | (simp only [rL, Nat.reduceAdd]; done) | (simp only [rL, Nat.reduceAdd]; omega)) only [↓rD, rU, ev, ofConst, ofCell, ↓reduceIte, Nat.reduceEqDiff, Nat.reduceAdd, Nat.reduceSub, Nat.reduceMul, Nat.reduceLeDiff, Nat.reduceLT, Int.reduceNeg, Int.reduceToNat, Int.reduceAdd, Int.reduceSub, Int.reduceMul, Int.reduceLT, Int.reduceLE, Int.reduceEq, rX, dg_cells, dg_fold, List.drop_succ_cons, ↓rF, rG, ne_eq, not_true_eq_false, not_false_eq_true, Int.reduceNe, List.getElem?_cons_zero, List.getElem?_cons_succ]
  refine call_intro (rtake_spec s0 s l r 1 (by omega) h) ?_
  rintro x s1 ⟨h1, ow, rfl⟩
  unfold byteR
  have hl := fun bs => takeR_len (r := r) (n := 1) (bs := bs)
  generalize takeR r 1 = t at *
  obtain ⟨bs, r1⟩ := t
  cases bs with
  | none =>
    simp only [Option.isSome_none, Option.getD_none] at *
    simp (dsimp := false) (implicitDefEqProofs := false) (maxSteps := 1000000) (disch := first | omega | assumption | (simp only [rL, Nat.reduceAdd]; done) | (simp only [rL, Nat.reduceAdd]; omega)) only [↓rD, rU, ev, ofConst, ofCell, ↓reduceIte, Nat.reduceEqDiff, Nat.reduceAdd, Nat.reduceSub, Nat.reduceMul, Nat.reduceLeDiff, Nat.reduceLT, Int.reduceNeg, Int.reduceToNat, Int.reduceAdd, Int.reduceSub, Int.reduceMul, Int.reduceLT, Int.reduceLE, Int.reduceEq, rX, dg_cells, dg_fold, List.drop_succ_cons, ↓rF, rG, ne_eq, not_true_eq_false, not_false_eq_true, Int.reduceNe, List.getElem?_cons_zero, List.getElem?_cons_succ]
    exact ⟨_, Hp.sub_refl, h1, rfl⟩
  | some bs =>
    simp only [Option.isSome_some, Option.getD_some] at *
    have hl := hl bs rfl
    match bs, hl with
    | [b], _ =>
      have e : elA 1 (some (byteAV b)) = some (.rptr [.v (.int .u8 b.toNat)]) := rfl
      simp (dsimp := false) (implicitDefEqProofs := false) (maxSteps := 1000000) (disch := first | omega | assumption | (simp only [rL, Nat.reduceAdd]; done) | (simp only [rL, Nat.reduceAdd]; omega)) only [iaSA_sl, e, ↓rD, rU, ev, ofConst, ofCell, ↓reduceIte, Nat.reduceEqDiff, Nat.reduceAdd, Nat.reduceSub, Nat.reduceMul, Nat.reduceLeDiff, Nat.reduceLT, Int.reduceNeg, Int.reduceToNat, Int.reduceAdd, Int.reduceSub, Int.reduceMul, Int.reduceLT, Int.reduceLE, Int.reduceEq, rX, dg_cells, dg_fold, List.drop_succ_cons, ↓rF, rG, ne_eq, not_true_eq_false, not_false_eq_true, Int.reduceNe, List.getElem?_cons_zero, List.getElem?_cons_succ, List.headD_cons]
      exact ⟨_, Hp.sub_refl, h1⟩

/-- the number that these bytes say -/
def beN (bs : List UInt8) : Nat := bs.foldl (fun u b => u * 256 + b.toNat) 0
def numR (r : Rd) : Int × Rd :=
  match (takeR r 8).1 with
  | none => (0, (takeR r 8).2)
  | some bs => ((BitVec.ofNat 64 (beN bs) ^^^ 9223372036854775808#64).toInt, (takeR r 8).2)
theorem beN_le : ∀ (bs : List UInt8) (u : Nat), bs.foldl (fun u b => u * 256 + b.toNat) u + 1 ≤ (u + 1) * 256 ^ bs.length
  | [], u => by simp
  | b :: bs, u => by
    have h := beN_le bs (u * 256 + b.toNat)
    have hb := b.toNat_lt
    rw [List.foldl_cons, List.length_cons, Nat.pow_succ]
    refine Nat.le_trans h ?_
    rw [Nat.mul_comm (256 ^ bs.length) 256, ← Nat.mul_assoc]
    exact Nat.mul_le_mul_right _ (by omega)
theorem beN_lt (bs : List UInt8) : beN bs < 256 ^ bs.length := by
  have := beN_le bs 0
  rw [beN]; omega
theorem beN_take (bs : List UInt8) (j : Nat) (h : j < bs.length) : beN (bs.take (j + 1)) = beN (bs.take j) * 256 + (bs.getD j 0).toNat := by
  rw [List.take_succ, List.getElem?_eq_getElem h, beN, List.foldl_append]
  simp [beN, List.getD, h]
theorem or_u64 (a b : Nat) (ha : a < 18446744073709551616) (hb : b < 18446744073709551616) : binV .or (.int .u64 a) (.int .u64 b) = some (.int .u64 ((a ||| b : Nat) : Int)) := by
  have h : binV .or (.int .u64 a) (.int .u64 b) = some (.int .u64 (IntKind.u64.wrap (BitVec.ofInt 64 (a : Int) ||| BitVec.ofInt 64 (b : Int)).toNat)) := rfl
  have hlt := (BitVec.ofInt 64 (a : Int) ||| BitVec.ofInt 64 (b : Int)).isLt
  rw [h, wrap_u64 (by omega) (by omega), BitVec.toNat_or, BitVec.ofInt_natCast, BitVec.ofInt_natCast, BitVec.toNat_ofNat, BitVec.toNat_ofNat, Nat.mod_eq_of_lt ha, Nat.mod_eq_of_lt hb]
theorem or_byte (u b : Nat) (hb : b < 256) : u * 256 ||| b = u * 256 + b := by
  have h := Nat.shiftLeft_add_eq_or_of_lt (i := 8) (b := b) (by omega) u
  rw [Nat.shiftLeft_eq] at h
  exact h.symm
theorem shl_u64_8 (a : Nat) (ha : a < 72057594037927936) : binV .shl (.int .u64 a) (.int .u64 8) = some (.int .u64 ((a * 256 : Nat) : Int)) := by
  have h : binV .shl (.int .u64 a) (.int .u64 8) = some (.int .u64 (IntKind.u64.wrap ((a : Int) * 2 ^ 8))) := rfl
  rw [h, wrap_u64 (by omega) (by omega)]
  simp
theorem xor_top (a : Nat) (ha : a < 18446744073709551616) : binV .xor (.int .u64 a) (.int .u64 9223372036854775808) = some (.int .u64 ((BitVec.ofNat 64 a ^^^ 9223372036854775808#64).toNat : Int)) := by
  have h : binV .xor (.int .u64 a) (.int .u64 9223372036854775808) = some (.int .u64 (IntKind.u64.wrap (BitVec.ofInt 64 (a : Int) ^^^ BitVec.ofInt 64 9223372036854775808).toNat)) := rfl
  have hlt := (BitVec.ofNat 64 a ^^^ 9223372036854775808#64).isLt
  have e : BitVec.ofInt 64 9223372036854775808 = 9223372036854775808#64 := by decide
  rw [h, BitVec.ofInt_natCast, e, wrap_u64 (by omega) (by omega)]
theorem wrap_i64_bv (x : BitVec 64) : IntKind.i64.wrap (x.toNat : Int) = x.toInt := by
  have e1 : ((2 : Int) ^ IntKind.i64.bits) = 18446744073709551616 := rfl
  have e2 : ((2 : Int) ^ (IntKind.i64.bits - 1)) = 9223372036854775808 := rfl
  have hlt := x.isLt
  simp only [IntKind.wrap, e1, e2, IntKind.signed, Bool.true_and, decide_eq_true_eq, BitVec.toInt_eq_toNat_cond]
  have : (x.toNat : Int) % 18446744073709551616 = x.toNat := by omega
  rw [this]
  split <;> split <;> omega

theorem rnum_spec (s0 s : Hp) (l : Nat) (r : Rd) (h : RS s0 l r s) :
    AC Try.prog 41 [.ptr l 0] s fun x s' => RS s0 l (numR r).2 s' ∧ x = .v (.int .i64 (numR r).1) := by
  refine AC_run hm prep41 (by simp) ?_
  simp (dsimp := false) (implicitDefEqProofs := false) (maxSteps := 1000000) (disch := first | omega | assumption | (simp only [rL, Nat.reduceAdd]; done) | (simp only [rL, Nat.reduceAdd]; omega)) only [↓rD, rU, ev, ofConst, ofCell, ↓reduceIte, Nat.reduceEqDiff, Nat.reduceAdd, Nat.reduceSub, Nat.reduceMul, Nat.reduceLeDiff, Nat.reduceLT, Int.reduceNeg, Int.reduceToNat, Int.reduceAdd, Int.reduceSub, Int.reduceMul, Int.reduceLT, Int.reduceLE, Int.reduceEq, rX, dg_cells, dg_fold, List.drop_succ_cons, ↓rF, rG, ne_eq, not_true_eq_false, not_false_eq_true, Int.reduceNe, List.getElem?_cons_zero, List.getElem?_cons_succ]
  refine call_intro (rtake_spec s0 s l r 8 (by omega) h) ?_
  rintro x s1 ⟨h1, ow, rfl⟩
  unfold numR
  have hl := fun bs => takeR_len (r := r) (n := 8) (bs := bs)
  generalize takeR r 8 = t at *
  obtain ⟨bs, r1⟩ := t
  cases bs with
  | none =>
    simp only [Option.isSome_none, Option.getD_none] at *
    simp (dsimp := false) (implicitDefEqProofs := false) (maxSteps := 1000000) (disch := first | omega | assumption | (simp only [rL, Nat.reduceAdd]; done) | (simp only [rL, Nat.reduceAdd]; omega)) only [↓rD, rU, ev, ofConst, ofCell, ↓reduceIte, Nat.reduceEqDiff, Nat.reduceAdd, Nat.reduceSub, Nat.reduceMul, Nat.reduceLeDiff, Nat.reduceLT, Int.reduceNeg, Int.reduceToNat, Int.reduceAdd, Int.reduceSub, Int.reduceMul, Int.reduceLT, Int.reduceLE, Int.reduceEq, rX, dg_cells, dg_fold, List.drop_succ_cons, ↓rF, rG, ne_eq, not_true_eq_false, not_false_eq_true, Int.reduceNe, List.getElem?_cons_zero, List.getElem?_cons_succ]
    exact ⟨_, Hp.sub_refl, h1⟩
  | some bs =>
    simp only [Option.isSome_some, Option.getD_some] at *
    have hl := hl bs rfl
    simp (dsimp := false) (implicitDefEqProofs := false) (maxSteps := 1000000) (disch := first | omega | assumption | (simp only [rL, Nat.reduceAdd]; done) | (simp only [rL, Nat.reduceAdd]; omega)) only [↓rD, rU, ev, ofConst, ofCell, ↓reduceIte, Nat.reduceEqDiff, Nat.reduceAdd, Nat.reduceSub, Nat.reduceMul, Nat.reduceLeDiff, Nat.reduceLT, Int.reduceNeg, Int.reduceToNat, Int.reduceAdd, Int.reduceSub, Int.reduceMul, Int.reduceLT, Int.reduceLE, Int.reduceEq, rX, dg_cells, dg_fold, List.drop_succ_cons, ↓rF, rG, ne_eq, not_true_eq_false, not_false_eq_true, Int.reduceNe, List.getElem?_cons_zero, List.getElem?_cons_succ]
    refine loop_intro (fun f s' => ∃ j : Nat, j ≤ 8 ∧ s' = s1 ∧ f 15 = .sl (bs.map byteAV) ow ∧ f 16 = .v (.int .i64 bs.length) ∧ f 17 = .v (.int .i64 j) ∧ f 5 = .v (.int .u64 (beN (bs.take j))))
      (fun f _ => match f 17 with | .v (.int _ n) => (8 - n).toNat | _ => 0) ⟨0, by omega, rfl, ?_⟩ ?_
    · simp (dsimp := false) (implicitDefEqProofs := false) (maxSteps := 1000000) (disch := first | omega | assumption | (simp only [rL, Nat.reduceAdd]; done) | (simp only [rL, Nat.reduceAdd]; omega)) only [↓rD, rU, ev, ofConst, ofCell, ↓reduceIte, Nat.reduceEqDiff, Nat.reduceAdd, Nat.reduceSub, Nat.reduceMul, Nat.reduceLeDiff, Nat.reduceLT, Int.reduceNeg, Int.reduceToNat, Int.reduceAdd, Int.reduceSub, Int.reduceMul, Int.reduceLT, Int.reduceLE, Int.reduceEq, rX, dg_cells, dg_fold, List.drop_succ_cons, ↓rF, rG, ne_eq, not_true_eq_false, not_false_eq_true, Int.reduceNe, List.getElem?_cons_zero, List.getElem?_cons_succ, List.take_zero]
      rfl
    · rintro f sA ⟨j, hj, rfl, f15, f16, f17, f5⟩
      have hb := beN_lt (bs.take j)
      rw [List.length_take] at hb
      by_cases hlt : (j : Int) < bs.length
      · have hj' : j < bs.length := by omega
        have hpow : beN (bs.take j) < 72057594037927936 := by
          refine Nat.lt_of_lt_of_le hb ?_
          refine Nat.le_trans (Nat.pow_le_pow_right (n := 256) (i := min j bs.length) (j := 7) (by omega) (by omega)) (by decide)
        have hel := getB (bs := bs) hj'
        have hbj := beN_take bs j hj'
        generalize hB : bs.getD j 0 = B at *
        have hBl := B.toNat_lt
        have hw : IntKind.u64.wrap (B.toNat : Int) = B.toNat := wrap_u64 (by omega) (by omega)
        generalize beN (bs.take j) = u at *
        have hor : binV .or (.int .u64 ((u * 256 : Nat) : Int)) (.int .u64 (B.toNat : Int)) = some (.int .u64 ((u * 256 + B.toNat : Nat) : Int)) := by
          rw [or_u64 _ _ (by omega) (by omega), or_byte _ _ (by omega)]
        have hel' : elA 1 (bs.map byteAV)[j]? = some (.rptr [.v (.int .u8 B.toNat)]) := by rw [hel]; rfl
        simp (dsimp := false) (implicitDefEqProofs := false) (maxSteps := 1000000) (disch := first | omega | assumption | (simp only [rL, Nat.reduceAdd]; done) | (simp only [rL, Nat.reduceAdd]; omega)) only [f15, f16, f17, f5, hlt, ↓rD, rU, ev, ofConst, ofCell, ↓reduceIte, Nat.reduceEqDiff, Nat.reduceAdd, Nat.reduceSub, Nat.reduceMul, Nat.reduceLeDiff, Nat.reduceLT, Int.reduceNeg, Int.reduceToNat, Int.reduceAdd, Int.reduceSub, Int.reduceMul, Int.reduceLT, Int.reduceLE, Int.reduceEq, rX, dg_cells, dg_fold, List.drop_succ_cons, ↓rF, rG, ne_eq, not_true_eq_false, not_false_eq_true, Int.reduceNe, List.getElem?_cons_zero, List.getElem?_cons_succ, iaSA_sl, hel', shl_u64_8, hw, hor]
        refine ⟨⟨j + 1, by omega, by simp, ?_⟩, by omega⟩
        rw [hbj]
      · obtain rfl : j = 8 := by omega
        have e8 : bs.take 8 = bs := List.take_of_length_le (by omega)
        rw [e8] at f5 hb
        have hb' : beN bs < 18446744073709551616 := by
          refine Nat.lt_of_lt_of_le hb ?_
          rw [hl]; decide
        simp (dsimp := false) (implicitDefEqProofs := false) (maxSteps := 1000000) (disch := first | omega | assumption | (simp only [rL, Nat.reduceAdd]; done) | (simp only [rL, Nat.reduceAdd]; omega)) only [f15, f16, f17, f5, hlt, ↓rD, rU, ev, ofConst, ofCell, ↓reduceIte, Nat.reduceEqDiff, Nat.reduceAdd, Nat.reduceSub, Nat.reduceMul, Nat.reduceLeDiff, Nat.reduceLT, Int.reduceNeg, Int.reduceToNat, Int.reduceAdd, Int.reduceSub, Int.reduceMul, Int.reduceLT, Int.reduceLE, Int.reduceEq, rX, dg_cells, dg_fold, List.drop_succ_cons, ↓rF, rG, ne_eq, not_true_eq_false, not_false_eq_true, Int.reduceNe, List.getElem?_cons_zero, List.getElem?_cons_succ, xor_top, wrap_i64_bv]
        exact ⟨_, Hp.sub_refl, h1⟩

def digR (r : Rd) : List UInt8 × Rd := ((takeR r 32).1.getD zd, (takeR r 32).2)
theorem digR_length (r : Rd) : (digR r).1.length = 32 := by
  unfold digR
  have hl := fun bs => takeR_len (r := r) (n := 32) (bs := bs)
  cases h : (takeR r 32).1 with
  | none => rfl
  | some bs => exact hl bs h
theorem rdigest_spec (s0 s : Hp) (l : Nat) (r : Rd) (h : RS s0 l r s) :
    AC Try.prog 69 [.ptr l 0] s fun x s' => RS s0 l (digR r).2 s' ∧ x = dg (digR r).1 := by
  refine AC_run hm prep69 (by simp) ?_
  have hq := digR_length r
  simp (dsimp := false) (implicitDefEqProofs := false) (maxSteps := 1000000) (disch := first | omega | assumption | (simp only [rL, Nat.reduceAdd]; done) | (simp only [rL, Nat.reduceAdd]; omega)) only [↓rD, rU, ev, ofConst, ofCell, ↓reduceIte, Nat.reduceEqDiff, Nat.reduceAdd, Nat.reduceSub, Nat.reduceMul, Nat.reduceLeDiff, Nat.reduceLT, Int.reduceNeg, Int.reduceToNat, Int.reduceAdd, Int.reduceSub, Int.reduceMul, Int.reduceLT, Int.reduceLE, Int.reduceEq, rX, dg_cells, dg_fold, List.drop_succ_cons, ↓rF, rG, ne_eq, not_true_eq_false, not_false_eq_true, Int.reduceNe, List.getElem?_cons_zero, List.getElem?_cons_succ]
  refine newK_intro fun l2 n2 => ?_
  obtain ⟨d2, e2, h⟩ := h.new (ob := zc) n2
  simp (dsimp := false) (implicitDefEqProofs := false) (maxSteps := 1000000) (disch := first | omega | assumption | (simp only [rL, Nat.reduceAdd]; done) | (simp only [rL, Nat.reduceAdd]; omega)) only [↓rD, rU, ev, ofConst, ofCell, ↓reduceIte, Nat.reduceEqDiff, Nat.reduceAdd, Nat.reduceSub, Nat.reduceMul, Nat.reduceLeDiff, Nat.reduceLT, Int.reduceNeg, Int.reduceToNat, Int.reduceAdd, Int.reduceSub, Int.reduceMul, Int.reduceLT, Int.reduceLE, Int.reduceEq, rX, dg_cells, dg_fold, List.drop_succ_cons, ↓rF, rG, ne_eq, not_true_eq_false, not_false_eq_true, Int.reduceNe, List.getElem?_cons_zero, List.getElem?_cons_succ]
  refine newK_intro fun l3 n3 => ?_
  obtain ⟨d3, e3, h⟩ := h.new (ob := zc) n3
  obtain ⟨d32, e3⟩ := Hp.set_none e3
  simp (dsimp := false) (implicitDefEqProofs := false) (maxSteps := 1000000) (disch := first | omega | assumption | (simp only [rL, Nat.reduceAdd]; done) | (simp only [rL, Nat.reduceAdd]; omega)) only [↓rD, rU, ev, ofConst, ofCell, ↓reduceIte, Nat.reduceEqDiff, Nat.reduceAdd, Nat.reduceSub, Nat.reduceMul, Nat.reduceLeDiff, Nat.reduceLT, Int.reduceNeg, Int.reduceToNat, Int.reduceAdd, Int.reduceSub, Int.reduceMul, Int.reduceLT, Int.reduceLE, Int.reduceEq, rX, dg_cells, dg_fold, List.drop_succ_cons, ↓rF, rG, ne_eq, not_true_eq_false, not_false_eq_true, Int.reduceNe, List.getElem?_cons_zero, List.getElem?_cons_succ]
  refine call_intro (rtake_spec _ _ l r 32 (by omega) h) ?_
  rintro x s1 ⟨h1, ow, rfl⟩
  have g2 := h1.get d2 (by rw [Hp.set_ne _ _ (Ne.symm d32)]; exact Hp.set_same _ _ _)
  have g3 := h1.get d3 (Hp.set_same _ _ _)
  have hfin : ∀ (x y : Ob), RS s0 l (takeR r 32).2 ((s1.set l3 x).set l2 y) := fun x y => by
    have := (h1.other (ob := x) d3).other (ob := y) d2
    rw [Hp.set_set] at this
    refine this.base ?_
    rw [Hp.set_set_comm _ d32, Hp.set_set]
    exact Hp.sub_new (Hp.sub_new Hp.sub_refl e2) e3
  unfold digR at hq ⊢
  have hl := fun bs => takeR_len (r := r) (n := 32) (bs := bs)
  generalize takeR r 32 = t at *
  obtain ⟨bs, r1⟩ := t
  unfold zc at g2 g3
  have hz : (List.replicate 32 (AV.v (Value.int IntKind.u8 0))).length = 32 := rfl
  cases bs with
  | none =>
    simp only [Option.isSome_none, Option.getD_none] at *
    simp (dsimp := false) (implicitDefEqProofs := false) (maxSteps := 1000000) (disch := first | omega | assumption | (simp only [rL, Nat.reduceAdd]; done) | (simp only [rL, Nat.reduceAdd]; omega)) only [↓rD, rU, ev, ofConst, ofCell, ↓reduceIte, Nat.reduceEqDiff, Nat.reduceAdd, Nat.reduceSub, Nat.reduceMul, Nat.reduceLeDiff, Nat.reduceLT, Int.reduceNeg, Int.reduceToNat, Int.reduceAdd, Int.reduceSub, Int.reduceMul, Int.reduceLT, Int.reduceLE, Int.reduceEq, rX, dg_cells, dg_fold, List.drop_succ_cons, ↓rF, rG, ne_eq, not_true_eq_false, not_false_eq_true, Int.reduceNe, List.getElem?_cons_zero, List.getElem?_cons_succ, Hp.read_of g3, Hp.stA_of g3, slcMA_all (Hp.read_of g3)]
    refine cpy_intro ?_ g3 ?_ ?_
    · simp [allLen]
    · simp
    have e : putAt (List.replicate 32 (AV.v (Value.int IntKind.u8 0))) 0 (flat (List.take 32 [])) = zd.map byteAV := rfl
    rw [e]
    simp (dsimp := false) (implicitDefEqProofs := false) (maxSteps := 1000000) (disch := first | omega | assumption | (simp only [rL, Nat.reduceAdd]; done) | (simp only [rL, Nat.reduceAdd]; omega)) only [↓rD, rU, ev, ofConst, ofCell, ↓reduceIte, Nat.reduceEqDiff, Nat.reduceAdd, Nat.reduceSub, Nat.reduceMul, Nat.reduceLeDiff, Nat.reduceLT, Int.reduceNeg, Int.reduceToNat, Int.reduceAdd, Int.reduceSub, Int.reduceMul, Int.reduceLT, Int.reduceLE, Int.reduceEq, rX, dg_cells, dg_fold, List.drop_succ_cons, ↓rF, rG, ne_eq, not_true_eq_false, not_false_eq_true, Int.reduceNe, List.getElem?_cons_zero, List.getElem?_cons_succ, hq, d32, Ne.symm d32, Hp.read_of g2, Hp.stA_of g2]
    exact ⟨_, Hp.sub_refl, hfin _ _⟩
  | some bs =>
    simp only [Option.isSome_some, Option.getD_some] at *
    have hl := hl bs rfl
    simp (dsimp := false) (implicitDefEqProofs := false) (maxSteps := 1000000) (disch := first | omega | assumption | (simp only [rL, Nat.reduceAdd]; done) | (simp only [rL, Nat.reduceAdd]; omega)) only [↓rD, rU, ev, ofConst, ofCell, ↓reduceIte, Nat.reduceEqDiff, Nat.reduceAdd, Nat.reduceSub, Nat.reduceMul, Nat.reduceLeDiff, Nat.reduceLT, Int.reduceNeg, Int.reduceToNat, Int.reduceAdd, Int.reduceSub, Int.reduceMul, Int.reduceLT, Int.reduceLE, Int.reduceEq, rX, dg_cells, dg_fold, List.drop_succ_cons, ↓rF, rG, ne_eq, not_true_eq_false, not_false_eq_true, Int.reduceNe, List.getElem?_cons_zero, List.getElem?_cons_succ, Hp.read_of g3, Hp.stA_of g3, slcMA_all (Hp.read_of g3)]
    refine cpy_intro ?_ g3 ?_ ?_
    · rw [allLen_bytes]; trivial
    · simp
    have e : putAt (List.replicate 32 (AV.v (Value.int IntKind.u8 0))) 0 (flat (List.take 32 (List.map byteAV bs))) = bs.map byteAV := by
      rw [List.take_of_length_le (by simp [hl]), flat_bytes, putAt_all (by simp [hl])]
    rw [e]
    simp (dsimp := false) (implicitDefEqProofs := false) (maxSteps := 1000000) (disch := first | omega | assumption | (simp only [rL, Nat.reduceAdd]; done) | (simp only [rL, Nat.reduceAdd]; omega)) only [↓rD, rU, ev, ofConst, ofCell, ↓reduceIte, Nat.reduceEqDiff, Nat.reduceAdd, Nat.reduceSub, Nat.reduceMul, Nat.reduceLeDiff, Nat.reduceLT, Int.reduceNeg, Int.reduceToNat, Int.reduceAdd, Int.reduceSub, Int.reduceMul, Int.reduceLT, Int.reduceLE, Int.reduceEq, rX, dg_cells, dg_fold, List.drop_succ_cons, ↓rF, rG, ne_eq, not_true_eq_false, not_false_eq_true, Int.reduceNe, List.getElem?_cons_zero, List.getElem?_cons_succ, hl, d32, Ne.symm d32, Hp.read_of g2, Hp.stA_of g2]
    exact ⟨_, Hp.sub_refl, hfin _ _⟩
end Go.Proofs.Ytapjikladjoicaa
/-
  codec.Reader, continued; light.get; slices.Equal.
-/
set_option maxRecDepth 100000
namespace Go.Proofs.Ytapjikladjoicaa
open Go Go.Av

def truthR (r : Rd) : Bool × Rd := (decide ((byteR r).1 = 1), if 1 < (byteR r).1.toNat then failF (byteR r).2 21 else (byteR r).2)
theorem rtruth_spec (s0 s : Hp) (l : Nat) (r : Rd) (h : RS s0 l r s) :
    AC Try.prog 42 [.ptr l 0] s fun x s' => RS s0 l (truthR r).2 s' ∧ x = .v (.bool (truthR r).1) := by
  refine AC_run hm prep42 (by simp) ?_
  simp (dsimp := false) (implicitDefEqProofs := false) (maxSteps := 1000000) (disch := first | omega | assumption | (simp only [rL, Nat.reduceAdd]; done) | (simp only [rL, Nat.reduceAdd]; omega)) only [↓rD, rU, ev, ofConst, ofCell, ↓reduceIte, Nat.reduceEqDiff, Nat.reduceAdd, Nat.reduceSub, Nat.reduceMul, Nat.reduceLeDiff, Nat.reduceLT, Int.reduceNeg, Int.reduceToNat, Int.reduceAdd, Int.reduceSub, Int.reduceMul, Int.reduceLT, Int.reduceLE, Int.reduceEq, rX, dg_cells, dg_fold, List.drop_succ_cons, ↓rF, rG, ne_eq, not_true_eq_false, not_false_eq_true, Int.reduceNe, List.getElem?_cons_zero, List.getElem?_cons_succ]
  refine call_intro (rbyte_spec s0 s l r h) ?_
  rintro x s1 ⟨h1, rfl⟩
  unfold truthR
  generalize byteR r = t at *
  obtain ⟨b, r1⟩ := t
  simp only at h1 ⊢
  have hb : decide ((b.toNat : Int) = 1) = decide (b = 1) := by
    have : ((b.toNat : Int) = 1) ↔ b = 1 := by
      rw [← UInt8.toNat_inj]
      show ((b.toNat : Int) = 1) ↔ b.toNat = 1
      omega
    simp only [this]
  by_cases c : 1 < b.toNat
  · have c' : (1 : Int) < b.toNat := by omega
    simp (dsimp := false) (implicitDefEqProofs := false) (maxSteps := 1000000) (disch := first | omega | assumption | (simp only [rL, Nat.reduceAdd]; done) | (simp only [rL, Nat.reduceAdd]; omega)) only [↓rD, rU, ev, ofConst, ofCell, ↓reduceIte, Nat.reduceEqDiff, Nat.reduceAdd, Nat.reduceSub, Nat.reduceMul, Nat.reduceLeDiff, Nat.reduceLT, Int.reduceNeg, Int.reduceToNat, Int.reduceAdd, Int.reduceSub, Int.reduceMul, Int.reduceLT, Int.reduceLE, Int.reduceEq, rX, dg_cells, dg_fold, List.drop_succ_cons, ↓rF, rG, ne_eq, not_true_eq_false, not_false_eq_true, Int.reduceNe, List.getElem?_cons_zero, List.getElem?_cons_succ, c']
    refine call_intro (fail_spec s0 s1 l r1 21 h1) ?_
    intro x s2 h2
    rw [if_pos c]
    simp (dsimp := false) (implicitDefEqProofs := false) (maxSteps := 1000000) (disch := first | omega | assumption | (simp only [rL, Nat.reduceAdd]; done) | (simp only [rL, Nat.reduceAdd]; omega)) only [↓rD, rU, ev, ofConst, ofCell, ↓reduceIte, Nat.reduceEqDiff, Nat.reduceAdd, Nat.reduceSub, Nat.reduceMul, Nat.reduceLeDiff, Nat.reduceLT, Int.reduceNeg, Int.reduceToNat, Int.reduceAdd, Int.reduceSub, Int.reduceMul, Int.reduceLT, Int.reduceLE, Int.reduceEq, rX, dg_cells, dg_fold, List.drop_succ_cons, ↓rF, rG, ne_eq, not_true_eq_false, not_false_eq_true, Int.reduceNe, List.getElem?_cons_zero, List.getElem?_cons_succ, hb]
    exact ⟨_, Hp.sub_refl, h2⟩
  · have c' : ¬ (1 : Int) < b.toNat := by omega
    rw [if_neg c]
    simp (dsimp := false) (implicitDefEqProofs := false) (maxSteps := 1000000) (disch := first | omega | assumption | (simp only [rL, Nat.reduceAdd]; done) | (simp only [rL, Nat.reduceAdd]; omega)) only [↓rD, rU, ev, ofConst, ofCell, ↓reduceIte, Nat.reduceEqDiff, Nat.reduceAdd, Nat.reduceSub, Nat.reduceMul, Nat.reduceLeDiff, Nat.reduceLT, Int.reduceNeg, Int.reduceToNat, Int.reduceAdd, Int.reduceSub, Int.reduceMul, Int.reduceLT, Int.reduceLE, Int.reduceEq, rX, dg_cells, dg_fold, List.drop_succ_cons, ↓rF, rG, ne_eq, not_true_eq_false, not_false_eq_true, Int.reduceNe, List.getElem?_cons_zero, List.getElem?_cons_succ, c', hb]
    exact ⟨_, Hp.sub_refl, h1⟩

def endR (r : Rd) : Rd := if 0 < r.b.length then failF r 22 else r
theorem rend_spec (s0 s : Hp) (l : Nat) (r : Rd) (h : RS s0 l r s) :
    AC Try.prog 43 [.ptr l 0] s fun x s' => RS s0 l (endR r) s' ∧ x = .v (.int .i64 (endR r).e) := by
  obtain ⟨ow, g⟩ := h.cell
  refine AC_run hm prep43 (by simp) ?_
  unfold endR
  by_cases c : 0 < r.b.length
  · have c' : (0 : Int) < r.b.length := by omega
    simp (dsimp := false) (implicitDefEqProofs := false) (maxSteps := 1000000) (disch := first | omega | assumption | (simp only [rL, Nat.reduceAdd]; done) | (simp only [rL, Nat.reduceAdd]; omega)) only [↓rD, rU, ev, ofConst, ofCell, ↓reduceIte, Nat.reduceEqDiff, Nat.reduceAdd, Nat.reduceSub, Nat.reduceMul, Nat.reduceLeDiff, Nat.reduceLT, Int.reduceNeg, Int.reduceToNat, Int.reduceAdd, Int.reduceSub, Int.reduceMul, Int.reduceLT, Int.reduceLE, Int.reduceEq, rX, dg_cells, dg_fold, List.drop_succ_cons, ↓rF, rG, ne_eq, not_true_eq_false, not_false_eq_true, Int.reduceNe, List.getElem?_cons_zero, List.getElem?_cons_succ, Hp.read_of g, c']
    refine call_intro (fail_spec s0 s l r 22 h) ?_
    intro x s2 h2
    obtain ⟨ow2, g2⟩ := h2.cell
    rw [if_pos c]
    simp (dsimp := false) (implicitDefEqProofs := false) (maxSteps := 1000000) (disch := first | omega | assumption | (simp only [rL, Nat.reduceAdd]; done) | (simp only [rL, Nat.reduceAdd]; omega)) only [↓rD, rU, ev, ofConst, ofCell, ↓reduceIte, Nat.reduceEqDiff, Nat.reduceAdd, Nat.reduceSub, Nat.reduceMul, Nat.reduceLeDiff, Nat.reduceLT, Int.reduceNeg, Int.reduceToNat, Int.reduceAdd, Int.reduceSub, Int.reduceMul, Int.reduceLT, Int.reduceLE, Int.reduceEq, rX, dg_cells, dg_fold, List.drop_succ_cons, ↓rF, rG, ne_eq, not_true_eq_false, not_false_eq_true, Int.reduceNe, List.getElem?_cons_zero, List.getElem?_cons_succ, Hp.read_of g2]
    exact ⟨_, Hp.sub_refl, h2⟩
  · have c' : ¬ (0 : Int) < r.b.length := by omega
    rw [if_neg c]
    simp (dsimp := false) (implicitDefEqProofs := false) (maxSteps := 1000000) (disch := first | omega | assumption | (simp only [rL, Nat.reduceAdd]; done) | (simp only [rL, Nat.reduceAdd]; omega)) only [↓rD, rU, ev, ofConst, ofCell, ↓reduceIte, Nat.reduceEqDiff, Nat.reduceAdd, Nat.reduceSub, Nat.reduceMul, Nat.reduceLeDiff, Nat.reduceLT, Int.reduceNeg, Int.reduceToNat, Int.reduceAdd, Int.reduceSub, Int.reduceMul, Int.reduceLT, Int.reduceLE, Int.reduceEq, rX, dg_cells, dg_fold, List.drop_succ_cons, ↓rF, rG, ne_eq, not_true_eq_false, not_false_eq_true, Int.reduceNe, List.getElem?_cons_zero, List.getElem?_cons_succ, Hp.read_of g, c']
    exact ⟨_, Hp.sub_refl, h⟩

def getR (r : Rd) : Opn × Rd := (⟨(numR r).1, (digR (numR r).2).1, (digR (digR (numR r).2).2).1⟩, (digR (digR (numR r).2).2).2)
theorem getR_ok (r : Rd) : (getR r).1.ok := ⟨digR_length _, digR_length _⟩
theorem lget_spec (s0 s : Hp) (l : Nat) (r : Rd) (h : RS s0 l r s) :
    AC Try.prog 40 [.ptr l 0] s fun x s' => RS s0 l (getR r).2 s' ∧ x = (getR r).1.V := by
  refine AC_run hm prep40 (by simp) ?_
  rw [zo_C]
  have z0 : zo.C.length = 65 := rfl
  simp (dsimp := false) (implicitDefEqProofs := false) (maxSteps := 1000000) (disch := first | omega | assumption | (simp only [rL, Nat.reduceAdd]; done) | (simp only [rL, Nat.reduceAdd]; omega)) only [↓rD, rU, ev, ofConst, ofCell, ↓reduceIte, Nat.reduceEqDiff, Nat.reduceAdd, Nat.reduceSub, Nat.reduceMul, Nat.reduceLeDiff, Nat.reduceLT, Int.reduceNeg, Int.reduceToNat, Int.reduceAdd, Int.reduceSub, Int.reduceMul, Int.reduceLT, Int.reduceLE, Int.reduceEq, rX, dg_cells, dg_fold, List.drop_succ_cons, ↓rF, rG, ne_eq, not_true_eq_false, not_false_eq_true, Int.reduceNe, List.getElem?_cons_zero, List.getElem?_cons_succ]
  refine newK_intro fun l2 n2 => ?_
  obtain ⟨d2, e2, h⟩ := h.new (ob := .cells zo.C) n2
  simp (dsimp := false) (implicitDefEqProofs := false) (maxSteps := 1000000) (disch := first | omega | assumption | (simp only [rL, Nat.reduceAdd]; done) | (simp only [rL, Nat.reduceAdd]; omega)) only [↓rD, rU, ev, ofConst, ofCell, ↓reduceIte, Nat.reduceEqDiff, Nat.reduceAdd, Nat.reduceSub, Nat.reduceMul, Nat.reduceLeDiff, Nat.reduceLT, Int.reduceNeg, Int.reduceToNat, Int.reduceAdd, Int.reduceSub, Int.reduceMul, Int.reduceLT, Int.reduceLE, Int.reduceEq, rX, dg_cells, dg_fold, List.drop_succ_cons, ↓rF, rG, ne_eq, not_true_eq_false, not_false_eq_true, Int.reduceNe, List.getElem?_cons_zero, List.getElem?_cons_succ]
  refine call_intro (rnum_spec _ _ l r h) ?_
  rintro x s1 ⟨h1, rfl⟩
  simp (dsimp := false) (implicitDefEqProofs := false) (maxSteps := 1000000) (disch := first | omega | assumption | (simp only [rL, Nat.reduceAdd]; done) | (simp only [rL, Nat.reduceAdd]; omega)) only [↓rD, rU, ev, ofConst, ofCell, ↓reduceIte, Nat.reduceEqDiff, Nat.reduceAdd, Nat.reduceSub, Nat.reduceMul, Nat.reduceLeDiff, Nat.reduceLT, Int.reduceNeg, Int.reduceToNat, Int.reduceAdd, Int.reduceSub, Int.reduceMul, Int.reduceLT, Int.reduceLE, Int.reduceEq, rX, dg_cells, dg_fold, List.drop_succ_cons, ↓rF, rG, ne_eq, not_true_eq_false, not_false_eq_true, Int.reduceNe, List.getElem?_cons_zero, List.getElem?_cons_succ]
  refine call_intro (rdigest_spec _ _ l _ h1) ?_
  rintro x s2 ⟨h2, rfl⟩
  simp (dsimp := false) (implicitDefEqProofs := false) (maxSteps := 1000000) (disch := first | omega | assumption | (simp only [rL, Nat.reduceAdd]; done) | (simp only [rL, Nat.reduceAdd]; omega)) only [↓rD, rU, ev, ofConst, ofCell, ↓reduceIte, Nat.reduceEqDiff, Nat.reduceAdd, Nat.reduceSub, Nat.reduceMul, Nat.reduceLeDiff, Nat.reduceLT, Int.reduceNeg, Int.reduceToNat, Int.reduceAdd, Int.reduceSub, Int.reduceMul, Int.reduceLT, Int.reduceLE, Int.reduceEq, rX, dg_cells, dg_fold, List.drop_succ_cons, ↓rF, rG, ne_eq, not_true_eq_false, not_false_eq_true, Int.reduceNe, List.getElem?_cons_zero, List.getElem?_cons_succ]
  refine call_intro (rdigest_spec _ _ l _ h2) ?_
  rintro x s3 ⟨h3, rfl⟩
  have g2 := h3.get d2 (Hp.set_same _ _ _)
  have q1 := digR_length (numR r).2
  have q2 := digR_length (digR (numR r).2).2
  have ho := getR_ok r
  unfold getR at ho ⊢
  generalize (numR r).1 = n at *
  generalize (digR (numR r).2).1 = x at *
  generalize (digR (digR (numR r).2).2).1 = y at *
  generalize (digR (digR (numR r).2).2).2 = r3 at *
  have z1 : (opC n zd zd).length = 65 := rfl
  have z2 : (opC n x zd).length = 65 := opC_length q1 rfl
  have z3 : (opC n x y).length = 65 := opC_length q1 q2
  have e0 : putAt zo.C 0 [.v (.int .i64 n)] = opC n zd zd := rfl
  simp (dsimp := false) (implicitDefEqProofs := false) (maxSteps := 1000000) (disch := first | omega | assumption | (simp only [rL, Nat.reduceAdd]; done) | (simp only [rL, Nat.reduceAdd]; omega)) only [↓rD, rU, ev, ofConst, ofCell, ↓reduceIte, Nat.reduceEqDiff, Nat.reduceAdd, Nat.reduceSub, Nat.reduceMul, Nat.reduceLeDiff, Nat.reduceLT, Int.reduceNeg, Int.reduceToNat, Int.reduceAdd, Int.reduceSub, Int.reduceMul, Int.reduceLT, Int.reduceLE, Int.reduceEq, rX, dg_cells, dg_fold, List.drop_succ_cons, ↓rF, rG, ne_eq, not_true_eq_false, not_false_eq_true, Int.reduceNe, List.getElem?_cons_zero, List.getElem?_cons_succ, z0, z1, z2, z3, q1, q2, e0, opC_put1 zd_length q1, opC_put33 q1 zd_length q2, Hp.read_of g2, Hp.stA_of g2]
  have tk : (opC n x y).take 65 = opC n x y := List.take_of_length_le (by omega)
  rw [tk]
  refine ⟨_, Hp.sub_refl, ?_, rfl⟩
  have := h3.other (ob := .cells (opC n x y)) d2
  rw [Hp.set_set] at this
  exact this.base (Hp.sub_new Hp.sub_refl e2)

theorem equal_spec (a b : List UInt8) (o o2 : Own) (s : Hp) (ha : a.length ≤ 70368744177664) :
    AC Try.prog 44 [.sl (a.map byteAV) o, .sl (b.map byteAV) o2] s fun x s' => s' = s ∧ x = .v (.bool (decide (a = b))) := by
  refine AC_run hm prep44 (by simp) ?_
  by_cases c : a.length = b.length
  · have c' : (a.length : Int) = b.length := by omega
    simp (dsimp := false) (implicitDefEqProofs := false) (maxSteps := 1000000) (disch := first | omega | assumption | (simp only [rL, Nat.reduceAdd]; done) | (simp only [rL, Nat.reduceAdd]; omega)) only [↓rD, rU, ev, ofConst, ofCell, ↓reduceIte, Nat.reduceEqDiff, Nat.reduceAdd, Nat.reduceSub, Nat.reduceMul, Nat.reduceLeDiff, Nat.reduceLT, Int.reduceNeg, Int.reduceToNat, Int.reduceAdd, Int.reduceSub, Int.reduceMul, Int.reduceLT, Int.reduceLE, Int.reduceEq, rX, dg_cells, dg_fold, List.drop_succ_cons, ↓rF, rG, ne_eq, not_true_eq_false, not_false_eq_true, Int.reduceNe, List.getElem?_cons_zero, List.getElem?_cons_succ, c']
    rw [← c']
    refine loop_intro (fun f s' => ∃ j : Nat, j ≤ a.length ∧ s' = s ∧ f 0 = .sl (a.map byteAV) o ∧ f 1 = .sl (b.map byteAV) o2 ∧ f 12 = .v (.int .i64 a.length) ∧ f 13 = .v (.int .i64 j) ∧ a.take j = b.take j)
      (fun f _ => match f 13 with | .v (.int _ n) => (a.length - n).toNat | _ => 0) ⟨0, by omega, rfl, ?_⟩ ?_
    · simp (dsimp := false) (implicitDefEqProofs := false) (maxSteps := 1000000) (disch := first | omega | assumption | (simp only [rL, Nat.reduceAdd]; done) | (simp only [rL, Nat.reduceAdd]; omega)) only [↓rD, rU, ev, ofConst, ofCell, ↓reduceIte, Nat.reduceEqDiff, Nat.reduceAdd, Nat.reduceSub, Nat.reduceMul, Nat.reduceLeDiff, Nat.reduceLT, Int.reduceNeg, Int.reduceToNat, Int.reduceAdd, Int.reduceSub, Int.reduceMul, Int.reduceLT, Int.reduceLE, Int.reduceEq, rX, dg_cells, dg_fold, List.drop_succ_cons, ↓rF, rG, ne_eq, not_true_eq_false, not_false_eq_true, Int.reduceNe, List.getElem?_cons_zero, List.getElem?_cons_succ, List.take_zero]
    · rintro f sA ⟨j, hj, rfl, f0, f1, f12, f13, ht⟩
      by_cases hlt : (j : Int) < a.length
      · have hj' : j < a.length := by omega
        have hjb : j < b.length := by omega
        have e1 : elA 1 (a.map byteAV)[j]? = some (.rptr [.v (.int .u8 (a.getD j 0).toNat)]) := by rw [getB hj']; rfl
        have e2 : elA 1 (b.map byteAV)[j]? = some (.rptr [.v (.int .u8 (b.getD j 0).toNat)]) := by rw [getB hjb]; rfl
        simp (dsimp := false) (implicitDefEqProofs := false) (maxSteps := 1000000) (disch := first | omega | assumption | (simp only [rL, Nat.reduceAdd]; done) | (simp only [rL, Nat.reduceAdd]; omega)) only [f0, f1, f12, f13, hlt, iaSA_sl, e1, e2, ↓rD, rU, ev, ofConst, ofCell, ↓reduceIte, Nat.reduceEqDiff, Nat.reduceAdd, Nat.reduceSub, Nat.reduceMul, Nat.reduceLeDiff, Nat.reduceLT, Int.reduceNeg, Int.reduceToNat, Int.reduceAdd, Int.reduceSub, Int.reduceMul, Int.reduceLT, Int.reduceLE, Int.reduceEq, rX, dg_cells, dg_fold, List.drop_succ_cons, ↓rF, rG, ne_eq, not_true_eq_false, not_false_eq_true, Int.reduceNe, List.getElem?_cons_zero, List.getElem?_cons_succ]
        by_cases hx : a.getD j 0 = b.getD j 0
        · have hx' : (((a.getD j 0).toNat : Int) = (b.getD j 0).toNat) = True := by rw [hx]; simp
          simp (dsimp := false) (implicitDefEqProofs := false) (maxSteps := 1000000) (disch := first | omega | assumption | (simp only [rL, Nat.reduceAdd]; done) | (simp only [rL, Nat.reduceAdd]; omega)) only [f0, f1, f12, f13, hlt, hx', ↓rD, rU, ev, ofConst, ofCell, ↓reduceIte, Nat.reduceEqDiff, Nat.reduceAdd, Nat.reduceSub, Nat.reduceMul, Nat.reduceLeDiff, Nat.reduceLT, Int.reduceNeg, Int.reduceToNat, Int.reduceAdd, Int.reduceSub, Int.reduceMul, Int.reduceLT, Int.reduceLE, Int.reduceEq, rX, dg_cells, dg_fold, List.drop_succ_cons, ↓rF, rG, ne_eq, not_true_eq_false, not_false_eq_true, Int.reduceNe, List.getElem?_cons_zero, List.getElem?_cons_succ]
          refine ⟨⟨j + 1, by omega, by simp, ?_⟩, by omega⟩
          rw [List.take_succ, List.take_succ, ht, List.getElem?_eq_getElem hj', List.getElem?_eq_getElem hjb]
          simp [List.getD, hj', hjb] at hx
          rw [hx]
        · have hx' : (((a.getD j 0).toNat : Int) = (b.getD j 0).toNat) = False := by
            simp only [eq_iff_iff, iff_false]
            intro h
            exact hx (UInt8.toNat_inj.1 (by omega))
          simp (dsimp := false) (implicitDefEqProofs := false) (maxSteps := 1000000) (disch := first | omega | assumption | (simp only [rL, Nat.reduceAdd]; done) | (simp only [rL, Nat.reduceAdd]; omega)) only [f0, f1, f12, f13, hlt, hx', ↓rD, rU, ev, ofConst, ofCell, ↓reduceIte, Nat.reduceEqDiff, Nat.reduceAdd, Nat.reduceSub, Nat.reduceMul, Nat.reduceLeDiff, Nat.reduceLT, Int.reduceNeg, Int.reduceToNat, Int.reduceAdd, Int.reduceSub, Int.reduceMul, Int.reduceLT, Int.reduceLE, Int.reduceEq, rX, dg_cells, dg_fold, List.drop_succ_cons, ↓rF, rG, ne_eq, not_true_eq_false, not_false_eq_true, Int.reduceNe, List.getElem?_cons_zero, List.getElem?_cons_succ]
          refine ⟨sA, Hp.sub_refl, rfl, ?_⟩
          have : a ≠ b := by rintro rfl; exact hx rfl
          simp [this]
      · obtain rfl : j = a.length := by omega
        simp (dsimp := false) (implicitDefEqProofs := false) (maxSteps := 1000000) (disch := first | omega | assumption | (simp only [rL, Nat.reduceAdd]; done) | (simp only [rL, Nat.reduceAdd]; omega)) only [f0, f1, f12, f13, hlt, ↓rD, rU, ev, ofConst, ofCell, ↓reduceIte, Nat.reduceEqDiff, Nat.reduceAdd, Nat.reduceSub, Nat.reduceMul, Nat.reduceLeDiff, Nat.reduceLT, Int.reduceNeg, Int.reduceToNat, Int.reduceAdd, Int.reduceSub, Int.reduceMul, Int.reduceLT, Int.reduceLE, Int.reduceEq, rX, dg_cells, dg_fold, List.drop_succ_cons, ↓rF, rG, ne_eq, not_true_eq_false, not_false_eq_true, Int.reduceNe, List.getElem?_cons_zero, List.getElem?_cons_succ]
        refine ⟨sA, Hp.sub_refl, rfl, ?_⟩
        rw [List.take_of_length_le (Nat.le_refl _), List.take_of_length_le (by omega)] at ht
        simp [ht]
  · have c' : ((a.length : Int) = b.length) = False := by simp only [eq_iff_iff, iff_false]; omega
    simp (dsimp := false) (implicitDefEqProofs := false) (maxSteps := 1000000) (disch := first | omega | assumption | (simp only [rL, Nat.reduceAdd]; done) | (simp only [rL, Nat.reduceAdd]; omega)) only [↓rD, rU, ev, ofConst, ofCell, ↓reduceIte, Nat.reduceEqDiff, Nat.reduceAdd, Nat.reduceSub, Nat.reduceMul, Nat.reduceLeDiff, Nat.reduceLT, Int.reduceNeg, Int.reduceToNat, Int.reduceAdd, Int.reduceSub, Int.reduceMul, Int.reduceLT, Int.reduceLE, Int.reduceEq, rX, dg_cells, dg_fold, List.drop_succ_cons, ↓rF, rG, ne_eq, not_true_eq_false, not_false_eq_true, Int.reduceNe, List.getElem?_cons_zero, List.getElem?_cons_succ, c']
    refine ⟨s, Hp.sub_refl, rfl, ?_⟩
    have : a ≠ b := by rintro rfl; exact c rfl
    simp [this]
end Go.Proofs.Ytapjikladjoicaa
