/- Merged by program from smaller texts; what is proved stands in the last text of the claim. -/
import Derived.Test.YtnnjjmiahcnbaaaGreatMD
set_option linter.all false
set_option maxRecDepth 100000
namespace Go.Proofs.YtnnjjmiahcnbaaaGreat
open Go Go.Av

/-- zeros put in till 56 remain -/
def zeros (n : Nat) : Nat := (55 + 64 - n % 64) % 64
def padB (n : Nat) (rest : List UInt8) : List UInt8 := rest ++ 128 :: List.replicate (zeros n) 0 ++ eightB (8 * n)
def quad (x : UInt32) : List UInt8 := [(x >>> 24).toUInt8, (x >>> 16).toUInt8, (x >>> 8).toUInt8, x.toUInt8]
def quads (h : List UInt32) : List UInt8 := h.flatMap quad
def dg (bs : List UInt8) : AV := .agg (bs.map byteAV)


def cellsB (w : List UInt8) : List AV := w.map byteAV ++ List.replicate (32 - w.length) (.v (.int .u8 0))
theorem cellsB_nil : cellsB [] = List.replicate 32 (.v (.int .u8 0)) := by simp [cellsB]
theorem cellsB_length {w : List UInt8} (h : w.length ≤ 32) : (cellsB w).length = 32 := by simp [cellsB]; omega
theorem cellsB_put {w : List UInt8} {i : Nat} (x : UInt8) (h : i = w.length) (h2 : w.length < 32) : putAt (cellsB w) i [.v (.int .u8 x.toNat)] = cellsB (w ++ [x]) := by
  subst h
  have e : 32 - w.length = (32 - (w.length + 1)) + 1 := by omega
  simp only [putAt, cellsB, e, List.replicate_succ]
  simp [List.take_append, List.drop_append, byteAV]
theorem quads_length : ∀ h : List UInt32, (quads h).length = 4 * h.length
  | [] => rfl
  | x :: r => by simp only [quads, List.flatMap_cons, List.length_append] at *; have := quads_length r; simp only [quads] at this; rw [this]; simp [quad]; omega

theorem done_aux (H : List UInt32) (h8 : H.length = 8) (hbeg : ∀ s, AC Tryz.prog 73 [] s fun r s' => s' = s ∧ r = .agg (wl H)) (B : List UInt32) (hB : B.length = 8) (n : Nat) (rest : List UInt8) (o : Own) (hn : n ≤ 70368744177664) (hr : rest.length = n % 64) (h0 : n = 0 → B = H)
    (s : Hp) (l : Nat) (hl : s l = some (.cells (wl B ++ [.sl (rest.map byteAV) o, .v (.int .u64 n)]))) :
    AC Tryz.prog 44 [.ptr l 0] s fun r s' => s' = s ∧ r = dg (quads (blocks ((padB n rest).length / 64) B (padB n rest))) := by
  refine AC_run hm prep44 (by simp) ?_
  have hW : (wl B).length = 8 := by rw [wl_length, hB]
  simp (dsimp := false) (implicitDefEqProofs := false) (maxSteps := 1000000) (disch := first | omega | assumption | (simp only [rL, Nat.reduceAdd]; done) | (simp only [rL, Nat.reduceAdd]; omega)) only [↓rD, rU, ev, ofConst, ofCell, ↓reduceIte, Nat.reduceEqDiff, Nat.reduceAdd, Nat.reduceSub, Nat.reduceMul, Nat.reduceLeDiff, Nat.reduceLT, Int.reduceNeg, Int.reduceToNat, Int.reduceAdd, Int.reduceSub, Int.reduceMul, Int.reduceLT, Int.reduceLE, Int.reduceEq]
  refine newK_intro fun l2 n2 => ?_
  have d2 : l ≠ l2 := by rintro rfl; rw [n2] at hl; cases hl
  simp (dsimp := false) (implicitDefEqProofs := false) (maxSteps := 1000000) (disch := first | omega | assumption | (simp only [rL, Nat.reduceAdd]; done) | (simp only [rL, Nat.reduceAdd]; omega)) only [↓rD, rU, ev, ofConst, ofCell, ↓reduceIte, Nat.reduceEqDiff, Nat.reduceAdd, Nat.reduceSub, Nat.reduceMul, Nat.reduceLeDiff, Nat.reduceLT, Int.reduceNeg, Int.reduceToNat, Int.reduceAdd, Int.reduceSub, Int.reduceMul, Int.reduceLT, Int.reduceLE, Int.reduceEq, Hp.read_of hl, st_len hB, st_drop9 hB, st_drop8 hB, st_take8 hB]
  refine newK_intro fun l3 n3 => ?_
  obtain ⟨d32, n3⟩ := Hp.set_none n3
  have d3 : l ≠ l3 := by rintro rfl; rw [n3] at hl; cases hl
  simp (dsimp := false) (implicitDefEqProofs := false) (maxSteps := 1000000) (disch := first | omega | assumption | (simp only [rL, Nat.reduceAdd]; done) | (simp only [rL, Nat.reduceAdd]; omega)) only [↓rD, rU, ev, ofConst, ofCell, ↓reduceIte, Nat.reduceEqDiff, Nat.reduceAdd, Nat.reduceSub, Nat.reduceMul, Nat.reduceLeDiff, Nat.reduceLT, Int.reduceNeg, Int.reduceToNat, Int.reduceAdd, Int.reduceSub, Int.reduceMul, Int.reduceLT, Int.reduceLE, Int.reduceEq, Hp.read_of hl, st_len hB, st_drop9 hB, st_drop8 hB, st_take8 hB, hW]
  refine cond_join (fun f s' => f 0 = .ptr l 0 ∧ f 2 = .ptr l2 0 ∧ f 3 = .ptr l3 0 ∧ s' = (s.set l2 (.cells (List.replicate 32 (.v (.int .u8 0))))).set l3 (.cells (wl B))) ?_ ?_ ?_
  · intro hz
    have hn0 : n = 0 := by simpa using hz
    have hBH := h0 hn0
    subst hBH
    simp (dsimp := false) (implicitDefEqProofs := false) (maxSteps := 1000000) (disch := first | omega | assumption | (simp only [rL, Nat.reduceAdd]; done) | (simp only [rL, Nat.reduceAdd]; omega)) only [↓rD, rU, ev, ofConst, ofCell, ↓reduceIte, Nat.reduceEqDiff, Nat.reduceAdd, Nat.reduceSub, Nat.reduceMul, Nat.reduceLeDiff, Nat.reduceLT, Int.reduceNeg, Int.reduceToNat, Int.reduceAdd, Int.reduceSub, Int.reduceMul, Int.reduceLT, Int.reduceLE, Int.reduceEq]
    refine call_intro (hbeg _) ?_
    rintro _ _ ⟨rfl, rfl⟩
    simp (dsimp := false) (implicitDefEqProofs := false) (maxSteps := 1000000) (disch := first | omega | assumption | (simp only [rL, Nat.reduceAdd]; done) | (simp only [rL, Nat.reduceAdd]; omega)) only [↓rD, rU, ev, ofConst, ofCell, ↓reduceIte, Nat.reduceEqDiff, Nat.reduceAdd, Nat.reduceSub, Nat.reduceMul, Nat.reduceLeDiff, Nat.reduceLT, Int.reduceNeg, Int.reduceToNat, Int.reduceAdd, Int.reduceSub, Int.reduceMul, Int.reduceLT, Int.reduceLE, Int.reduceEq, hW]
  · intro _
    simp (dsimp := false) (implicitDefEqProofs := false) (maxSteps := 1000000) (disch := first | omega | assumption | (simp only [rL, Nat.reduceAdd]; done) | (simp only [rL, Nat.reduceAdd]; omega)) only [↓rD, rU, ev, ofConst, ofCell, ↓reduceIte, Nat.reduceEqDiff, Nat.reduceAdd, Nat.reduceSub, Nat.reduceMul, Nat.reduceLeDiff, Nat.reduceLT, Int.reduceNeg, Int.reduceToNat, Int.reduceAdd, Int.reduceSub, Int.reduceMul, Int.reduceLT, Int.reduceLE, Int.reduceEq]
  · rintro f s' ⟨f0, f2, f3, rfl⟩
    have hl' : ((s.set l2 (.cells (List.replicate 32 (.v (.int .u8 0))))).set l3 (.cells (wl B))) l = some (.cells (wl B ++ [.sl (rest.map byteAV) o, .v (.int .u64 n)])) := by
      rw [Hp.set_ne _ _ d3, Hp.set_ne _ _ d2]; exact hl
    generalize hs1 : ((s.set l2 (.cells (List.replicate 32 (.v (.int .u8 0))))).set l3 (.cells (wl B))) = s1 at *
    simp (dsimp := false) (implicitDefEqProofs := false) (maxSteps := 1000000) (disch := first | omega | assumption | (simp only [rL, Nat.reduceAdd]; done) | (simp only [rL, Nat.reduceAdd]; omega)) only [↓rD, rU, ev, ofConst, ofCell, ↓reduceIte, Nat.reduceEqDiff, Nat.reduceAdd, Nat.reduceSub, Nat.reduceMul, Nat.reduceLeDiff, Nat.reduceLT, Int.reduceNeg, Int.reduceToNat, Int.reduceAdd, Int.reduceSub, Int.reduceMul, Int.reduceLT, Int.reduceLE, Int.reduceEq, f0, f2, f3]
    refine bsl_own Hp.sub_refl (by simp [allLen]) fun o2 s2 h2 => ?_
    have hl2 := h2.sub _ _ hl'
    simp (dsimp := false) (implicitDefEqProofs := false) (maxSteps := 1000000) (disch := first | omega | assumption | (simp only [rL, Nat.reduceAdd]; done) | (simp only [rL, Nat.reduceAdd]; omega)) only [↓rD, rU, ev, ofConst, ofCell, ↓reduceIte, Nat.reduceEqDiff, Nat.reduceAdd, Nat.reduceSub, Nat.reduceMul, Nat.reduceLeDiff, Nat.reduceLT, Int.reduceNeg, Int.reduceToNat, Int.reduceAdd, Int.reduceSub, Int.reduceMul, Int.reduceLT, Int.reduceLE, Int.reduceEq, f0, f2, f3, Hp.read_of hl2, st_len hB, st_drop8 hB]
    refine app_bytes (xs := []) h2 (by simp; omega) fun o3 s3 h3 => ?_
    simp (dsimp := false) (implicitDefEqProofs := false) (maxSteps := 1000000) (disch := first | omega | assumption | (simp only [rL, Nat.reduceAdd]; done) | (simp only [rL, Nat.reduceAdd]; omega)) only [↓rD, rU, ev, ofConst, ofCell, ↓reduceIte, Nat.reduceEqDiff, Nat.reduceAdd, Nat.reduceSub, Nat.reduceMul, Nat.reduceLeDiff, Nat.reduceLT, Int.reduceNeg, Int.reduceToNat, Int.reduceAdd, Int.reduceSub, Int.reduceMul, Int.reduceLT, Int.reduceLE, Int.reduceEq, f0, f2, f3]
    refine bsl_byte (b := 128) Hp.sub_refl fun o4 s4 h4 => ?_
    simp (dsimp := false) (implicitDefEqProofs := false) (maxSteps := 1000000) (disch := first | omega | assumption | (simp only [rL, Nat.reduceAdd]; done) | (simp only [rL, Nat.reduceAdd]; omega)) only [↓rD, rU, ev, ofConst, ofCell, ↓reduceIte, Nat.reduceEqDiff, Nat.reduceAdd, Nat.reduceSub, Nat.reduceMul, Nat.reduceLeDiff, Nat.reduceLT, Int.reduceNeg, Int.reduceToNat, Int.reduceAdd, Int.reduceSub, Int.reduceMul, Int.reduceLT, Int.reduceLE, Int.reduceEq, f0, f2, f3]
    refine app_byte1 (h3.mono h4.sub) (by simp; omega) fun o5 s5 h5 => ?_
    simp (dsimp := false) (implicitDefEqProofs := false) (maxSteps := 1000000) (disch := first | omega | assumption | (simp only [rL, Nat.reduceAdd]; done) | (simp only [rL, Nat.reduceAdd]; omega)) only [↓rD, rU, ev, ofConst, ofCell, ↓reduceIte, Nat.reduceEqDiff, Nat.reduceAdd, Nat.reduceSub, Nat.reduceMul, Nat.reduceLeDiff, Nat.reduceLT, Int.reduceNeg, Int.reduceToNat, Int.reduceAdd, Int.reduceSub, Int.reduceMul, Int.reduceLT, Int.reduceLE, Int.reduceEq, f0, f2, f3, List.nil_append]
    refine loop_intro (fun f s' => ∃ (j : Nat) (o' : Own), j ≤ zeros n ∧ f 0 = .ptr l 0 ∧ f 2 = .ptr l2 0 ∧ f 3 = .ptr l3 0 ∧ f 4 = .sl ((rest ++ 128 :: List.replicate j 0).map byteAV) o' ∧ Owned s1 s' 1 ((rest ++ 128 :: List.replicate j 0).map byteAV) o')
      (fun f _ => match f 4 with | .sl xs _ => 200 - xs.length | _ => 0) ⟨0, o5, by omega, ?_⟩ ?_
    · simp (dsimp := false) (implicitDefEqProofs := false) (maxSteps := 1000000) (disch := first | omega | assumption | (simp only [rL, Nat.reduceAdd]; done) | (simp only [rL, Nat.reduceAdd]; omega)) only [↓rD, rU, ev, ofConst, ofCell, ↓reduceIte, Nat.reduceEqDiff, Nat.reduceAdd, Nat.reduceSub, Nat.reduceMul, Nat.reduceLeDiff, Nat.reduceLT, Int.reduceNeg, Int.reduceToNat, Int.reduceAdd, Int.reduceSub, Int.reduceMul, Int.reduceLT, Int.reduceLE, Int.reduceEq, f0, f2, f3]
      exact ⟨rfl, by simpa using h5⟩
    · rintro f s' ⟨j, o', hj, f0, f2, f3, f4, ho⟩
      have hz : zeros n ≤ 63 := by unfold zeros; omega
      have hlen : (rest ++ 128 :: List.replicate j 0).length = n % 64 + 1 + j := by simp [hr]; omega
      by_cases hlt : j < zeros n
      · have hne : ¬ (((n % 64 + 1 + j) % 64 : Nat) : Int) = 56 := by unfold zeros at hlt; omega
        simp (dsimp := false) (implicitDefEqProofs := false) (maxSteps := 1000000) (disch := first | omega | assumption | (simp only [rL, Nat.reduceAdd]; done) | (simp only [rL, Nat.reduceAdd]; omega)) only [↓rD, rU, ev, ofConst, ofCell, ↓reduceIte, Nat.reduceEqDiff, Nat.reduceAdd, Nat.reduceSub, Nat.reduceMul, Nat.reduceLeDiff, Nat.reduceLT, Int.reduceNeg, Int.reduceToNat, Int.reduceAdd, Int.reduceSub, Int.reduceMul, Int.reduceLT, Int.reduceLE, Int.reduceEq, f0, f2, f3, f4, hlen, tmod64, hne, ne_eq, not_false_eq_true]
        refine bsl_byte (b := 0) Hp.sub_refl fun o6 s6 h6 => ?_
        simp (dsimp := false) (implicitDefEqProofs := false) (maxSteps := 1000000) (disch := first | omega | assumption | (simp only [rL, Nat.reduceAdd]; done) | (simp only [rL, Nat.reduceAdd]; omega)) only [↓rD, rU, ev, ofConst, ofCell, ↓reduceIte, Nat.reduceEqDiff, Nat.reduceAdd, Nat.reduceSub, Nat.reduceMul, Nat.reduceLeDiff, Nat.reduceLT, Int.reduceNeg, Int.reduceToNat, Int.reduceAdd, Int.reduceSub, Int.reduceMul, Int.reduceLT, Int.reduceLE, Int.reduceEq, f0, f2, f3, f4]
        refine app_byte1 (ho.mono h6.sub) (by omega) fun o7 s7 h7 => ?_
        have e : rest ++ 128 :: List.replicate j 0 ++ [0] = rest ++ 128 :: List.replicate (j + 1) 0 := by simp [List.replicate_succ']
        simp (dsimp := false) (implicitDefEqProofs := false) (maxSteps := 1000000) (disch := first | omega | assumption | (simp only [rL, Nat.reduceAdd]; done) | (simp only [rL, Nat.reduceAdd]; omega)) only [↓rD, rU, ev, ofConst, ofCell, ↓reduceIte, Nat.reduceEqDiff, Nat.reduceAdd, Nat.reduceSub, Nat.reduceMul, Nat.reduceLeDiff, Nat.reduceLT, Int.reduceNeg, Int.reduceToNat, Int.reduceAdd, Int.reduceSub, Int.reduceMul, Int.reduceLT, Int.reduceLE, Int.reduceEq, f0, f2, f3, f4]
        rw [e] at h7 ⊢
        refine ⟨⟨j + 1, o7, by omega, rfl, h7⟩, ?_⟩
        simp only [List.length_append, List.length_cons, List.length_replicate, hr]; omega
      · obtain rfl : j = zeros n := by omega
        have heq : (((n % 64 + 1 + zeros n) % 64 : Nat) : Int) = 56 := by unfold zeros; omega
        have hl4 := ho.sub _ _ hl'
        simp (dsimp := false) (implicitDefEqProofs := false) (maxSteps := 1000000) (disch := first | omega | assumption | (simp only [rL, Nat.reduceAdd]; done) | (simp only [rL, Nat.reduceAdd]; omega)) only [↓rD, rU, ev, ofConst, ofCell, ↓reduceIte, Nat.reduceEqDiff, Nat.reduceAdd, Nat.reduceSub, Nat.reduceMul, Nat.reduceLeDiff, Nat.reduceLT, Int.reduceNeg, Int.reduceToNat, Int.reduceAdd, Int.reduceSub, Int.reduceMul, Int.reduceLT, Int.reduceLE, Int.reduceEq, f0, f2, f3, f4, hlen, tmod64, heq, ne_eq, not_true_eq_false, Hp.read_of hl4, st_len hB, st_drop9 hB]
        have e8 : (8 : Int) * (n : Int) = ((8 * n : Nat) : Int) := by simp
        rw [e8]
        refine call_intro (eight_spec (8 * n) _) ?_
        rintro _ s6 ⟨o6, h6, rfl⟩
        simp (dsimp := false) (implicitDefEqProofs := false) (maxSteps := 1000000) (disch := first | omega | assumption | (simp only [rL, Nat.reduceAdd]; done) | (simp only [rL, Nat.reduceAdd]; omega)) only [↓rD, rU, ev, ofConst, ofCell, ↓reduceIte, Nat.reduceEqDiff, Nat.reduceAdd, Nat.reduceSub, Nat.reduceMul, Nat.reduceLeDiff, Nat.reduceLT, Int.reduceNeg, Int.reduceToNat, Int.reduceAdd, Int.reduceSub, Int.reduceMul, Int.reduceLT, Int.reduceLE, Int.reduceEq, f0, f2, f3, f4]
        refine app_bytes (ho.mono h6.sub) (by simp [eightB]; omega) fun o7 s7 h7 => ?_
        simp (dsimp := false) (implicitDefEqProofs := false) (maxSteps := 1000000) (disch := first | omega | assumption | (simp only [rL, Nat.reduceAdd]; done) | (simp only [rL, Nat.reduceAdd]; omega)) only [↓rD, rU, ev, ofConst, ofCell, ↓reduceIte, Nat.reduceEqDiff, Nat.reduceAdd, Nat.reduceSub, Nat.reduceMul, Nat.reduceLeDiff, Nat.reduceLT, Int.reduceNeg, Int.reduceToNat, Int.reduceAdd, Int.reduceSub, Int.reduceMul, Int.reduceLT, Int.reduceLE, Int.reduceEq, f0, f2, f3, f4]
        have hl37 : s7 l3 = some (.cells (wl B)) := h7.sub _ _ (by rw [← hs1]; exact Hp.set_same _ _ _)
        have hl27 : s7 l2 = some (.cells (List.replicate 32 (.v (.int .u8 0)))) := h7.sub _ _ (by rw [← hs1, Hp.set_ne _ _ (Ne.symm d32)]; exact Hp.set_same _ _ _)
        have hs7 : s.sub s7 := Hp.sub_trans (by rw [← hs1]; exact Hp.sub_new (Hp.sub_new Hp.sub_refl n2) n3) h7.sub
        rw [← Hp.set_eq hl37]
        have hpad : rest ++ 128 :: List.replicate (zeros n) 0 ++ eightB (8 * n) = padB n rest := rfl
        have hpl : (padB n rest).length = 64 * ((padB n rest).length / 64) := by
          have : (padB n rest).length = n % 64 + 1 + zeros n + 8 := by simp [padB, hr, eightB]; omega
          rw [this]; unfold zeros; omega
        rw [hpad]
        generalize padB n rest = pad at *
        refine loop_intro (fun f s' => ∃ (k : Nat) (o' : Own), 64 * k ≤ pad.length ∧ f 2 = .ptr l2 0 ∧ f 3 = .ptr l3 0 ∧ f 4 = .sl ((pad.drop (64 * k)).map byteAV) o' ∧ s' = s7.set l3 (.cells (wl (blocks k B pad))))
          (fun f _ => match f 4 with | .sl xs _ => xs.length | _ => 0) ⟨0, o7, by omega, ?_⟩ ?_
        · simp (dsimp := false) (implicitDefEqProofs := false) (maxSteps := 1000000) (disch := first | omega | assumption | (simp only [rL, Nat.reduceAdd]; done) | (simp only [rL, Nat.reduceAdd]; omega)) only [↓rD, rU, ev, ofConst, ofCell, ↓reduceIte, Nat.reduceEqDiff, Nat.reduceAdd, Nat.reduceSub, Nat.reduceMul, Nat.reduceLeDiff, Nat.reduceLT, Int.reduceNeg, Int.reduceToNat, Int.reduceAdd, Int.reduceSub, Int.reduceMul, Int.reduceLT, Int.reduceLE, Int.reduceEq, f2, f3]
          rfl
        · rintro f s' ⟨k, o', hk, f2, f3, f4, rfl⟩
          have hC := blocks_length k B pad hB
          have hCW : (wl (blocks k B pad)).length = 8 := by rw [wl_length, hC]
          by_cases hlt : (0 : Int) < ((pad.drop (64 * k)).length : Int)
          · have hlt' := hlt
            rw [List.length_drop] at hlt'
            have hle : 64 ≤ (pad.drop (64 * k)).length := by rw [List.length_drop]; omega
            simp (dsimp := false) (implicitDefEqProofs := false) (maxSteps := 1000000) (disch := first | omega | assumption | (simp only [rL, Nat.reduceAdd]; done) | (simp only [rL, Nat.reduceAdd]; omega)) only [↓rD, rU, ev, ofConst, ofCell, ↓reduceIte, Nat.reduceEqDiff, Nat.reduceAdd, Nat.reduceSub, Nat.reduceMul, Nat.reduceLeDiff, Nat.reduceLT, Int.reduceNeg, Int.reduceToNat, Int.reduceAdd, Int.reduceSub, Int.reduceMul, Int.reduceLT, Int.reduceLE, Int.reduceEq, f2, f3, f4, hlt, hCW, List.take_of_length_le]
            have ht : ((pad.drop (64 * k)).take 64).length = 64 := by simp; omega
            refine call_intro (turn_spec _ _ _ hC ht _) ?_
            rintro _ _ ⟨rfl, rfl⟩
            have hD := comp_length (blocks k B pad) ((pad.drop (64 * k)).take 64) hC
            have hDW : (wl (comp (blocks k B pad) ((pad.drop (64 * k)).take 64))).length = 8 := by rw [wl_length, hD]
            simp (dsimp := false) (implicitDefEqProofs := false) (maxSteps := 1000000) (disch := first | omega | assumption | (simp only [rL, Nat.reduceAdd]; done) | (simp only [rL, Nat.reduceAdd]; omega)) only [↓rD, rU, ev, ofConst, ofCell, ↓reduceIte, Nat.reduceEqDiff, Nat.reduceAdd, Nat.reduceSub, Nat.reduceMul, Nat.reduceLeDiff, Nat.reduceLT, Int.reduceNeg, Int.reduceToNat, Int.reduceAdd, Int.reduceSub, Int.reduceMul, Int.reduceLT, Int.reduceLE, Int.reduceEq, f2, f3, f4, hCW, hDW]
            refine ⟨⟨k + 1, .any, by omega, ?_, ?_⟩, by simp only [List.length_drop]; omega⟩
            · rw [List.drop_drop, show 64 * k + 64 = 64 * (k + 1) by omega]
            · rw [blocks_succ]
          · rw [List.length_drop] at hlt
            have hk' : k = pad.length / 64 := by omega
            simp (dsimp := false) (implicitDefEqProofs := false) (maxSteps := 1000000) (disch := first | omega | assumption | (simp only [rL, Nat.reduceAdd]; done) | (simp only [rL, Nat.reduceAdd]; omega)) only [↓rD, rU, ev, ofConst, ofCell, ↓reduceIte, Nat.reduceEqDiff, Nat.reduceAdd, Nat.reduceSub, Nat.reduceMul, Nat.reduceLeDiff, Nat.reduceLT, Int.reduceNeg, Int.reduceToNat, Int.reduceAdd, Int.reduceSub, Int.reduceMul, Int.reduceLT, Int.reduceLE, Int.reduceEq, f2, f3, f4, List.length_drop, hlt]
            rw [← hk']
            generalize hF : blocks k B pad = F at *
            refine newK_intro fun l5 n5 => ?_
            obtain ⟨d53, n5⟩ := Hp.set_none n5
            have d52 : l5 ≠ l2 := by rintro rfl; rw [n5] at hl27; cases hl27
            simp (dsimp := false) (implicitDefEqProofs := false) (maxSteps := 1000000) (disch := first | omega | assumption | (simp only [rL, Nat.reduceAdd]; done) | (simp only [rL, Nat.reduceAdd]; omega)) only [↓rD, rU, ev, ofConst, ofCell, ↓reduceIte, Nat.reduceEqDiff, Nat.reduceAdd, Nat.reduceSub, Nat.reduceMul, Nat.reduceLeDiff, Nat.reduceLT, Int.reduceNeg, Int.reduceToNat, Int.reduceAdd, Int.reduceSub, Int.reduceMul, Int.reduceLT, Int.reduceLE, Int.reduceEq, f2, f3, f4, hCW, List.take_of_length_le]
            refine loop_intro (fun f s' => ∃ i : Nat, i ≤ 8 ∧ f 2 = .ptr l2 0 ∧ f 5 = .ptr l5 0 ∧ f 50 = .agg (wl F) ∧ f 51 = .v (.int .i64 i) ∧ s' = (s7.set l3 (.cells (wl F))).set l5 (.cells (cellsB (quads (F.take i)))))
              (fun f _ => match f 51 with | .v (.int _ n) => (8 - n).toNat | _ => 0) ⟨0, by omega, ?_⟩ ?_
            · simp (dsimp := false) (implicitDefEqProofs := false) (maxSteps := 1000000) (disch := first | omega | assumption | (simp only [rL, Nat.reduceAdd]; done) | (simp only [rL, Nat.reduceAdd]; omega)) only [↓rD, rU, ev, ofConst, ofCell, ↓reduceIte, Nat.reduceEqDiff, Nat.reduceAdd, Nat.reduceSub, Nat.reduceMul, Nat.reduceLeDiff, Nat.reduceLT, Int.reduceNeg, Int.reduceToNat, Int.reduceAdd, Int.reduceSub, Int.reduceMul, Int.reduceLT, Int.reduceLE, Int.reduceEq, f2, f3, f4]
              exact ⟨rfl, by rw [List.take_zero]; rfl⟩
            · rintro f s' ⟨i, hi, f2, f5, f50, f51, rfl⟩
              have hq : (quads (F.take i)).length = 4 * i := by rw [quads_length]; simp; omega
              by_cases hlt : (i : Int) < 8
              · have c0 : (cellsB (quads (F.take i))).length = 32 := cellsB_length (by omega)
                have g0 : (4 * (i : Int)).toNat = 4 * i := by omega
                have g1 : (4 * (i : Int) + 1).toNat = 4 * i + 1 := by omega
                have g2 : (4 * (i : Int) + 2).toNat = 4 * i + 2 := by omega
                have g3 : (4 * (i : Int) + 3).toNat = 4 * i + 3 := by omega
                have hp : ∀ (w : List UInt8) (x : UInt8), w.length < 32 → putAt (cellsB w) w.length [.v (.int .u8 x.toNat)] = cellsB (w ++ [x]) := fun w x h => cellsB_put x rfl h
                simp (dsimp := false) (implicitDefEqProofs := false) (maxSteps := 1000000) (disch := first | omega | assumption | (simp only [rL, Nat.reduceAdd]; done) | (simp only [rL, Nat.reduceAdd]; omega)) only [↓rD, rU, ev, ofConst, ofCell, ↓reduceIte, Nat.reduceEqDiff, Nat.reduceAdd, Nat.reduceSub, Nat.reduceMul, Nat.reduceLeDiff, Nat.reduceLT, Int.reduceNeg, Int.reduceToNat, Int.reduceAdd, Int.reduceSub, Int.reduceMul, Int.reduceLT, Int.reduceLE, Int.reduceEq, f2, f5, f50, f51, hlt, hCW, wl_at, g0, g1, g2, g3, cellsB_put, cellsB_length]
                refine ⟨⟨i + 1, by omega, by simp, ?_⟩, by omega⟩
                have e : quads (F.take (i + 1)) = quads (F.take i) ++ quad (F.getD i 0) := by
                  have hFi : i < F.length := by omega
                  have hg : F.getD i 0 = F[i] := by simp [List.getD, hFi]
                  rw [hg, quads, List.take_succ_eq_append_getElem hFi, List.flatMap_append]
                  simp only [List.flatMap_cons, List.flatMap_nil, List.append_nil, quads]
                rw [e, quad]; simp only [List.append_assoc, List.cons_append, List.nil_append]; rfl
              · obtain rfl : i = 8 := by omega
                have c0 : (cellsB (quads (F.take 8))).length = 32 := cellsB_length (by omega)
                have e8 : F.take 8 = F := List.take_of_length_le (by omega)
                have c1 : cellsB (quads F) = (quads F).map byteAV := by rw [e8] at hq; simp [cellsB, hq]
                have hQ : ((quads F).map byteAV).length = 32 := by rw [e8] at hq; simp [hq]
                have hq8 : (quads F).length = 32 := by rw [e8] at hq; exact hq
                rw [e8, c1]
                simp (dsimp := false) (implicitDefEqProofs := false) (maxSteps := 1000000) (disch := first | omega | assumption | (simp only [rL, Nat.reduceAdd]; done) | (simp only [rL, Nat.reduceAdd]; omega)) only [↓rD, rU, ev, ofConst, ofCell, ↓reduceIte, Nat.reduceEqDiff, Nat.reduceAdd, Nat.reduceSub, Nat.reduceMul, Nat.reduceLeDiff, Nat.reduceLT, Int.reduceNeg, Int.reduceToNat, Int.reduceAdd, Int.reduceSub, Int.reduceMul, Int.reduceLT, Int.reduceLE, Int.reduceEq, f2, f5, f50, f51, hlt, hQ, List.take_of_length_le, Hp.stA_of hl27, Hp.read_of hl27, d52, Ne.symm d52, Ne.symm d32, putAt_all]
                refine ⟨s, ?_, rfl, rfl⟩
                exact Hp.sub_new (Hp.sub_new (Hp.sub_new hs7 n3) (Hp.sub_none hs7 n5)) n2

theorem new_spec (s : Hp) : AC Tryz.prog 42 [] s fun r s' => ∃ l, s l = none ∧ r = .ptr l 0 ∧ s' = s.set l (.cells (wl H256 ++ [.sl [] .nil, .v (.int .u64 0)])) := by
  refine AC_run hm prep42 (by simp) ?_
  simp (dsimp := false) (implicitDefEqProofs := false) (maxSteps := 1000000) (disch := first | omega | assumption | (simp only [rL, Nat.reduceAdd]; done) | (simp only [rL, Nat.reduceAdd]; omega)) only [↓rD, rU, ev, ofConst, ofCell, ↓reduceIte, Nat.reduceEqDiff, Nat.reduceAdd, Nat.reduceSub, Nat.reduceMul, Nat.reduceLeDiff, Nat.reduceLT, Int.reduceNeg, Int.reduceToNat, Int.reduceAdd, Int.reduceSub, Int.reduceMul, Int.reduceLT, Int.reduceLE, Int.reduceEq]
  refine call_intro (begin_spec _) ?_
  rintro _ _ ⟨rfl, rfl⟩
  have h8 : (wl H256).length = 8 := rfl
  have e : putAt (List.replicate 8 (AV.v (Value.int IntKind.u32 0)) ++ [AV.sl [] Own.nil] ++ [AV.v (Value.int IntKind.u64 0)]) 0 (wl H256) = wl H256 ++ [.sl [] .nil, .v (.int .u64 0)] := rfl
  simp (dsimp := false) (implicitDefEqProofs := false) (maxSteps := 1000000) (disch := first | omega | assumption | (simp only [rL, Nat.reduceAdd]; done) | (simp only [rL, Nat.reduceAdd]; omega)) only [↓rD, rU, ev, ofConst, ofCell, ↓reduceIte, Nat.reduceEqDiff, Nat.reduceAdd, Nat.reduceSub, Nat.reduceMul, Nat.reduceLeDiff, Nat.reduceLT, Int.reduceNeg, Int.reduceToNat, Int.reduceAdd, Int.reduceSub, Int.reduceMul, Int.reduceLT, Int.reduceLE, Int.reduceEq, h8, e]
  refine newK_intro fun l hl => ?_
  simp (dsimp := false) (implicitDefEqProofs := false) (maxSteps := 1000000) (disch := first | omega | assumption | (simp only [rL, Nat.reduceAdd]; done) | (simp only [rL, Nat.reduceAdd]; omega)) only [↓rD, rU, ev, ofConst, ofCell, ↓reduceIte, Nat.reduceEqDiff, Nat.reduceAdd, Nat.reduceSub, Nat.reduceMul, Nat.reduceLeDiff, Nat.reduceLT, Int.reduceNeg, Int.reduceToNat, Int.reduceAdd, Int.reduceSub, Int.reduceMul, Int.reduceLT, Int.reduceLE, Int.reduceEq]
  exact ⟨_, Hp.sub_refl, l, hl, rfl, rfl⟩

def sha256 (bs : List UInt8) : List UInt8 :=
  quads (blocks ((padB bs.length (bs.drop (64 * (bs.length / 64)))).length / 64) (blocks (bs.length / 64) H256 bs) (padB bs.length (bs.drop (64 * (bs.length / 64)))))
theorem sha256_length (bs : List UInt8) : (sha256 bs).length = 32 := by
  rw [sha256, quads_length, blocks_length _ _ _ (blocks_length _ _ _ rfl)]

theorem sum_spec (bs : List UInt8) (o : Own) (hb : bs.length ≤ 70368744177664) (s : Hp) : AC Tryz.prog 14 [.sl (bs.map byteAV) o] s fun r s' => s' = s ∧ r = dg (sha256 bs) := by
  refine AC_run hm prep14 (by simp) ?_
  simp (dsimp := false) (implicitDefEqProofs := false) (maxSteps := 1000000) (disch := first | omega | assumption | (simp only [rL, Nat.reduceAdd]; done) | (simp only [rL, Nat.reduceAdd]; omega)) only [↓rD, rU, ev, ofConst, ofCell, ↓reduceIte, Nat.reduceEqDiff, Nat.reduceAdd, Nat.reduceSub, Nat.reduceMul, Nat.reduceLeDiff, Nat.reduceLT, Int.reduceNeg, Int.reduceToNat, Int.reduceAdd, Int.reduceSub, Int.reduceMul, Int.reduceLT, Int.reduceLE, Int.reduceEq]
  refine newK_intro fun l2 n2 => ?_
  simp (dsimp := false) (implicitDefEqProofs := false) (maxSteps := 1000000) (disch := first | omega | assumption | (simp only [rL, Nat.reduceAdd]; done) | (simp only [rL, Nat.reduceAdd]; omega)) only [↓rD, rU, ev, ofConst, ofCell, ↓reduceIte, Nat.reduceEqDiff, Nat.reduceAdd, Nat.reduceSub, Nat.reduceMul, Nat.reduceLeDiff, Nat.reduceLT, Int.reduceNeg, Int.reduceToNat, Int.reduceAdd, Int.reduceSub, Int.reduceMul, Int.reduceLT, Int.reduceLE, Int.reduceEq]
  refine call_intro (new_spec _) ?_
  rintro _ _ ⟨l, hl, rfl, rfl⟩
  obtain ⟨d2, nl⟩ := Hp.set_none hl
  simp (dsimp := false) (implicitDefEqProofs := false) (maxSteps := 1000000) (disch := first | omega | assumption | (simp only [rL, Nat.reduceAdd]; done) | (simp only [rL, Nat.reduceAdd]; omega)) only [↓rD, rU, ev, ofConst, ofCell, ↓reduceIte, Nat.reduceEqDiff, Nat.reduceAdd, Nat.reduceSub, Nat.reduceMul, Nat.reduceLeDiff, Nat.reduceLT, Int.reduceNeg, Int.reduceToNat, Int.reduceAdd, Int.reduceSub, Int.reduceMul, Int.reduceLT, Int.reduceLE, Int.reduceEq]
  refine call_intro (write_spec bs o hb _ l (Hp.set_same _ _ _)) ?_
  rintro _ _ ⟨o', rfl⟩
  simp (dsimp := false) (implicitDefEqProofs := false) (maxSteps := 1000000) (disch := first | omega | assumption | (simp only [rL, Nat.reduceAdd]; done) | (simp only [rL, Nat.reduceAdd]; omega)) only [↓rD, rU, ev, ofConst, ofCell, ↓reduceIte, Nat.reduceEqDiff, Nat.reduceAdd, Nat.reduceSub, Nat.reduceMul, Nat.reduceLeDiff, Nat.reduceLT, Int.reduceNeg, Int.reduceToNat, Int.reduceAdd, Int.reduceSub, Int.reduceMul, Int.reduceLT, Int.reduceLE, Int.reduceEq]
  have hdl : (bs.drop (64 * (bs.length / 64))).length = bs.length % 64 := by simp; omega
  refine call_intro (done_aux H256 rfl begin_spec (blocks (bs.length / 64) H256 bs) (blocks_length _ _ _ rfl) bs.length (bs.drop (64 * (bs.length / 64))) o' hb hdl (fun h0 => ?_) _ l (Hp.set_same _ _ _)) ?_
  · rw [h0]; rfl
  rintro _ _ ⟨rfl, rfl⟩
  have hq : ((sha256 bs).map byteAV).length = 32 := by rw [List.length_map, sha256_length]
  have hq' := sha256_length bs
  have hsd : dg (quads (blocks ((padB bs.length (bs.drop (64 * (bs.length / 64)))).length / 64) (blocks (bs.length / 64) H256 bs) (padB bs.length (bs.drop (64 * (bs.length / 64)))))) = .agg ((sha256 bs).map byteAV) := rfl
  rw [hsd]
  generalize sha256 bs = d at *
  simp (dsimp := false) (implicitDefEqProofs := false) (maxSteps := 1000000) (disch := first | omega | assumption | (simp only [rL, Nat.reduceAdd]; done) | (simp only [rL, Nat.reduceAdd]; omega)) only [↓rD, rU, ev, ofConst, ofCell, ↓reduceIte, Nat.reduceEqDiff, Nat.reduceAdd, Nat.reduceSub, Nat.reduceMul, Nat.reduceLeDiff, Nat.reduceLT, Int.reduceNeg, Int.reduceToNat, Int.reduceAdd, Int.reduceSub, Int.reduceMul, Int.reduceLT, Int.reduceLE, Int.reduceEq, hq, Ne.symm d2]
  exact ⟨s, Hp.sub_new (Hp.sub_new Hp.sub_refl n2) nl, rfl, by rw [List.take_of_length_le (by omega)]; rfl⟩
end Go.Proofs.YtnnjjmiahcnbaaaGreat
set_option maxRecDepth 100000
namespace Go.Proofs.YtnnjjmiahcnbaaaGreat
open Go Go.Av

def blen (x : Nat) : Nat := if x = 0 then 0 else x.log2 + 1
theorem blen_shift (x k : Nat) (h : 2 ^ k ≤ x) : k + blen (x >>> k) = blen x := by
  have hp : 0 < 2 ^ k := Nat.pow_pos (by omega)
  have h0 : x ≠ 0 := by omega
  have h1 : x >>> k ≠ 0 := by
    rw [Nat.shiftRight_eq_div_pow]
    have := Nat.div_pos h hp; omega
  have e : x.log2 = k + (x >>> k).log2 := by
    rw [Nat.log2_eq_iff h0]
    obtain ⟨a, b⟩ := (Nat.log2_eq_iff h1).1 rfl
    generalize (x >>> k).log2 = L at *
    rw [Nat.shiftRight_eq_div_pow] at a b
    rw [Nat.le_div_iff_mul_le hp] at a
    rw [Nat.div_lt_iff_lt_mul hp] at b
    constructor
    · rw [Nat.add_comm, Nat.pow_add]; exact a
    · rw [show k + L + 1 = (L + 1) + k by omega, Nat.pow_add]; exact b
  simp only [blen, h0, h1, if_false, e]; omega
theorem blen_le (x k : Nat) (h : x < 2 ^ k) : blen x ≤ k := by
  unfold blen; split
  · omega
  · rename_i h0; have := (Nat.log2_lt h0).2 h; omega

def tabOk (t : ByteArray) : Bool := (List.range 256).all fun i => t.data[i]? == some (UInt8.ofNat (blen i))
theorem tab_ok (t : ByteArray) (x : Nat) (h : tabOk t = true) (hx : x < 256) : idxSA (.v (.string t)) (.v (.int .u8 x)) = some (.v (.int .u8 (blen x))) := by
  simp only [tabOk, List.all_eq_true, List.mem_range] at h
  have h1 := h x hx
  have h2 : t.data[x]? = some (UInt8.ofNat (blen x)) := by simpa using h1
  have h3 := blen_le x 8 hx
  simp only [idxSA, Int.toNat_natCast, h2, if_pos (Int.natCast_nonneg x)]
  have : (UInt8.ofNat (blen x)).toNat = blen x := by simp; omega
  rw [this]

theorem len64_spec (x : Nat) (hx : x < 2 ^ 64) (s : Hp) : AC Tryz.prog 129 [.v (.int .u64 x)] s fun r s' => s' = s ∧ r = .v (.int .i64 (blen x)) := by
  refine AC_run hm prep129 (by simp) ?_
  simp (dsimp := false) (implicitDefEqProofs := false) (maxSteps := 1000000) (disch := first | omega | assumption | (simp only [rL, Nat.reduceAdd]; done) | (simp only [rL, Nat.reduceAdd]; omega)) only [↓rD, rU, ev, ofConst, ofCell, ↓reduceIte, Nat.reduceEqDiff, Nat.reduceAdd, Nat.reduceSub, Nat.reduceMul, Nat.reduceLeDiff, Nat.reduceLT, Int.reduceNeg, Int.reduceToNat, Int.reduceAdd, Int.reduceSub, Int.reduceMul, Int.reduceLT, Int.reduceLE, Int.reduceEq]
  refine cond_join (fun f s' => s' = s ∧ ∃ y r : Nat, f 0 = .v (.int .u64 y) ∧ f 2 = .v (.int .i64 r) ∧ y < 2 ^ 32 ∧ r ≤ 32 ∧ r + blen y = blen x) ?_ ?_ ?_
  · intro h
    have h : 4294967296 ≤ x := by simp at h; omega
    simp (dsimp := false) (implicitDefEqProofs := false) (maxSteps := 1000000) (disch := first | omega | assumption | (simp only [rL, Nat.reduceAdd]; done) | (simp only [rL, Nat.reduceAdd]; omega)) only [↓rD, rU, ev, ofConst, ofCell, ↓reduceIte, Nat.reduceEqDiff, Nat.reduceAdd, Nat.reduceSub, Nat.reduceMul, Nat.reduceLeDiff, Nat.reduceLT, Int.reduceNeg, Int.reduceToNat, Int.reduceAdd, Int.reduceSub, Int.reduceMul, Int.reduceLT, Int.reduceLE, Int.reduceEq]
    exact ⟨x >>> 32, 32, rfl, rfl, by simp [Nat.shiftRight_eq_div_pow]; omega, by omega, blen_shift x 32 h⟩
  · intro h
    have h : x < 4294967296 := by simp at h; omega
    simp (dsimp := false) (implicitDefEqProofs := false) (maxSteps := 1000000) (disch := first | omega | assumption | (simp only [rL, Nat.reduceAdd]; done) | (simp only [rL, Nat.reduceAdd]; omega)) only [↓rD, rU, ev, ofConst, ofCell, ↓reduceIte, Nat.reduceEqDiff, Nat.reduceAdd, Nat.reduceSub, Nat.reduceMul, Nat.reduceLeDiff, Nat.reduceLT, Int.reduceNeg, Int.reduceToNat, Int.reduceAdd, Int.reduceSub, Int.reduceMul, Int.reduceLT, Int.reduceLE, Int.reduceEq]
    exact ⟨x, 0, rfl, rfl, h, by omega, by omega⟩
  rintro f s' ⟨hs', y, r, f0, f2, hy, hr, hb⟩
  rw [hs']
  simp (dsimp := false) (implicitDefEqProofs := false) (maxSteps := 1000000) (disch := first | omega | assumption | (simp only [rL, Nat.reduceAdd]; done) | (simp only [rL, Nat.reduceAdd]; omega)) only [↓rD, rU, ev, ofConst, ofCell, ↓reduceIte, Nat.reduceEqDiff, Nat.reduceAdd, Nat.reduceSub, Nat.reduceMul, Nat.reduceLeDiff, Nat.reduceLT, Int.reduceNeg, Int.reduceToNat, Int.reduceAdd, Int.reduceSub, Int.reduceMul, Int.reduceLT, Int.reduceLE, Int.reduceEq, f0, f2]
  refine cond_join (fun f s' => s' = s ∧ ∃ y r : Nat, f 0 = .v (.int .u64 y) ∧ f 2 = .v (.int .i64 r) ∧ y < 2 ^ 16 ∧ r ≤ 48 ∧ r + blen y = blen x) ?_ ?_ ?_
  · intro h
    have h : 65536 ≤ y := by simp at h; omega
    simp (dsimp := false) (implicitDefEqProofs := false) (maxSteps := 1000000) (disch := first | omega | assumption | (simp only [rL, Nat.reduceAdd]; done) | (simp only [rL, Nat.reduceAdd]; omega)) only [↓rD, rU, ev, ofConst, ofCell, ↓reduceIte, Nat.reduceEqDiff, Nat.reduceAdd, Nat.reduceSub, Nat.reduceMul, Nat.reduceLeDiff, Nat.reduceLT, Int.reduceNeg, Int.reduceToNat, Int.reduceAdd, Int.reduceSub, Int.reduceMul, Int.reduceLT, Int.reduceLE, Int.reduceEq, f0, f2]
    exact ⟨y >>> 16, r + 16, rfl, by simp, by simp [Nat.shiftRight_eq_div_pow]; omega, by omega, by have := blen_shift y 16 h; rw [← hb, ← this]; omega⟩
  · intro h
    have h : y < 65536 := by simp at h; omega
    simp (dsimp := false) (implicitDefEqProofs := false) (maxSteps := 1000000) (disch := first | omega | assumption | (simp only [rL, Nat.reduceAdd]; done) | (simp only [rL, Nat.reduceAdd]; omega)) only [↓rD, rU, ev, ofConst, ofCell, ↓reduceIte, Nat.reduceEqDiff, Nat.reduceAdd, Nat.reduceSub, Nat.reduceMul, Nat.reduceLeDiff, Nat.reduceLT, Int.reduceNeg, Int.reduceToNat, Int.reduceAdd, Int.reduceSub, Int.reduceMul, Int.reduceLT, Int.reduceLE, Int.reduceEq, f0, f2]
    exact ⟨y, r, rfl, rfl, h, by omega, hb⟩
  rintro f s' ⟨hs', y, r, f0, f2, hy, hr, hb⟩
  rw [hs']
  simp (dsimp := false) (implicitDefEqProofs := false) (maxSteps := 1000000) (disch := first | omega | assumption | (simp only [rL, Nat.reduceAdd]; done) | (simp only [rL, Nat.reduceAdd]; omega)) only [↓rD, rU, ev, ofConst, ofCell, ↓reduceIte, Nat.reduceEqDiff, Nat.reduceAdd, Nat.reduceSub, Nat.reduceMul, Nat.reduceLeDiff, Nat.reduceLT, Int.reduceNeg, Int.reduceToNat, Int.reduceAdd, Int.reduceSub, Int.reduceMul, Int.reduceLT, Int.reduceLE, Int.reduceEq, f0, f2]
  refine cond_join (fun f s' => s' = s ∧ ∃ y r : Nat, f 0 = .v (.int .u64 y) ∧ f 2 = .v (.int .i64 r) ∧ y < 2 ^ 8 ∧ r ≤ 56 ∧ r + blen y = blen x) ?_ ?_ ?_
  · intro h
    have h : 256 ≤ y := by simp at h; omega
    simp (dsimp := false) (implicitDefEqProofs := false) (maxSteps := 1000000) (disch := first | omega | assumption | (simp only [rL, Nat.reduceAdd]; done) | (simp only [rL, Nat.reduceAdd]; omega)) only [↓rD, rU, ev, ofConst, ofCell, ↓reduceIte, Nat.reduceEqDiff, Nat.reduceAdd, Nat.reduceSub, Nat.reduceMul, Nat.reduceLeDiff, Nat.reduceLT, Int.reduceNeg, Int.reduceToNat, Int.reduceAdd, Int.reduceSub, Int.reduceMul, Int.reduceLT, Int.reduceLE, Int.reduceEq, f0, f2]
    exact ⟨y >>> 8, r + 8, rfl, by simp, by simp [Nat.shiftRight_eq_div_pow]; omega, by omega, by have := blen_shift y 8 h; rw [← hb, ← this]; omega⟩
  · intro h
    have h : y < 256 := by simp at h; omega
    simp (dsimp := false) (implicitDefEqProofs := false) (maxSteps := 1000000) (disch := first | omega | assumption | (simp only [rL, Nat.reduceAdd]; done) | (simp only [rL, Nat.reduceAdd]; omega)) only [↓rD, rU, ev, ofConst, ofCell, ↓reduceIte, Nat.reduceEqDiff, Nat.reduceAdd, Nat.reduceSub, Nat.reduceMul, Nat.reduceLeDiff, Nat.reduceLT, Int.reduceNeg, Int.reduceToNat, Int.reduceAdd, Int.reduceSub, Int.reduceMul, Int.reduceLT, Int.reduceLE, Int.reduceEq, f0, f2]
    exact ⟨y, r, rfl, rfl, h, by omega, hb⟩
  rintro f s' ⟨hs', y, r, f0, f2, hy, hr, hb⟩
  rw [hs']
  have hw : IntKind.u8.wrap (y : Int) = y := wrap_u8 (by omega) (by omega)
  have hl := blen_le y 8 hy
  simp (dsimp := false) (implicitDefEqProofs := false) (maxSteps := 1000000) (disch := first | omega | assumption | (simp only [rL, Nat.reduceAdd]; done) | (simp only [rL, Nat.reduceAdd]; omega)) only [↓rD, rU, ev, ofConst, ofCell, ↓reduceIte, Nat.reduceEqDiff, Nat.reduceAdd, Nat.reduceSub, Nat.reduceMul, Nat.reduceLeDiff, Nat.reduceLT, Int.reduceNeg, Int.reduceToNat, Int.reduceAdd, Int.reduceSub, Int.reduceMul, Int.reduceLT, Int.reduceLE, Int.reduceEq, f0, f2, hw]
  rw [tab_ok]
  · simp (dsimp := false) (implicitDefEqProofs := false) (maxSteps := 1000000) (disch := first | omega | assumption | (simp only [rL, Nat.reduceAdd]; done) | (simp only [rL, Nat.reduceAdd]; omega)) only [↓rD, rU, ev, ofConst, ofCell, ↓reduceIte, Nat.reduceEqDiff, Nat.reduceAdd, Nat.reduceSub, Nat.reduceMul, Nat.reduceLeDiff, Nat.reduceLT, Int.reduceNeg, Int.reduceToNat, Int.reduceAdd, Int.reduceSub, Int.reduceMul, Int.reduceLT, Int.reduceLE, Int.reduceEq, f0, f2]
    exact ⟨s, Hp.sub_refl, rfl, by rw [← hb]; simp⟩
  · decide
  · exact hy
end Go.Proofs.YtnnjjmiahcnbaaaGreat
set_option maxRecDepth 100000
namespace Go.Proofs.YtnnjjmiahcnbaaaGreat
open Go Go.Av

theorem len_spec (x : Nat) (hx : x < 2 ^ 64) (s : Hp) : AC Tryz.prog 106 [.v (.int .u64 x)] s fun r s' => s' = s ∧ r = .v (.int .i64 (blen x)) := by
  refine AC_run hm prep106 (by simp) ?_
  simp (dsimp := false) (implicitDefEqProofs := false) (maxSteps := 1000000) (disch := first | omega | assumption | (simp only [rL, Nat.reduceAdd]; done) | (simp only [rL, Nat.reduceAdd]; omega)) only [↓rD, rU, ev, ofConst, ofCell, ↓reduceIte, Nat.reduceEqDiff, Nat.reduceAdd, Nat.reduceSub, Nat.reduceMul, Nat.reduceLeDiff, Nat.reduceLT, Int.reduceNeg, Int.reduceToNat, Int.reduceAdd, Int.reduceSub, Int.reduceMul, Int.reduceLT, Int.reduceLE, Int.reduceEq]
  refine call_intro (len64_spec x hx _) ?_
  rintro _ _ ⟨rfl, rfl⟩
  simp (dsimp := false) (implicitDefEqProofs := false) (maxSteps := 1000000) (disch := first | omega | assumption | (simp only [rL, Nat.reduceAdd]; done) | (simp only [rL, Nat.reduceAdd]; omega)) only [↓rD, rU, ev, ofConst, ofCell, ↓reduceIte, Nat.reduceEqDiff, Nat.reduceAdd, Nat.reduceSub, Nat.reduceMul, Nat.reduceLeDiff, Nat.reduceLT, Int.reduceNeg, Int.reduceToNat, Int.reduceAdd, Int.reduceSub, Int.reduceMul, Int.reduceLT, Int.reduceLE, Int.reduceEq]
  exact ⟨_, Hp.sub_refl, rfl⟩

def half (n : Nat) : Nat := 2 ^ (n - 1).log2
theorem half_pos (n : Nat) : 0 < half n := Nat.pow_pos (by omega)
theorem half_lt (n : Nat) (h : 2 ≤ n) : half n < n := by
  have := Nat.log2_self_le (show n - 1 ≠ 0 by omega)
  unfold half; omega
theorem half_le (n : Nat) (h : 2 ≤ n) : n ≤ 2 * half n := by
  have := Nat.lt_log2_self (n := n - 1)
  rw [Nat.pow_succ] at this
  unfold half; omega

theorem half_spec (n : Nat) (h : 2 ≤ n) (hn : n ≤ 2 ^ 60) (s : Hp) : AC Tryz.prog 80 [.v (.int .i64 n)] s fun r s' => s' = s ∧ r = .v (.int .i64 (half n)) := by
  refine AC_run hm prep80 (by simp) ?_
  have e : (n : Int) - 1 = ((n - 1 : Nat) : Int) := by omega
  simp (dsimp := false) (implicitDefEqProofs := false) (maxSteps := 1000000) (disch := first | omega | assumption | (simp only [rL, Nat.reduceAdd]; done) | (simp only [rL, Nat.reduceAdd]; omega)) only [↓rD, rU, ev, ofConst, ofCell, ↓reduceIte, Nat.reduceEqDiff, Nat.reduceAdd, Nat.reduceSub, Nat.reduceMul, Nat.reduceLeDiff, Nat.reduceLT, Int.reduceNeg, Int.reduceToNat, Int.reduceAdd, Int.reduceSub, Int.reduceMul, Int.reduceLT, Int.reduceLE, Int.reduceEq, e]
  refine call_intro (len_spec (n - 1) (by omega) _) ?_
  rintro _ _ ⟨rfl, rfl⟩
  have hb : blen (n - 1) = (n - 1).log2 + 1 := by simp [blen]; omega
  have hl : (n - 1).log2 < 60 := (Nat.log2_lt (by omega)).2 (by omega)
  have e2 : ((blen (n - 1) : Nat) : Int) - 1 = ((n - 1).log2 : Nat) := by omega
  have hlt := half_lt n h
  have e3 : (2 : Int) ^ (n - 1).log2 = (half n : Nat) := by simp [half]
  simp (dsimp := false) (implicitDefEqProofs := false) (maxSteps := 1000000) (disch := first | omega | assumption | (simp only [rL, Nat.reduceAdd]; done) | (simp only [rL, Nat.reduceAdd]; omega)) only [↓rD, rU, ev, ofConst, ofCell, ↓reduceIte, Nat.reduceEqDiff, Nat.reduceAdd, Nat.reduceSub, Nat.reduceMul, Nat.reduceLeDiff, Nat.reduceLT, Int.reduceNeg, Int.reduceToNat, Int.reduceAdd, Int.reduceSub, Int.reduceMul, Int.reduceLT, Int.reduceLE, Int.reduceEq, e2, shl_i64, Int.one_mul, e3]
  exact ⟨_, Hp.sub_refl, rfl⟩

def leafB (d : List UInt8) : List UInt8 := preB 76 [d]
def nodeB (a b : List UInt8) : List UInt8 := preB 78 [a, b]
theorem leafB_length (d : List UInt8) (h : d.length = 32) : (leafB d).length = 41 := by simp [leafB, preB, chunk, eightB, h]
theorem nodeB_length (a b : List UInt8) (h : a.length = 32) (h2 : b.length = 32) : (nodeB a b).length = 81 := by simp [nodeB, preB, chunk, eightB, h, h2]

theorem leaf_spec (d : List UInt8) (hd : d.length = 32) (s : Hp) : AC Tryz.prog 96 [dg d] s fun r s' => ∃ o, Owned s s' 1 ((leafB d).map byteAV) o ∧ r = .sl ((leafB d).map byteAV) o := by
  refine AC_run hm prep96 (by simp) ?_
  have hl : (dg d).cells = d.map byteAV := rfl
  have hl2 : (d.map byteAV).length = 32 := by simp [hd]
  simp (dsimp := false) (implicitDefEqProofs := false) (maxSteps := 1000000) (disch := first | omega | assumption | (simp only [rL, Nat.reduceAdd]; done) | (simp only [rL, Nat.reduceAdd]; omega)) only [↓rD, rU, ev, ofConst, ofCell, ↓reduceIte, Nat.reduceEqDiff, Nat.reduceAdd, Nat.reduceSub, Nat.reduceMul, Nat.reduceLeDiff, Nat.reduceLT, Int.reduceNeg, Int.reduceToNat, Int.reduceAdd, Int.reduceSub, Int.reduceMul, Int.reduceLT, Int.reduceLE, Int.reduceEq, hl, hd]
  refine newK_intro fun l nl => ?_
  simp (dsimp := false) (implicitDefEqProofs := false) (maxSteps := 1000000) (disch := first | omega | assumption | (simp only [rL, Nat.reduceAdd]; done) | (simp only [rL, Nat.reduceAdd]; omega)) only [↓rD, rU, ev, ofConst, ofCell, ↓reduceIte, Nat.reduceEqDiff, Nat.reduceAdd, Nat.reduceSub, Nat.reduceMul, Nat.reduceLeDiff, Nat.reduceLT, Int.reduceNeg, Int.reduceToNat, Int.reduceAdd, Int.reduceSub, Int.reduceMul, Int.reduceLT, Int.reduceLE, Int.reduceEq, slcRA_one (Hp.set_same _ _ _) hl2, hl]
  refine bsl_own Hp.sub_refl ?_ fun o1 s1 h1 => ?_
  · simp [allLen, AV.cells]
  simp (dsimp := false) (implicitDefEqProofs := false) (maxSteps := 1000000) (disch := first | omega | assumption | (simp only [rL, Nat.reduceAdd]; done) | (simp only [rL, Nat.reduceAdd]; omega)) only [↓rD, rU, ev, ofConst, ofCell, ↓reduceIte, Nat.reduceEqDiff, Nat.reduceAdd, Nat.reduceSub, Nat.reduceMul, Nat.reduceLeDiff, Nat.reduceLT, Int.reduceNeg, Int.reduceToNat, Int.reduceAdd, Int.reduceSub, Int.reduceMul, Int.reduceLT, Int.reduceLE, Int.reduceEq]
  refine call_intro (pre_spec 76 [(d, .any)] o1 (by have := leafB_length d hd; simp only [leafB] at this; simp only [List.map_cons, List.map_nil, this]; omega) _) ?_
  rintro _ s2 ⟨o2, h2, rfl⟩
  simp (dsimp := false) (implicitDefEqProofs := false) (maxSteps := 1000000) (disch := first | omega | assumption | (simp only [rL, Nat.reduceAdd]; done) | (simp only [rL, Nat.reduceAdd]; omega)) only [↓rD, rU, ev, ofConst, ofCell, ↓reduceIte, Nat.reduceEqDiff, Nat.reduceAdd, Nat.reduceSub, Nat.reduceMul, Nat.reduceLeDiff, Nat.reduceLT, Int.reduceNeg, Int.reduceToNat, Int.reduceAdd, Int.reduceSub, Int.reduceMul, Int.reduceLT, Int.reduceLE, Int.reduceEq]
  exact ⟨s2, Hp.sub_refl, o2, h2.base (Hp.sub_trans (Hp.sub_new Hp.sub_refl nl) h1.sub), rfl⟩

theorem node_spec (a b : List UInt8) (ha : a.length = 32) (hb : b.length = 32) (s : Hp) : AC Tryz.prog 82 [dg a, dg b] s fun r s' => ∃ o, Owned s s' 1 ((nodeB a b).map byteAV) o ∧ r = .sl ((nodeB a b).map byteAV) o := by
  refine AC_run hm prep82 (by simp) ?_
  have hl (d) : (dg d).cells = d.map byteAV := rfl
  have ha2 : (a.map byteAV).length = 32 := by simp [ha]
  have hb2 : (b.map byteAV).length = 32 := by simp [hb]
  simp (dsimp := false) (implicitDefEqProofs := false) (maxSteps := 1000000) (disch := first | omega | assumption | (simp only [rL, Nat.reduceAdd]; done) | (simp only [rL, Nat.reduceAdd]; omega)) only [↓rD, rU, ev, ofConst, ofCell, ↓reduceIte, Nat.reduceEqDiff, Nat.reduceAdd, Nat.reduceSub, Nat.reduceMul, Nat.reduceLeDiff, Nat.reduceLT, Int.reduceNeg, Int.reduceToNat, Int.reduceAdd, Int.reduceSub, Int.reduceMul, Int.reduceLT, Int.reduceLE, Int.reduceEq, hl, ha]
  refine newK_intro fun l nl => ?_
  simp (dsimp := false) (implicitDefEqProofs := false) (maxSteps := 1000000) (disch := first | omega | assumption | (simp only [rL, Nat.reduceAdd]; done) | (simp only [rL, Nat.reduceAdd]; omega)) only [↓rD, rU, ev, ofConst, ofCell, ↓reduceIte, Nat.reduceEqDiff, Nat.reduceAdd, Nat.reduceSub, Nat.reduceMul, Nat.reduceLeDiff, Nat.reduceLT, Int.reduceNeg, Int.reduceToNat, Int.reduceAdd, Int.reduceSub, Int.reduceMul, Int.reduceLT, Int.reduceLE, Int.reduceEq, hl, hb]
  refine newK_intro fun l2 nl2 => ?_
  obtain ⟨dl, nl2⟩ := Hp.set_none nl2
  have hs1 : ((s.set l (.ro (a.map byteAV))).set l2 (.ro (b.map byteAV))) l = some (.ro (a.map byteAV)) := by rw [Hp.set_ne _ _ (Ne.symm dl)]; exact Hp.set_same _ _ _
  simp (dsimp := false) (implicitDefEqProofs := false) (maxSteps := 1000000) (disch := first | omega | assumption | (simp only [rL, Nat.reduceAdd]; done) | (simp only [rL, Nat.reduceAdd]; omega)) only [↓rD, rU, ev, ofConst, ofCell, ↓reduceIte, Nat.reduceEqDiff, Nat.reduceAdd, Nat.reduceSub, Nat.reduceMul, Nat.reduceLeDiff, Nat.reduceLT, Int.reduceNeg, Int.reduceToNat, Int.reduceAdd, Int.reduceSub, Int.reduceMul, Int.reduceLT, Int.reduceLE, Int.reduceEq, slcRA_one hs1 ha2, slcRA_one (Hp.set_same _ _ _) hb2, hl]
  refine bsl_own Hp.sub_refl ?_ fun o1 s1 h1 => ?_
  · simp [allLen, AV.cells]
  simp (dsimp := false) (implicitDefEqProofs := false) (maxSteps := 1000000) (disch := first | omega | assumption | (simp only [rL, Nat.reduceAdd]; done) | (simp only [rL, Nat.reduceAdd]; omega)) only [↓rD, rU, ev, ofConst, ofCell, ↓reduceIte, Nat.reduceEqDiff, Nat.reduceAdd, Nat.reduceSub, Nat.reduceMul, Nat.reduceLeDiff, Nat.reduceLT, Int.reduceNeg, Int.reduceToNat, Int.reduceAdd, Int.reduceSub, Int.reduceMul, Int.reduceLT, Int.reduceLE, Int.reduceEq]
  refine call_intro (pre_spec 78 [(a, .any), (b, .any)] o1 (by have := nodeB_length a b ha hb; simp only [nodeB] at this; simp only [List.map_cons, List.map_nil, this]; omega) _) ?_
  rintro _ s2 ⟨o2, h2, rfl⟩
  simp (dsimp := false) (implicitDefEqProofs := false) (maxSteps := 1000000) (disch := first | omega | assumption | (simp only [rL, Nat.reduceAdd]; done) | (simp only [rL, Nat.reduceAdd]; omega)) only [↓rD, rU, ev, ofConst, ofCell, ↓reduceIte, Nat.reduceEqDiff, Nat.reduceAdd, Nat.reduceSub, Nat.reduceMul, Nat.reduceLeDiff, Nat.reduceLT, Int.reduceNeg, Int.reduceToNat, Int.reduceAdd, Int.reduceSub, Int.reduceMul, Int.reduceLT, Int.reduceLE, Int.reduceEq]
  exact ⟨s2, Hp.sub_refl, o2, h2.base (Hp.sub_trans (Hp.sub_new (Hp.sub_new Hp.sub_refl nl) nl2) h1.sub), rfl⟩

theorem hash_spec (tag : UInt8) (ts : List (List UInt8 × Own)) (o : Own) (hlen : (preB tag (ts.map (·.1))).length ≤ 70368744177664) (s : Hp) :
    AC Tryz.prog 59 [.v (.int .u8 tag.toNat), .sl (TX ts) o] s fun r s' => s' = s ∧ r = dg (sha256 (preB tag (ts.map (·.1)))) := by
  refine AC_run hm prep59 (by simp) ?_
  simp (dsimp := false) (implicitDefEqProofs := false) (maxSteps := 1000000) (disch := first | omega | assumption | (simp only [rL, Nat.reduceAdd]; done) | (simp only [rL, Nat.reduceAdd]; omega)) only [↓rD, rU, ev, ofConst, ofCell, ↓reduceIte, Nat.reduceEqDiff, Nat.reduceAdd, Nat.reduceSub, Nat.reduceMul, Nat.reduceLeDiff, Nat.reduceLT, Int.reduceNeg, Int.reduceToNat, Int.reduceAdd, Int.reduceSub, Int.reduceMul, Int.reduceLT, Int.reduceLE, Int.reduceEq]
  refine newK_intro fun l nl => ?_
  simp (dsimp := false) (implicitDefEqProofs := false) (maxSteps := 1000000) (disch := first | omega | assumption | (simp only [rL, Nat.reduceAdd]; done) | (simp only [rL, Nat.reduceAdd]; omega)) only [↓rD, rU, ev, ofConst, ofCell, ↓reduceIte, Nat.reduceEqDiff, Nat.reduceAdd, Nat.reduceSub, Nat.reduceMul, Nat.reduceLeDiff, Nat.reduceLT, Int.reduceNeg, Int.reduceToNat, Int.reduceAdd, Int.reduceSub, Int.reduceMul, Int.reduceLT, Int.reduceLE, Int.reduceEq]
  refine call_intro (pre_spec tag ts o hlen _) ?_
  rintro _ s1 ⟨o1, h1, rfl⟩
  have hl := h1.sub _ _ (Hp.set_same _ _ _)
  rw [← Hp.set_eq hl]
  simp (dsimp := false) (implicitDefEqProofs := false) (maxSteps := 1000000) (disch := first | omega | assumption | (simp only [rL, Nat.reduceAdd]; done) | (simp only [rL, Nat.reduceAdd]; omega)) only [↓rD, rU, ev, ofConst, ofCell, ↓reduceIte, Nat.reduceEqDiff, Nat.reduceAdd, Nat.reduceSub, Nat.reduceMul, Nat.reduceLeDiff, Nat.reduceLT, Int.reduceNeg, Int.reduceToNat, Int.reduceAdd, Int.reduceSub, Int.reduceMul, Int.reduceLT, Int.reduceLE, Int.reduceEq]
  refine call_intro (sum_spec _ o1 hlen _) ?_
  rintro _ _ ⟨rfl, rfl⟩
  have hq := sha256_length (preB tag (ts.map (·.1)))
  have hq2 : ((sha256 (preB tag (ts.map (·.1)))).map byteAV).length = 32 := by rw [List.length_map, hq]
  generalize sha256 (preB tag (ts.map (·.1))) = d at *
  have hdc : (dg d).cells = d.map byteAV := rfl
  simp (dsimp := false) (implicitDefEqProofs := false) (maxSteps := 1000000) (disch := first | omega | assumption | (simp only [rL, Nat.reduceAdd]; done) | (simp only [rL, Nat.reduceAdd]; omega)) only [↓rD, rU, ev, ofConst, ofCell, ↓reduceIte, Nat.reduceEqDiff, Nat.reduceAdd, Nat.reduceSub, Nat.reduceMul, Nat.reduceLeDiff, Nat.reduceLT, Int.reduceNeg, Int.reduceToNat, Int.reduceAdd, Int.reduceSub, Int.reduceMul, Int.reduceLT, Int.reduceLE, Int.reduceEq, hdc, hq2, hq]
  refine ⟨s, Hp.sub_new (Hp.sub_trans (Hp.sub_new Hp.sub_refl nl) h1.sub) nl, rfl, ?_⟩
  rw [List.take_of_length_le (by omega)]; rfl
end Go.Proofs.YtnnjjmiahcnbaaaGreat
set_option maxRecDepth 100000
namespace Go.Proofs.YtnnjjmiahcnbaaaGreat
open Go Go.Av

def Digs (l : List (List UInt8)) : Prop := ∀ d ∈ l, d.length = 32
theorem Digs.take {l : List (List UInt8)} (h : Digs l) (n : Nat) : Digs (l.take n) := fun d hd => h d (List.mem_of_mem_take hd)
theorem Digs.drop {l : List (List UInt8)} (h : Digs l) (n : Nat) : Digs (l.drop n) := fun d hd => h d (List.mem_of_mem_drop hd)
theorem Digs.all {l : List (List UInt8)} (h : Digs l) : allLen 32 (l.map dg) := by
  intro e he
  obtain ⟨d, hd, rfl⟩ := List.mem_map.1 he
  simp [dg, AV.cells, h d hd]
theorem mapd_take {l : List (List UInt8)} {n : Nat} : (l.map dg).take n = (l.take n).map dg := by rw [List.map_take]
theorem mapd_drop {l : List (List UInt8)} {n : Nat} : (l.map dg).drop n = (l.drop n).map dg := by rw [List.map_drop]
theorem dg_cells {d : List UInt8} : (dg d).cells = d.map byteAV := rfl
theorem dg_fold {d : List UInt8} (h : d.length = 32) : (.agg ((d.take 32).map byteAV) : AV) = dg d := by rw [List.take_of_length_le (by simp [h])]; rfl
theorem elA_dg {d : List UInt8} (h : d.length = 32) : elA 32 (some (dg d)) = some (.rptr (d.map byteAV)) := by simp [elA, dg_cells, h]

def rootD (l : List (List UInt8)) : List UInt8 :=
  if h : l.length < 2 then (match l with | [] => sha256 (preB 72 []) | d :: _ => sha256 (leafB d))
  else sha256 (nodeB (rootD (l.take (half l.length))) (rootD (l.drop (half l.length))))
termination_by l.length
decreasing_by
  · have := half_lt l.length (by omega); simp; omega
  · have := half_pos l.length; simp; omega
theorem rootD_nil : rootD [] = sha256 (preB 72 []) := by rw [rootD]; rfl
theorem rootD_one (d : List UInt8) : rootD [d] = sha256 (leafB d) := by rw [rootD]; rfl
theorem rootD_node (l : List (List UInt8)) (h : 2 ≤ l.length) : rootD l = sha256 (nodeB (rootD (l.take (half l.length))) (rootD (l.drop (half l.length)))) := by
  rw [rootD, dif_neg (by omega)]
theorem rootD_length (l : List (List UInt8)) : (rootD l).length = 32 := by
  match l with
  | [] => rw [rootD_nil, sha256_length]
  | [d] => rw [rootD_one, sha256_length]
  | a :: b :: r => rw [rootD_node _ (by simp), sha256_length]

theorem root_spec : ∀ (N : Nat) (l : List (List UInt8)) (o : Own) (s : Hp), l.length = N → l.length ≤ 1099511627776 → Digs l → AC Tryz.prog 61 [.sl (l.map dg) o] s fun r s' => s' = s ∧ r = dg (rootD l) := by
  intro N
  induction N using Nat.strongRecOn with
  | _ N ih =>
  intro l o s hN hle hd
  refine AC_run hm prep61 (by simp) ?_
  simp (dsimp := false) (implicitDefEqProofs := false) (maxSteps := 1000000) (disch := first | omega | assumption | (simp only [rL, Nat.reduceAdd]; done) | (simp only [rL, Nat.reduceAdd]; omega)) only [↓rD, rU, ev, ofConst, ofCell, ↓reduceIte, Nat.reduceEqDiff, Nat.reduceAdd, Nat.reduceSub, Nat.reduceMul, Nat.reduceLeDiff, Nat.reduceLT, Int.reduceNeg, Int.reduceToNat, Int.reduceAdd, Int.reduceSub, Int.reduceMul, Int.reduceLT, Int.reduceLE, Int.reduceEq, rX]
  refine newK_intro fun l2 n2 => ?_
  simp (dsimp := false) (implicitDefEqProofs := false) (maxSteps := 1000000) (disch := first | omega | assumption | (simp only [rL, Nat.reduceAdd]; done) | (simp only [rL, Nat.reduceAdd]; omega)) only [↓rD, rU, ev, ofConst, ofCell, ↓reduceIte, Nat.reduceEqDiff, Nat.reduceAdd, Nat.reduceSub, Nat.reduceMul, Nat.reduceLeDiff, Nat.reduceLT, Int.reduceNeg, Int.reduceToNat, Int.reduceAdd, Int.reduceSub, Int.reduceMul, Int.reduceLT, Int.reduceLE, Int.reduceEq, rX]
  by_cases h0 : l.length = 0
  · obtain rfl := List.eq_nil_of_length_eq_zero h0
    simp (dsimp := false) (implicitDefEqProofs := false) (maxSteps := 1000000) (disch := first | omega | assumption | (simp only [rL, Nat.reduceAdd]; done) | (simp only [rL, Nat.reduceAdd]; omega)) only [↓rD, rU, ev, ofConst, ofCell, ↓reduceIte, Nat.reduceEqDiff, Nat.reduceAdd, Nat.reduceSub, Nat.reduceMul, Nat.reduceLeDiff, Nat.reduceLT, Int.reduceNeg, Int.reduceToNat, Int.reduceAdd, Int.reduceSub, Int.reduceMul, Int.reduceLT, Int.reduceLE, Int.reduceEq, rX]
    refine call_intro (hash_spec 72 [] .nil (by simp [preB]) _) ?_
    rintro _ _ ⟨rfl, rfl⟩
    have hq := sha256_length (preB 72 [])
    rw [rootD_nil]
    simp only [List.map_nil]
    generalize sha256 (preB 72 []) = d at *
    simp (dsimp := false) (implicitDefEqProofs := false) (maxSteps := 1000000) (disch := first | omega | assumption | (simp only [rL, Nat.reduceAdd]; done) | (simp only [rL, Nat.reduceAdd]; omega)) only [↓rD, rU, ev, ofConst, ofCell, ↓reduceIte, Nat.reduceEqDiff, Nat.reduceAdd, Nat.reduceSub, Nat.reduceMul, Nat.reduceLeDiff, Nat.reduceLT, Int.reduceNeg, Int.reduceToNat, Int.reduceAdd, Int.reduceSub, Int.reduceMul, Int.reduceLT, Int.reduceLE, Int.reduceEq, rX, dg_cells, hq]
    exact ⟨s, Hp.sub_new Hp.sub_refl n2, rfl, dg_fold hq⟩
  · by_cases h1 : l.length = 1
    · obtain ⟨d, rfl⟩ := List.length_eq_one_iff.1 h1
      have hd32 := hd d (by simp)
      simp (dsimp := false) (implicitDefEqProofs := false) (maxSteps := 1000000) (disch := first | omega | assumption | (simp only [rL, Nat.reduceAdd]; done) | (simp only [rL, Nat.reduceAdd]; omega)) only [↓rD, rU, ev, ofConst, ofCell, ↓reduceIte, Nat.reduceEqDiff, Nat.reduceAdd, Nat.reduceSub, Nat.reduceMul, Nat.reduceLeDiff, Nat.reduceLT, Int.reduceNeg, Int.reduceToNat, Int.reduceAdd, Int.reduceSub, Int.reduceMul, Int.reduceLT, Int.reduceLE, Int.reduceEq, rX, dg_cells, iaSA_sl, List.getElem?_cons_zero, Int.toNat_zero, hd32, dg_fold, elA_dg]
      refine call_intro (leaf_spec d hd32 _) ?_
      rintro _ s1 ⟨o1, h1, rfl⟩
      have hl := h1.sub _ _ (Hp.set_same _ _ _)
      rw [← Hp.set_eq hl]
      simp (dsimp := false) (implicitDefEqProofs := false) (maxSteps := 1000000) (disch := first | omega | assumption | (simp only [rL, Nat.reduceAdd]; done) | (simp only [rL, Nat.reduceAdd]; omega)) only [↓rD, rU, ev, ofConst, ofCell, ↓reduceIte, Nat.reduceEqDiff, Nat.reduceAdd, Nat.reduceSub, Nat.reduceMul, Nat.reduceLeDiff, Nat.reduceLT, Int.reduceNeg, Int.reduceToNat, Int.reduceAdd, Int.reduceSub, Int.reduceMul, Int.reduceLT, Int.reduceLE, Int.reduceEq, rX]
      refine call_intro (sum_spec (leafB d) o1 (by rw [leafB_length d hd32]; omega) _) ?_
      rintro _ _ ⟨rfl, rfl⟩
      have hq := sha256_length (leafB d)
      rw [rootD_one]
      generalize sha256 (leafB d) = e at *
      simp (dsimp := false) (implicitDefEqProofs := false) (maxSteps := 1000000) (disch := first | omega | assumption | (simp only [rL, Nat.reduceAdd]; done) | (simp only [rL, Nat.reduceAdd]; omega)) only [↓rD, rU, ev, ofConst, ofCell, ↓reduceIte, Nat.reduceEqDiff, Nat.reduceAdd, Nat.reduceSub, Nat.reduceMul, Nat.reduceLeDiff, Nat.reduceLT, Int.reduceNeg, Int.reduceToNat, Int.reduceAdd, Int.reduceSub, Int.reduceMul, Int.reduceLT, Int.reduceLE, Int.reduceEq, rX, dg_cells, hq, dg_fold]
      exact ⟨s, Hp.sub_new (Hp.sub_trans (Hp.sub_new Hp.sub_refl n2) h1.sub) n2, rfl⟩
    · have h2 : 2 ≤ l.length := by omega
      have hz : ¬ ((l.length : Nat) : Int) = 0 := by omega
      have ho : ¬ ((l.length : Nat) : Int) = 1 := by omega
      simp (dsimp := false) (implicitDefEqProofs := false) (maxSteps := 1000000) (disch := first | omega | assumption | (simp only [rL, Nat.reduceAdd]; done) | (simp only [rL, Nat.reduceAdd]; omega)) only [↓rD, rU, ev, ofConst, ofCell, ↓reduceIte, Nat.reduceEqDiff, Nat.reduceAdd, Nat.reduceSub, Nat.reduceMul, Nat.reduceLeDiff, Nat.reduceLT, Int.reduceNeg, Int.reduceToNat, Int.reduceAdd, Int.reduceSub, Int.reduceMul, Int.reduceLT, Int.reduceLE, Int.reduceEq, rX, hz, ho]
      refine call_intro (half_spec l.length h2 (by omega) _) ?_
      rintro _ _ ⟨rfl, rfl⟩
      have hlt := half_lt l.length h2
      have hpos := half_pos l.length
      have hall := hd.all
      have hle' : ((half l.length : Nat) : Int) ≤ ((l.map dg).length : Nat) := by rw [List.length_map]; omega
      have hr1 := rootD_length (l.take (half l.length))
      have hr2 := rootD_length (l.drop (half l.length))
      rw [rootD_node l h2]
      generalize hk : half l.length = k at *
      simp (dsimp := false) (implicitDefEqProofs := false) (maxSteps := 1000000) (disch := first | omega | assumption | (simp only [rL, Nat.reduceAdd]; done) | (simp only [rL, Nat.reduceAdd]; omega)) only [↓rD, rU, ev, ofConst, ofCell, ↓reduceIte, Nat.reduceEqDiff, Nat.reduceAdd, Nat.reduceSub, Nat.reduceMul, Nat.reduceLeDiff, Nat.reduceLT, Int.reduceNeg, Int.reduceToNat, Int.reduceAdd, Int.reduceSub, Int.reduceMul, Int.reduceLT, Int.reduceLE, Int.reduceEq, rX, mapd_take, mapd_drop]
      refine call_intro (ih _ (by rw [← hN, List.length_take]; omega) (l.take k) .any _ rfl (by rw [List.length_take]; omega) (hd.take k)) ?_
      rintro _ _ ⟨rfl, rfl⟩
      simp (dsimp := false) (implicitDefEqProofs := false) (maxSteps := 1000000) (disch := first | omega | assumption | (simp only [rL, Nat.reduceAdd]; done) | (simp only [rL, Nat.reduceAdd]; omega)) only [↓rD, rU, ev, ofConst, ofCell, ↓reduceIte, Nat.reduceEqDiff, Nat.reduceAdd, Nat.reduceSub, Nat.reduceMul, Nat.reduceLeDiff, Nat.reduceLT, Int.reduceNeg, Int.reduceToNat, Int.reduceAdd, Int.reduceSub, Int.reduceMul, Int.reduceLT, Int.reduceLE, Int.reduceEq, rX, mapd_take, mapd_drop]
      refine call_intro (ih _ (by rw [← hN, List.length_drop]; omega) (l.drop k) .any _ rfl (by rw [List.length_drop]; omega) (hd.drop k)) ?_
      rintro _ _ ⟨rfl, rfl⟩
      generalize rootD (l.take k) = p at *
      generalize rootD (l.drop k) = q at *
      simp (dsimp := false) (implicitDefEqProofs := false) (maxSteps := 1000000) (disch := first | omega | assumption | (simp only [rL, Nat.reduceAdd]; done) | (simp only [rL, Nat.reduceAdd]; omega)) only [↓rD, rU, ev, ofConst, ofCell, ↓reduceIte, Nat.reduceEqDiff, Nat.reduceAdd, Nat.reduceSub, Nat.reduceMul, Nat.reduceLeDiff, Nat.reduceLT, Int.reduceNeg, Int.reduceToNat, Int.reduceAdd, Int.reduceSub, Int.reduceMul, Int.reduceLT, Int.reduceLE, Int.reduceEq, rX]
      refine call_intro (node_spec p q hr1 hr2 _) ?_
      rintro _ s1 ⟨o1, h1, rfl⟩
      have hl := h1.sub _ _ (Hp.set_same _ _ _)
      rw [← Hp.set_eq hl]
      simp (dsimp := false) (implicitDefEqProofs := false) (maxSteps := 1000000) (disch := first | omega | assumption | (simp only [rL, Nat.reduceAdd]; done) | (simp only [rL, Nat.reduceAdd]; omega)) only [↓rD, rU, ev, ofConst, ofCell, ↓reduceIte, Nat.reduceEqDiff, Nat.reduceAdd, Nat.reduceSub, Nat.reduceMul, Nat.reduceLeDiff, Nat.reduceLT, Int.reduceNeg, Int.reduceToNat, Int.reduceAdd, Int.reduceSub, Int.reduceMul, Int.reduceLT, Int.reduceLE, Int.reduceEq, rX]
      refine call_intro (sum_spec (nodeB p q) o1 (by rw [nodeB_length p q hr1 hr2]; omega) _) ?_
      rintro _ _ ⟨rfl, rfl⟩
      have hq := sha256_length (nodeB p q)
      generalize sha256 (nodeB p q) = e at *
      simp (dsimp := false) (implicitDefEqProofs := false) (maxSteps := 1000000) (disch := first | omega | assumption | (simp only [rL, Nat.reduceAdd]; done) | (simp only [rL, Nat.reduceAdd]; omega)) only [↓rD, rU, ev, ofConst, ofCell, ↓reduceIte, Nat.reduceEqDiff, Nat.reduceAdd, Nat.reduceSub, Nat.reduceMul, Nat.reduceLeDiff, Nat.reduceLT, Int.reduceNeg, Int.reduceToNat, Int.reduceAdd, Int.reduceSub, Int.reduceMul, Int.reduceLT, Int.reduceLE, Int.reduceEq, rX, dg_cells, hq, dg_fold]
      exact ⟨s, Hp.sub_new (Hp.sub_trans (Hp.sub_new Hp.sub_refl n2) h1.sub) n2, rfl⟩
end Go.Proofs.YtnnjjmiahcnbaaaGreat
/-
  Running abstract code, continued: strings as lists of bytes, min and max, copies.
-/
namespace Go.Av
open Go

/-- a string -/
def strV (bs : List UInt8) : AV := .v (.string ⟨bs.toArray⟩)
theorem toList_loop (b : ByteArray) : ∀ (n i : Nat) (r : List UInt8), b.size - i = n → ByteArray.toList.loop b i r = r.reverse ++ b.data.toList.drop i
  | 0, i, r, h => by
    rw [ByteArray.toList.loop, if_neg (by omega), List.drop_of_length_le (by simp; exact Nat.le_of_sub_eq_zero h)]; simp
  | n + 1, i, r, h => by
    have hi : i < b.size := by omega
    have hi' : i < b.data.toList.length := by simpa using hi
    rw [ByteArray.toList.loop, if_pos hi, toList_loop b n (i + 1) _ (by omega), List.drop_eq_getElem_cons hi']
    have : b.get! i = b.data.toList[i] := by
      rw [ByteArray.get!]
      simp [hi]
    rw [this]; simp
theorem toList_data (b : ByteArray) : b.toList = b.data.toList := by
  rw [ByteArray.toList, toList_loop b _ 0 [] rfl]; simp
theorem toList_mk (bs : List UInt8) : (⟨bs.toArray⟩ : ByteArray).toList = bs := by rw [toList_data]
theorem eql_str (a b : List UInt8) : binV .eql (.string ⟨a.toArray⟩) (.string ⟨b.toArray⟩) = some (.bool (decide (a = b))) := by
  simp only [binV, binStr, toList_mk]; congr 2
  by_cases h : a = b <;> simp [h]
theorem neq_str (a b : List UInt8) : binV .neq (.string ⟨a.toArray⟩) (.string ⟨b.toArray⟩) = some (.bool (decide (a ≠ b))) := by
  simp only [binV, binStr, toList_mk]; congr 2
  by_cases h : a = b <;> simp [h]
theorem size_str (a : List UInt8) : (⟨a.toArray⟩ : ByteArray).size = a.length := by simp [ByteArray.size]
theorem append_str (a b : List UInt8) : ((⟨a.toArray⟩ : ByteArray) ++ ⟨b.toArray⟩) = ⟨(a ++ b).toArray⟩ := by
  apply ByteArray.ext; simp
theorem add_str (a b : List UInt8) (h : a.length + b.length ≤ 9223372036854775807) : binV .add (.string ⟨a.toArray⟩) (.string ⟨b.toArray⟩) = some (.string ⟨(a ++ b).toArray⟩) := by
  simp only [binV, binStr, size_str, if_pos h, append_str]

section
variable {P : Ctx} {f : Fr} {s : Hp} {Kv : AV → Hp → Prop}
theorem chkT_guard {d : Nat} {op : AOp} {g : Nat} {w : Bool} : chkT P ⟨some d, op, some (g, w)⟩ f s = guardK (f g) w (hidP (G P op f s (fun r _ => r = f d)) ()) (hidP ((.tup [] : AV) = f d) ()) := rfl
theorem Def_guard {d : Option Nat} {op : AOp} {g : Nat} {w : Bool} : Def P ⟨d, op, some (g, w)⟩ f = guardK (f g) w (hidP (G P op f Hp.emp (fun _ _ => True)) ()) (hidP True ()) := rfl
def b2sA (a : AV) : Option AV :=
  match a with
  | .sl xs _ => match bytesOf xs with
    | some l => some (.v (.string ⟨l.toArray⟩))
    | none => none
  | _ => none
theorem b2sA_map {bs : List UInt8} {o : Own} : b2sA (.sl (bs.map byteAV) o) = some (.v (.string ⟨bs.toArray⟩)) := by simp [b2sA, bytesOf_map]
theorem G_b2s {x : Operand} : G P (.b2s x) f s Kv = valK (b2sA (ev f x)) (hid1 (fun r => Kv r s) ()) := by
  simp only [G, b2sA]; generalize ev f x = a
  cases a <;> first | rfl | (rename_i xs o; simp only []; generalize bytesOf xs = c; cases c <;> rfl)
def mmA (mx : Bool) (a b : AV) : Option AV :=
  match a, b with
  | .v (.int k a), .v (.int k' b) => if k = k' then some (.v (.int k (if mx then max a b else min a b))) else none
  | _, _ => none
theorem mmA_max {k : IntKind} {a b : Int} : mmA true (.v (.int k a)) (.v (.int k b)) = some (.v (.int k (max a b))) := by simp [mmA]
theorem mmA_min {k : IntKind} {a b : Int} : mmA false (.v (.int k a)) (.v (.int k b)) = some (.v (.int k (min a b))) := by simp [mmA]
theorem G_mm {mx : Bool} {k : IntKind} {x y : Operand} : G P (.mm mx k x y) f s Kv = valK (mmA mx (ev f x) (ev f y)) (hid1 (fun r => Kv r s) ()) := by
  simp only [G, mmA]; generalize ev f x = a; generalize ev f y = b
  cases a <;> first
    | rfl
    | (rename_i v; cases v <;> first
        | rfl
        | (cases b <;> first
            | rfl
            | (rename_i w; cases w <;> first | rfl | (simp only [valK_ite, hid1_eq]))))
def lenTA (a : AV) : Option AV :=
  match a with
  | .v (.string t) => some (.v (.int .i64 t.size))
  | _ => none
theorem lenTA_str {bs : List UInt8} : lenTA (.v (.string ⟨bs.toArray⟩)) = some (.v (.int .i64 bs.length)) := by simp [lenTA, size_str]
theorem G_lenT {x : Operand} : G P (.lenT x) f s Kv = valK (lenTA (ev f x)) (hid1 (fun r => Kv r s) ()) := by
  simp only [G, lenTA]; generalize ev f x = a
  cases a <;> first | rfl | (rename_i v; cases v <;> rfl)
def slcSA (a : AV) (lo hi : Option AV) : Option AV :=
  match a with
  | .v (.string t) => match bO lo 0, bO hi t.size with
    | some a, some b => if 0 ≤ a ∧ a ≤ b ∧ b ≤ t.size then some (.v (.string (t.extract a.toNat b.toNat))) else none
    | _, _ => none
  | _ => none
theorem extract_str (bs : List UInt8) (i j : Nat) : (⟨bs.toArray⟩ : ByteArray).extract i j = ⟨((bs.take j).drop i).toArray⟩ := by
  apply ByteArray.ext
  simp only [ByteArray.data_extract]
  simp [List.drop_take]
theorem slcSA_lo {bs : List UInt8} {k : IntKind} {a : Int} (h : 0 ≤ a) (h2 : a ≤ bs.length) : slcSA (.v (.string ⟨bs.toArray⟩)) (some (.v (.int k a))) none = some (.v (.string ⟨(bs.drop a.toNat).toArray⟩)) := by
  simp [slcSA, bO, intOf, size_str, h, h2, extract_str]
theorem slcSA_hi {bs : List UInt8} {k : IntKind} {b : Int} (h : 0 ≤ b) (h2 : b ≤ bs.length) : slcSA (.v (.string ⟨bs.toArray⟩)) none (some (.v (.int k b))) = some (.v (.string ⟨(bs.take b.toNat).toArray⟩)) := by
  simp [slcSA, bO, intOf, size_str, h, h2, extract_str]
theorem slcSA_both {bs : List UInt8} {k k' : IntKind} {a b : Int} (h : 0 ≤ a) (h1 : a ≤ b) (h2 : b ≤ bs.length) : slcSA (.v (.string ⟨bs.toArray⟩)) (some (.v (.int k a))) (some (.v (.int k' b))) = some (.v (.string ⟨((bs.take b.toNat).drop a.toNat).toArray⟩)) := by
  simp [slcSA, bO, intOf, size_str, h, h1, h2, extract_str]
theorem G_slcS {x : Operand} {lo hi : Option Operand} : G P (.slcS x lo hi) f s Kv = valK (slcSA (ev f x) (lo.map (ev f)) (hi.map (ev f))) (hid1 (fun r => Kv r s) ()) := by
  simp only [G, slcSA, bnd_bO]
  generalize ev f x = a; generalize lo.map (ev f) = p; generalize hi.map (ev f) = q
  cases a <;> try rfl
  rename_i v
  cases v <;> try rfl
  rename_i t
  simp only []
  generalize bO p 0 = u; generalize bO q t.size = w
  cases u <;> cases w <;> try rfl
  simp only [valK_ite, hid1_eq]
  apply propext; constructor
  · rintro ⟨h1, h2, h3, h5⟩; exact ⟨⟨h1, h2, h3⟩, h5⟩
  · rintro ⟨⟨h1, h2, h3⟩, h5⟩; exact ⟨h1, h2, h3, h5⟩
theorem idxSA_str {bs : List UInt8} {k : IntKind} {n : Int} (h : 0 ≤ n) (h2 : n < bs.length) : idxSA (.v (.string ⟨bs.toArray⟩)) (.v (.int k n)) = some (.v (.int .u8 (bs.getD n.toNat 0).toNat)) := by
  have h3 : n.toNat < bs.length := by omega
  have e : bs.getD n.toNat 0 = bs[n.toNat] := by simp [List.getD, h3]
  simp [idxSA, h, h3, e]
def cpyK (k : Nat) (s : Hp) (x y : AV) (C : AV → Hp → Prop) : Prop :=
  match x, y with
  | .msl l off n k', .sl ys _ => k' = k ∧ (∀ e ∈ ys, e.cells.length = k) ∧ match s l with
    | some (.cells cs) => off + n * k ≤ cs.length ∧ C (.v (.int .i64 (min ys.length n))) (s.set l (.cells (putAt cs off (flat (ys.take n)))))
    | _ => False
  | .mb l n _ k', .sl ys _ => k' = k ∧ (∀ e ∈ ys, e.cells.length = k) ∧ match s l with
    | some (.cells cs) => n * k ≤ cs.length ∧ C (.v (.int .i64 (min ys.length n))) (s.set l (.cells (putAt cs 0 (flat (ys.take n)))))
    | _ => False
  | _, _ => False
theorem G_cpy {k : Nat} {x y : Operand} : G P (.cpy k x y) f s Kv = cpyK k s (ev f x) (ev f y) (hid2 Kv ()) := rfl
theorem cpy_intro {k l off n : Nat} {ys cs : List AV} {o : Own} {C : AV → Hp → Prop} {d : Dep C} (h1 : allLen k ys) (h2 : s l = some (.cells cs)) (h3 : off + n * k ≤ cs.length)
    (hC : C (.v (.int .i64 (min ys.length n))) (s.set l (.cells (putAt cs off (flat (ys.take n)))))) : cpyK k s (.msl l off n k) (.sl ys o) (hid2 C d) := by
  refine ⟨rfl, h1, ?_⟩; rw [h2]; exact ⟨h3, hC⟩
/-- the mutable view of a whole array -/
def slcMA (k n : Nat) (s : Hp) (a : AV) (lo hi : Option AV) : Option AV :=
  match a with
  | .ptr l off => match bO lo 0, bO hi n with
    | some a, some b => match s.read l with
      | some cs => if 0 ≤ a ∧ a ≤ b ∧ b ≤ n ∧ off + n * k ≤ cs.length ∧ a < n then some (.msl l (off + a.toNat * k) (b.toNat - a.toNat) k) else none
      | none => none
    | _, _ => none
  | _ => none
theorem slcMA_all {k n l off : Nat} {cs : List AV} (h : s.read l = some cs) (h2 : off + n * k ≤ cs.length) (h3 : 0 < n) : slcMA k n s (.ptr l off) none none = some (.msl l off n k) := by
  simp [slcMA, bO, h, h2, h3]
theorem G_slcAm {k n : Nat} {x : Operand} {lo hi : Option Operand} : G P (.slcA k n x lo hi false) f s Kv = valK (slcMA k n s (ev f x) (lo.map (ev f)) (hi.map (ev f))) (hid1 (fun r => Kv r s) ()) := by
  simp only [G, slcMA, bnd_bO]; generalize ev f x = a
  generalize lo.map (ev f) = p; generalize hi.map (ev f) = q
  cases a <;> try rfl
  rename_i l off
  simp only []
  generalize bO p 0 = u; generalize bO q n = w; generalize s.read l = c
  cases u <;> cases w <;> cases c <;> first
    | rfl
    | (simp [valK]; done)
    | (simp only [valK_ite, hid1_eq, Bool.false_eq_true, if_false]
       apply propext; constructor
       · rintro ⟨h1, h2, h3, h4, h5, h6⟩; exact ⟨⟨h1, h2, h3, h4, h5⟩, h6⟩
       · rintro ⟨⟨h1, h2, h3, h4, h5⟩, h6⟩; exact ⟨h1, h2, h3, h4, h5, h6⟩)
def bslMK (k : Nat) (s : Hp) (vs0 : List AV) (C : AV → Hp → Prop) : Prop :=
  (∀ e ∈ vs0, e.cells.length = k) ∧ (if vs0.length = 0 then C (.sl [] .zero) s else ∀ g, s g = none → C (.mb g vs0.length vs0.length k) (s.set g (.cells (flat vs0))))
theorem G_bslM {k : Nat} {xs : List Operand} : G P (.bslM k xs) f s Kv = bslMK k s (xs.map (ev f)) (hid2 Kv ()) := by
  simp only [G, bslMK, hid2, List.length_map]
theorem bslM_nil {k : Nat} {C : AV → Hp → Prop} {d : Dep C} : bslMK k s [] (hid2 C d) = C (.sl [] .zero) s := by simp [bslMK, hid2]
theorem bslM_intro {k : Nat} {vs0 : List AV} {C : AV → Hp → Prop} {d : Dep C} (h1 : allLen k vs0) (h0 : vs0 ≠ []) (hk : ∀ g, s g = none → C (.mb g vs0.length vs0.length k) (s.set g (.cells (flat vs0)))) : bslMK k s vs0 (hid2 C d) := by
  refine ⟨h1, ?_⟩
  rw [if_neg (fun h => h0 (List.eq_nil_of_length_eq_zero h))]
  exact hk
def mksK (k bytes : Nat) (z : List AV) (s : Hp) (x y : AV) (C : AV → Hp → Prop) : Prop :=
  match x, y with
  | .v (.int _ n), .v (.int _ m) => n = m ∧ 0 ≤ n ∧ n ≤ 9223372036854775807 ∧ n * bytes ≤ 281474976710656 ∧ ∀ g, s g = none → C (.mb g n.toNat n.toNat k) (s.set g (.cells (List.replicate n.toNat z).flatten))
  | _, _ => False
theorem G_mks {k bytes : Nat} {z : List AV} {x y : Operand} : G P (.mks k bytes z x y) f s Kv = mksK k bytes z s (ev f x) (ev f y) (hid2 Kv ()) := rfl
theorem mks_intro {k bytes n : Nat} {z : List AV} {kd kd' : IntKind} {C : AV → Hp → Prop} {d : Dep C} (h1 : n * bytes ≤ 281474976710656) (h2 : n ≤ 9223372036854775807) (hk : ∀ g, s g = none → C (.mb g n n k) (s.set g (.cells (List.replicate n z).flatten))) :
    mksK k bytes z s (.v (.int kd (n : Int))) (.v (.int kd' (n : Int))) (hid2 C d) := ⟨rfl, by omega, by omega, by omega, fun g hg => by
  have := hk g hg
  simp only [hid2, Int.toNat_natCast]; exact this⟩
def appMK (k bytes : Nat) (s : Hp) (x y : AV) (C : AV → Hp → Prop) : Prop :=
  match srcS s k y with
  | some (m, ys) => match x with
    | .sl xs o => xs = [] ∧ (o = .nil ∨ o = .zero) ∧ m * bytes ≤ 140737488355328 ∧ m ≤ 9223372036854775807 ∧
      (if m = 0 then C (.sl [] o) s else ∀ g cap sp, s g = none → m ≤ cap → cap ≤ maxLen → sp.length = (cap - m) * k → C (.mb g m cap k) (s.set g (.cells (ys ++ sp))))
    | .mb l n cap k' => match s l with
      | some (.cells cs) => k' = k ∧ cs.length = cap * k ∧ (n + m) * bytes ≤ 140737488355328 ∧ n + m ≤ 9223372036854775807 ∧
        (if n + m ≤ cap then C (.mb l (n + m) cap k) (s.set l (.cells (putAt cs (n * k) ys)))
         else ∀ g cap' sp, s g = none → n + m ≤ cap' → cap' ≤ maxLen → sp.length = (cap' - (n + m)) * k → C (.mb g (n + m) cap' k) (s.set g (.cells (cs.take (n * k) ++ ys ++ sp))))
      | some (.sc cs) => k' = k ∧ cs.length = cap * k ∧ (n + m) * bytes ≤ 140737488355328 ∧ n + m ≤ 9223372036854775807 ∧
        (if n + m ≤ cap then C (.mb l (n + m) cap k) (s.set l (.sc (putAt cs (n * k) ys)))
         else ∀ g cap' sp, s g = none → n + m ≤ cap' → cap' ≤ maxLen → sp.length = (cap' - (n + m)) * k → C (.mb g (n + m) cap' k) (s.set g (.cells (cs.take (n * k) ++ ys ++ sp))))
      | _ => False
    | _ => False
  | none => False
theorem G_appM {k bytes : Nat} {x y : Operand} : G P (.appM k bytes x y) f s Kv = appMK k bytes s (ev f x) (ev f y) (hid2 Kv ()) := rfl
/-- a slice that is being built, and may be written: its cells -/
def MO (s0 s : Hp) (k : Nat) (us : List AV) (a : AV) : Prop :=
  s0.sub s ∧ ((us = [] ∧ (a = .sl [] .nil ∨ a = .sl [] .zero)) ∨ ∃ l n cap cs, a = .mb l n cap k ∧ s0 l = none ∧ s l = some (.cells cs) ∧ cs.length = cap * k ∧ cs.take (n * k) = us ∧ us.length = n * k ∧ n ≤ cap ∧ cap ≤ maxLen)
theorem MO.nil {s0 s : Hp} {k : Nat} (h : s0.sub s) : MO s0 s k [] (.sl [] .nil) := ⟨h, .inl ⟨rfl, .inl rfl⟩⟩
theorem MO.zero {s0 s : Hp} {k : Nat} (h : s0.sub s) : MO s0 s k [] (.sl [] .zero) := ⟨h, .inl ⟨rfl, .inr rfl⟩⟩
theorem MO.mono {s0 s s' : Hp} {k : Nat} {us : List AV} {a : AV} (h : MO s0 s k us a) (hs : s.sub s') : MO s0 s' k us a := by
  obtain ⟨h1, h2⟩ := h
  refine ⟨Hp.sub_trans h1 hs, ?_⟩
  rcases h2 with h2 | ⟨l, n, cap, cs, q1, q2, q3, q4⟩
  · exact .inl h2
  · exact .inr ⟨l, n, cap, cs, q1, q2, hs _ _ q3, q4⟩
theorem MO.base {s0 s1 s : Hp} {k : Nat} {us : List AV} {a : AV} (h : MO s0 s k us a) (hs : s1.sub s0) : MO s1 s k us a := by
  obtain ⟨h1, h2⟩ := h
  refine ⟨Hp.sub_trans hs h1, ?_⟩
  rcases h2 with h2 | ⟨l, n, cap, cs, q1, q2, q3⟩
  · exact .inl h2
  · exact .inr ⟨l, n, cap, cs, q1, Hp.sub_none hs q2, q3⟩
/-- a new object -/
theorem MO.new {s0 s : Hp} {k l2 : Nat} {us : List AV} {a : AV} {ob : Ob} (h : MO s0 s k us a) (hl : s l2 = none) : MO (s0.set l2 ob) (s.set l2 ob) k us a := by
  obtain ⟨h1, h2⟩ := h
  refine ⟨Hp.sub_set h1, ?_⟩
  rcases h2 with h2 | ⟨l, n, cap, cs, q1, q2, q3, q4⟩
  · exact .inl h2
  · have hne : l ≠ l2 := by rintro rfl; rw [hl] at q3; cases q3
    exact .inr ⟨l, n, cap, cs, q1, by rw [Hp.set_ne _ _ hne]; exact q2, by rw [Hp.set_ne _ _ hne]; exact q3, q4⟩
theorem MO.src {s0 s : Hp} {k : Nat} {us : List AV} {a : AV} (h : MO s0 s k us a) : ∃ n, us.length = n * k ∧ srcF s k a = some (n, us) ∧ lenAA a = some (.v (.int .i64 n)) := by
  obtain ⟨h1, h2⟩ := h
  rcases h2 with ⟨rfl, rfl | rfl⟩ | ⟨l, n, cap, cs, rfl, q2, q3, q4, q5, q6, q7, q8⟩
  · exact ⟨0, by simp, rfl, rfl⟩
  · exact ⟨0, by simp, rfl, rfl⟩
  · refine ⟨n, q6, ?_, rfl⟩
    have : n * k ≤ cs.length := by rw [q4]; exact Nat.mul_le_mul_right _ q7
    simp [srcF, Hp.read_of q3, this, q5]
/-- APPEND, written through -/
theorem appM_own {s0 : Hp} {k bytes m : Nat} {us ys : List AV} {x y : AV} {C : AV → Hp → Prop} {d : Dep C} (h : MO s0 s k us x) (hk : 0 < k) (hs : srcF s k y = some (m, ys)) (hy : ys.length = m * k) (h3 : (us.length + ys.length) * bytes ≤ 140737488355328 * k) (h4 : us.length + ys.length ≤ 9223372036854775807)
    (hC : ∀ a' s', MO s0 s' k (us ++ ys) a' → C a' s') : appMK k bytes s x y (hid2 C d) := by
  obtain ⟨h1, h2⟩ := h
  unfold appMK
  rw [srcS_of hs]
  simp only [hid2]
  have bnd : ∀ n, us.length = n * k → (n + m) * bytes ≤ 140737488355328 ∧ n + m ≤ 9223372036854775807 := by
    intro n hn
    have e : us.length + ys.length = (n + m) * k := by rw [hn, hy, Nat.add_mul]
    rw [e] at h3 h4
    constructor
    · have : (n + m) * bytes * k ≤ 140737488355328 * k := by rw [Nat.mul_assoc, Nat.mul_comm bytes k, ← Nat.mul_assoc]; exact h3
      exact Nat.le_of_mul_le_mul_right this hk
    · have : (n + m) * 1 ≤ (n + m) * k := Nat.mul_le_mul_left _ hk
      omega
  rcases h2 with ⟨rfl, ho⟩ | ⟨l, n, cap, cs, rfl, q2, q3, q4, q5, q6, q7, q8⟩
  · obtain ⟨b1, b2⟩ := bnd 0 (by simp)
    have main : ∀ o, (o = .nil ∨ o = .zero) → (([] : List AV) = [] ∧ (o = .nil ∨ o = .zero) ∧ m * bytes ≤ 140737488355328 ∧ m ≤ 9223372036854775807 ∧
      (if m = 0 then C (.sl [] o) s else ∀ g cap sp, s g = none → m ≤ cap → cap ≤ maxLen → sp.length = (cap - m) * k → C (.mb g m cap k) (s.set g (.cells (ys ++ sp))))) := by
      intro o hoo
      refine ⟨rfl, hoo, by simpa using b1, by omega, ?_⟩
      split
      · rename_i hm
        subst hm
        have : ys = [] := List.eq_nil_of_length_eq_zero (by simpa using hy)
        subst this
        refine hC _ _ ⟨h1, .inl ⟨rfl, ?_⟩⟩
        rcases hoo with rfl | rfl
        · exact .inl rfl
        · exact .inr rfl
      · intro g cap sp hg hc hcm hsp
        refine hC _ _ ⟨Hp.sub_new h1 (Hp.sub_none h1 hg), .inr ⟨g, m, cap, ys ++ sp, rfl, Hp.sub_none h1 hg, Hp.set_same _ _ _, ?_, ?_, by simpa using hy, hc, hcm⟩⟩
        · rw [List.length_append, hy, hsp, ← Nat.add_mul]; congr 1; omega
        · rw [← hy, List.take_left]; rfl
    rcases ho with rfl | rfl
    · exact main _ (.inl rfl)
    · exact main _ (.inr rfl)
  · obtain ⟨b1, b2⟩ := bnd n q6
    simp only [q3]
    refine ⟨trivial, q4, b1, b2, ?_⟩
    have hnk : (cs.take (n * k)).length = n * k := by rw [q5, q6]
    split
    · rename_i hroom
      have hfit : n * k + ys.length ≤ cs.length := by rw [hy, q4, ← Nat.add_mul]; exact Nat.mul_le_mul_right _ hroom
      refine hC _ _ ⟨Hp.sub_new h1 q2, .inr ⟨l, n + m, cap, _, rfl, q2, Hp.set_same _ _ _, ?_, ?_, by rw [List.length_append, q6, hy, Nat.add_mul], hroom, q8⟩⟩
      · rw [putAt_length _ _ _ hfit, q4]
      · have e : (n + m) * k = (cs.take (n * k) ++ ys).length := by rw [List.length_append, hnk, hy, Nat.add_mul]
        rw [putAt, e, List.take_left, q5]
    · intro g cap' sp hg hc hcm hsp
      refine hC _ _ ⟨Hp.sub_new h1 (Hp.sub_none h1 hg), .inr ⟨g, n + m, cap', _, rfl, Hp.sub_none h1 hg, Hp.set_same _ _ _, ?_, ?_, by rw [List.length_append, q6, hy, Nat.add_mul], hc, hcm⟩⟩
      · rw [List.length_append, List.length_append, hnk, hy, hsp, ← Nat.add_mul, ← Nat.add_mul]; congr 1; omega
      · have e : (n + m) * k = (cs.take (n * k) ++ ys).length := by rw [List.length_append, hnk, hy, Nat.add_mul]
        rw [e, List.take_left, q5]
theorem srcF_bytes {bs : List UInt8} {o : Own} : srcF s 1 (.sl (bs.map byteAV) o) = some (bs.length, bs.map byteAV) := by
  have : ((bs.map byteAV).all fun e => decide (e.cells.length = 1)) = true := by simp [byteAV, AV.cells]
  simp [srcF, this, flat_bytes]
def b2sMA (s : Hp) (a : AV) : Option AV :=
  match srcF s 1 a with
  | some (_, xs) => match bytesOf xs with
    | some l => some (.v (.string ⟨l.toArray⟩))
    | none => none
  | none => none
theorem G_b2sM {x : Operand} : G P (.b2sM x) f s Kv = valK (b2sMA s (ev f x)) (hid1 (fun r => Kv r s) ()) := by
  simp only [G, b2sMA]
  cases srcF s 1 (ev f x) with
  | none => rfl
  | some p =>
    obtain ⟨m, xs⟩ := p
    simp only
    cases bytesOf xs <;> rfl
theorem b2sMA_of {a : AV} {n : Nat} {bs : List UInt8} (h : srcF s 1 a = some (n, bs.map byteAV)) : b2sMA s a = some (.v (.string ⟨bs.toArray⟩)) := by simp [b2sMA, h, bytesOf_map]
def s2bA (a : AV) : Option AV :=
  match a with
  | .v (.string t) => some (.sl (t.data.toList.map byteAV) .any)
  | _ => none
theorem s2bA_str {bs : List UInt8} : s2bA (.v (.string ⟨bs.toArray⟩)) = some (.sl (bs.map byteAV) .any) := by simp [s2bA]
theorem G_s2b {x : Operand} : G P (.s2b x) f s Kv = valK (s2bA (ev f x)) (hid1 (fun r => Kv r s) ()) := by
  simp only [G, s2bA]; generalize ev f x = a
  cases a <;> first | rfl | (rename_i v; cases v <;> rfl)

/-! ### a slice that is written no more -/
theorem RV.frozen {H : PH} {w : World} {l n cap k : Nat} {cs : List AV} {v : Value} (hh : Holds H s w) (hl : s l = some (.ro cs)) (hn : n * k ≤ cs.length) (hv : RV H v (.mb l n cap k)) : RV H v (.sl (elemsOf k n cs) .any) := by
  obtain ⟨hone, vs, T, fz, hb, hr, hH⟩ := hh.ob l _ hl
  have hsz : vs.size = cs.length := hr.1
  cases hv with
  | mb l n cap k hk hcap =>
    obtain ⟨e1, e2, e3⟩ := elemsOf_cells hk hn hone
    by_cases h0 : n = 0
    · subst h0
      have : elemsOf k 0 cs = [] := List.eq_nil_of_length_eq_zero e3
      rw [this]
      exact .slEmpty _ _ _ (fun h => by cases h) trivial
    · refine .sl l 0 n cap k (fun j => vs.getD j Go.undef) _ .any hk e3.symm hcap e1 ?_ ?_ ?_ trivial
      · intro c hc; rw [e2] at hc; exact hone c (List.mem_of_mem_take hc)
      · intro j hj; rw [Nat.zero_add]; exact hH j (by omega)
      · intro j u hu
        rw [e2] at hu
        have hj : j < n * k := by have := (List.getElem?_eq_some_iff.1 hu).1; simp at this; omega
        rw [List.getElem?_take_of_lt hj] at hu
        exact hr.2 j u hu
theorem AC.freeze {P : Program} {g : FuncId} {pre post : List AV} {l n cap k : Nat} {cs : List AV} {R : AV → Hp → Prop} (hl : s l = some (.cells cs)) (hn : n * k ≤ cs.length) (h : AC P g (pre ++ .sl (elemsOf k n cs) .any :: post) (s.set l (.ro cs)) R) : AC P g (pre ++ .mb l n cap k :: post) s R := by
  refine h.pre fun vs w H ha hh => ?_
  obtain ⟨H', st⟩ := Step.freeze hh hl
  refine ⟨H', ?_, st⟩
  have ha' := ha.mono st.le
  refine ⟨by rw [ha'.1]; simp, fun j u hu => ?_⟩
  by_cases hj : j = pre.length
  · subst hj
    have h1 := ha'.2 pre.length (.mb l n cap k) (by simp)
    have h2 : u = .sl (elemsOf k n cs) .any := by simpa using hu.symm
    subst h2
    exact RV.frozen st.holds (Hp.set_same _ _ _) hn h1
  · refine ha'.2 j u ?_
    rw [List.getElem?_append] at hu ⊢
    split
    · rename_i h1; rw [if_pos h1] at hu; exact hu
    · rename_i h1
      rw [if_neg h1] at hu
      obtain ⟨i, hi⟩ : ∃ i, j - pre.length = i + 1 := ⟨j - pre.length - 1, by omega⟩
      rw [hi] at hu ⊢
      simpa using hu
end
/-! bundles of the lemmas above, for 'simp' -/
def rF :=
  And.intro @G_bslM <|
  And.intro @G_appM <|
  And.intro @G_mks <|
  And.intro @G_b2sM <|
  And.intro @G_s2b <|
  And.intro @G_b2s <|
  And.intro @G_mm <|
  And.intro @G_lenT <|
  And.intro @G_slcS <|
  And.intro @G_cpy <|
  And.intro @G_slcAm <|
  And.intro @chkT_guard <|
  @Def_guard
def rG :=
  And.intro @s2bA_str <|
  And.intro @iaSA_mb <|
  And.intro @lenAA_mb <|
  And.intro @slcAA_mb <|
  And.intro @b2sA_map <|
  And.intro @mmA_max <|
  And.intro @mmA_min <|
  And.intro @lenTA_str <|
  And.intro @slcSA_lo <|
  And.intro @slcSA_hi <|
  And.intro @slcSA_both <|
  And.intro @slcMA_all <|
  And.intro @neq_str <|
  And.intro @eql_str <|
  And.intro @idxSA_str <|
  And.intro @ite_true.{1} <|
  And.intro @ite_false.{1} <|
  And.intro @Bool.not_false <|
  And.intro @Bool.not_true <|
  And.intro @Bool.false_xor <|
  And.intro @Bool.true_xor <|
  And.intro @Bool.true_and <|
  And.intro @Bool.false_and <|
  And.intro @decide_true <|
  @decide_false
end Go.Av
/-
  Running abstract code, continued: functions as values, interfaces, panics, strings' iterators, builders.
-/
namespace Go.Av
open Go

section
variable {P : Ctx} {f : Fr} {s : Hp} {Kv : AV → Hp → Prop}
theorem G_clo {fn : FuncId} {a b : List Operand} : G P (.clo fn a b) f s Kv = letK (.clo fn (a.map (ev f)) (b.map (ev f))) (hid1 (fun r => Kv r s) ()) := rfl
def callVK (P : Ctx) (x : AV) (args : List AV) (s : Hp) (C : AV → Hp → Prop) : Prop :=
  match x with
  | .clo fn ds cs => callOk P.p fn = true ∧ ACp P.p fn (ds ++ args ++ cs) s C (up P.k)
  | _ => False
theorem G_callV {x : Operand} {args : List Operand} : G P (.callV x args) f s Kv = callVK P (ev f x) (args.map (ev f)) s (hid2 Kv ()) := rfl
theorem callV_intro {fn : FuncId} {ds cs args : List AV} {C R : AV → Hp → Prop} {d : Dep C} (hok : callOk P.p fn = true) (h : AC P.p fn (ds ++ args ++ cs) s R) (hr : ∀ r s', R r s' → C r s') : callVK P (.clo fn ds cs) args s (hid2 C d) := ⟨hok, (h.mono hr).p⟩
theorem callVp_intro {fn : FuncId} {ds cs args : List AV} {C R Rp : AV → Hp → Prop} {d : Dep C} (hok : callOk P.p fn = true) (h : ACp P.p fn (ds ++ args ++ cs) s R (up Rp)) (hr : ∀ r s', R r s' → C r s') (hp : ∀ r s', Rp r s' → P.k r s') : callVK P (.clo fn ds cs) args s (hid2 C d) := ⟨hok, h.mono hr (fun _ _ => up_mono hp)⟩
theorem G_mki {t : TypeId} {x : Operand} : G P (.mki t x) f s Kv = letK (.iface t (ev f x)) (hid1 (fun r => Kv r s) ()) := rfl
def asrtA (t : TypeId) (ok : Bool) (z : AV) (x : AV) : Option AV :=
  match x with
  | .iface d y => if d = t then some (if ok then .tup [y, .v (.bool true)] else y) else if ok = true then some (.tup [z, .v (.bool false)]) else none
  | .v .nilIface => if ok = true then some (.tup [z, .v (.bool false)]) else none
  | _ => none
theorem G_asrt {t : TypeId} {ok : Bool} {z : AV} {x : Operand} : G P (.asrt t ok z x) f s Kv = valK (asrtA t ok z (ev f x)) (hid1 (fun r => Kv r s) ()) := by
  simp only [G, asrtA]; generalize ev f x = a
  cases a <;> first
    | rfl
    | (rename_i d y; by_cases h : d = t
       · simp only [h, if_true]; rfl
       · simp only [h, if_false]; cases ok <;> simp [valK, hid1])
    | (rename_i v; cases v <;> first | rfl | (cases ok <;> simp [valK, hid1]))
theorem asrtA_yes {t : TypeId} {z y : AV} : asrtA t true z (.iface t y) = some (.tup [y, .v (.bool true)]) := by simp [asrtA]
theorem asrtA_no {t d : TypeId} {z y : AV} (h : d ≠ t) : asrtA t true z (.iface d y) = some (.tup [z, .v (.bool false)]) := by simp [asrtA, h]
theorem asrtA_nil {t : TypeId} {z : AV} : asrtA t true z (.v .nilIface) = some (.tup [z, .v (.bool false)]) := by simp [asrtA]
theorem asrtA_one {t : TypeId} {z y : AV} : asrtA t false z (.iface t y) = some y := by simp [asrtA]
def eqiA (neg : Bool) (x : AV) : Option AV :=
  match x with
  | .iface _ _ => some (.v (.bool neg))
  | .v .nilIface => some (.v (.bool (!neg)))
  | _ => none
theorem G_eqi {neg : Bool} {x : Operand} : G P (.eqi neg x) f s Kv = valK (eqiA neg (ev f x)) (hid1 (fun r => Kv r s) ()) := by
  simp only [G, eqiA]; generalize ev f x = a
  cases a <;> first
    | rfl
    | (rename_i v; cases v <;> rfl)
theorem eqiA_some {neg : Bool} {t : TypeId} {y : AV} : eqiA neg (.iface t y) = some (.v (.bool neg)) := rfl
theorem eqiA_nil {neg : Bool} : eqiA neg (.v .nilIface) = some (.v (.bool (!neg))) := rfl
def eqfnA (neg : Bool) (x : AV) : Option AV :=
  match x with
  | .clo _ _ _ => some (.v (.bool neg))
  | .v .nilFunc => some (.v (.bool (!neg)))
  | _ => none
theorem G_eqfn {neg : Bool} {x : Operand} : G P (.eqfn neg x) f s Kv = valK (eqfnA neg (ev f x)) (hid1 (fun r => Kv r s) ()) := by
  simp only [G, eqfnA]; generalize ev f x = a
  cases a <;> first
    | rfl
    | (rename_i v; cases v <;> rfl)
theorem eqfnA_some {neg : Bool} {g : Nat} {a b : List AV} : eqfnA neg (.clo g a b) = some (.v (.bool neg)) := rfl
theorem eqfnA_nil {neg : Bool} : eqfnA neg (.v .nilFunc) = some (.v (.bool (!neg))) := rfl
def panK (P : Ctx) (x : AV) (s : Hp) : Prop :=
  match x with
  | .iface t y => up P.k (.iface t y) s
  | _ => False
theorem G_pan {x : Operand} : G P (.pan x) f s Kv = panK P (ev f x) s := rfl
theorem pan_intro {t : TypeId} {y : AV} (h : P.k (.iface t y) s) : panK P (.iface t y) s := up_of h
def rngSK (x : AV) (s : Hp) (C : Nat → ByteArray → Prop) : Prop :=
  match x with
  | .v (.string t) => ∀ l, s l = none → C l t
  | _ => False
theorem G_rngS {x : Operand} : G P (.rngS x) f s Kv = rngSK (ev f x) s (hid2 (fun l t => Kv (.ptr l 0) (s.set l (.it t 0))) ()) := rfl
theorem rngS_str {bs : List UInt8} {C : Nat → ByteArray → Prop} {d : Dep C} : rngSK (.v (.string ⟨bs.toArray⟩)) s (hid2 C d) = newK s (hid1 (fun l => C l ⟨bs.toArray⟩) ()) := rfl
def nxtSK (x : AV) (s : Hp) (C : AV → Hp → Prop) : Prop :=
  match x with
  | .ptr l off => off = 0 ∧ match s l with
    | some (.it t pos) => if pos < t.size then C (.tup [.v (.bool true), .v (.int .i64 pos), .v (.int .i32 (Utf8.decode t pos).1)]) (s.set l (.it t (pos + (Utf8.decode t pos).2))) else C (.tup [.v (.bool false)]) s
    | _ => False
  | _ => False
theorem G_nxtS {x : Operand} : G P (.nxtS x) f s Kv = nxtSK (ev f x) s (hid2 Kv ()) := rfl
theorem nxtS_some {l pos : Nat} {bs : List UInt8} {C : AV → Hp → Prop} {d : Dep C} (h : s l = some (.it ⟨bs.toArray⟩ pos)) (hp : pos < bs.length)
    (hC : C (.tup [.v (.bool true), .v (.int .i64 pos), .v (.int .i32 (Utf8.decode ⟨bs.toArray⟩ pos).1)]) (s.set l (.it ⟨bs.toArray⟩ (pos + (Utf8.decode ⟨bs.toArray⟩ pos).2)))) : nxtSK (.ptr l 0) s (hid2 C d) := by
  refine ⟨rfl, ?_⟩
  rw [h]
  simp only [size_str, if_pos hp]; exact hC
theorem nxtS_none {l pos : Nat} {bs : List UInt8} {C : AV → Hp → Prop} {d : Dep C} (h : s l = some (.it ⟨bs.toArray⟩ pos)) (hp : ¬ pos < bs.length) (hC : C (.tup [.v (.bool false)]) s) : nxtSK (.ptr l 0) s (hid2 C d) := by
  refine ⟨rfl, ?_⟩
  rw [h]
  simp only [size_str, if_neg hp]; exact hC
def s2bMK (x : AV) (s : Hp) (C : AV → Hp → Prop) : Prop :=
  match x with
  | .v (.string t) => t.size ≤ 140737488355328 ∧ ∀ g cap sp, s g = none → t.size ≤ cap → cap ≤ maxLen → sp.length = cap - t.size → C (.mb g t.size cap 1) (s.set g (.sc (t.data.toList.map byteAV ++ sp)))
  | _ => False
theorem G_s2bM {x : Operand} : G P (.s2bM x) f s Kv = s2bMK (ev f x) s (hid2 Kv ()) := rfl
theorem G_allocT {T : TypeId} {z : List AV} : G P (.allocT T z) f s Kv = newK s (hid1 (fun l => Kv (.ptr l 0) (s.set l (.tc T z))) ()) := rfl
def appTK (e : TypeId) (s : Hp) (x y : AV) (C : AV → Hp → Prop) : Prop :=
  match srcS s 1 y with
    | some (m, ys) => match x with
      | .sl xs o => xs = [] ∧ (o = .nil ∨ o = .zero) ∧ m ≤ 140737488355328 ∧
        (if m = 0 then C (.sl [] o) s else ∀ g cap sp, s g = none → m ≤ cap → cap ≤ maxLen → sp.length = (cap - m) * 1 → C (.mb g m cap 1) (s.set g (.tc e (ys ++ sp))))
      | .mb l n cap k' => match s l with
        | some (.tc T cs) => T = e ∧ k' = 1 ∧ cs.length = cap * 1 ∧ n + m ≤ 140737488355328 ∧
          (if n + m ≤ cap then C (.mb l (n + m) cap 1) (s.set l (.tc T (putAt cs (n * 1) ys)))
           else ∀ g cap' sp, s g = none → n + m ≤ cap' → cap' ≤ maxLen → sp.length = (cap' - (n + m)) * 1 → C (.mb g (n + m) cap' 1) (s.set g (.tc e (cs.take (n * 1) ++ ys ++ sp))))
        | _ => False
      | _ => False
    | none => False
theorem G_appT {e : TypeId} {x y : Operand} : G P (.appT e x y) f s Kv = appTK e s (ev f x) (ev f y) (hid2 Kv ()) := rfl
def toUK (x : AV) (s : Hp) (C : AV → Prop) : Prop :=
  match x with
  | .ptr l off => match s.read l with
    | some cs => off < cs.length ∧ C (.ptr l off)
    | none => False
  | _ => False
theorem G_toU {x : Operand} : G P (.toU x) f s Kv = toUK (ev f x) s (hid1 (fun r => Kv r s) ()) := by
  simp only [G, toUK]; generalize ev f x = a
  cases a <;> rfl
theorem toU_ptr {l off : Nat} {cs : List AV} {C : AV → Prop} {d : Dep C} (h : s.read l = some cs) (h2 : off < cs.length) (hC : C (.ptr l off)) : toUK (.ptr l off) s (hid1 C d) := by
  simp only [toUK, h]; exact ⟨h2, hC⟩
def frUK (T : TypeId) (n : Nat) (x : AV) (s : Hp) (C : AV → Prop) : Prop :=
  match x with
  | .ptr l off => off = 0 ∧ match s l with
    | some (.tc T' cs) => T' = T ∧ cs.length = n ∧ C (.ptr l off)
    | _ => False
  | _ => False
theorem G_frU {T : TypeId} {n : Nat} {x : Operand} : G P (.frU T n x) f s Kv = frUK T n (ev f x) s (hid1 (fun r => Kv r s) ()) := by
  simp only [G, frUK]; generalize ev f x = a
  cases a <;> rfl
theorem frU_ptr {T : TypeId} {n l : Nat} {cs : List AV} {C : AV → Prop} {d : Dep C} (h : s l = some (.tc T cs)) (h2 : cs.length = n) (hC : C (.ptr l 0)) : frUK T n (.ptr l 0) s (hid1 C d) := by
  simp only [frUK, h]; exact ⟨trivial, trivial, h2, hC⟩
def sdatA (x : AV) : Option AV :=
  match x with
  | .sl [] .nil => some (.v (.pointer none))
  | .mb l _ cap _ => if 0 < cap then some (.ptr l 0) else none
  | _ => none
theorem G_sdat {x : Operand} : G P (.sdat x) f s Kv = valK (sdatA (ev f x)) (hid1 (fun r => Kv r s) ()) := by
  simp only [G, sdatA]; generalize ev f x = a
  cases a <;> first
    | rfl
    | (rename_i xs o; cases xs <;> cases o <;> simp [valK, hid1])
    | (simp only [valK_ite, hid1_eq]; done)
theorem sdatA_nil : sdatA (.sl [] .nil) = some (.v (.pointer none)) := rfl
theorem sdatA_mb {l n cap k : Nat} (h : 0 < cap) : sdatA (.mb l n cap k) = some (.ptr l 0) := by simp [sdatA, h]
def ustrK (e : TypeId) (x y : AV) (s : Hp) (C : AV → Hp → Prop) : Prop :=
  match x, y with
    | .v (.pointer none), .v (.int k n) => k = .i64 ∧ n = 0 ∧ C (.v (.string ⟨#[]⟩)) s
    | .ptr l off, .v (.int k n) => k = .i64 ∧ off = 0 ∧ 0 < n ∧ match s l with
      | some (.tc T cs) => T = e ∧ n ≤ cs.length ∧ n ≤ 9223372036854775807 ∧ match bytesOf (cs.take n.toNat) with
        | some bs => C (.v (.string ⟨bs.toArray⟩)) (s.del l)
        | none => False
      | _ => False
    | _, _ => False
theorem G_ustr {e : TypeId} {x y : Operand} : G P (.ustr e x y) f s Kv = ustrK e (ev f x) (ev f y) s (hid2 Kv ()) := by
  simp only [G, ustrK]; generalize ev f x = a; generalize ev f y = b
  cases a <;> first
    | rfl
    | (rename_i v; cases v <;> first
        | rfl
        | (rename_i p; cases p <;> first | rfl | (cases b <;> first | rfl | (rename_i u; cases u <;> rfl))))
    | (cases b <;> first | rfl | (rename_i u; cases u <;> rfl))
theorem ustr_nil {e : TypeId} {C : AV → Hp → Prop} {d : Dep C} (hC : C (.v (.string ⟨#[]⟩)) s) : ustrK e (.v (.pointer none)) (.v (.int .i64 0)) s (hid2 C d) := ⟨rfl, rfl, hC⟩
theorem ustr_some {e : TypeId} {l n : Nat} {cs : List AV} {bs : List UInt8} {C : AV → Hp → Prop} {d : Dep C} (h : s l = some (.tc e cs)) (h0 : 0 < n) (hn : n ≤ cs.length) (h63 : n ≤ 9223372036854775807) (hb : cs.take n = bs.map byteAV)
    (hC : C (.v (.string ⟨bs.toArray⟩)) (s.del l)) : ustrK e (.ptr l 0) (.v (.int .i64 (n : Int))) s (hid2 C d) := by
  refine ⟨rfl, rfl, by omega, ?_⟩
  rw [h]
  refine ⟨rfl, by omega, by omega, ?_⟩
  simp only [Int.toNat_natCast, hb, bytesOf_map]; exact hC
/-- a store into a row of cells of whatever kind -/
def storeXK (s : Hp) (n : Nat) (p : AV) (ys : List AV) (C : Hp → Prop) : Prop :=
  match p with
  | .ptr l off => match s l with
    | some (.cells cs) => ys.length = n ∧ off + n ≤ cs.length ∧ C (s.set l (.cells (putAt cs off ys)))
    | some (.tc T cs) => ys.length = n ∧ off + n ≤ cs.length ∧ C (s.set l (.tc T (putAt cs off ys)))
    | some (.sc cs) => ys.length = n ∧ off + n ≤ cs.length ∧ C (s.set l (.sc (putAt cs off ys)))
    | _ => False
  | _ => False
theorem G_storeX {n : Nat} {x y : Operand} : G P (.storeX n x y) f s Kv = storeXK s n (ev f x) (ev f y).cells (hid1 (fun s' => Kv (.tup []) s') ()) := by
  simp only [G, storeXK]; generalize ev f x = a
  cases a <;> rfl
theorem storeX_t {n l off : Nat} {T : TypeId} {cs ys : List AV} {C : Hp → Prop} {d : Dep C} (h : s l = some (.tc T cs)) (h1 : ys.length = n) (h2 : off + n ≤ cs.length) (hC : C (s.set l (.tc T (putAt cs off ys)))) : storeXK s n (.ptr l off) ys (hid1 C d) := by
  simp only [storeXK, h]; exact ⟨h1, h2, hC⟩
theorem storeX_c {n l off : Nat} {cs ys : List AV} {C : Hp → Prop} {d : Dep C} (h : s l = some (.cells cs)) (h1 : ys.length = n) (h2 : off + n ≤ cs.length) (hC : C (s.set l (.cells (putAt cs off ys)))) : storeXK s n (.ptr l off) ys (hid1 C d) := by
  simp only [storeXK, h]; exact ⟨h1, h2, hC⟩
theorem storeX_s {n l off : Nat} {cs ys : List AV} {C : Hp → Prop} {d : Dep C} (h : s l = some (.sc cs)) (h1 : ys.length = n) (h2 : off + n ≤ cs.length) (hC : C (s.set l (.sc (putAt cs off ys)))) : storeXK s n (.ptr l off) ys (hid1 C d) := by
  simp only [storeXK, h]; exact ⟨h1, h2, hC⟩
theorem awp_refuse {K : Ex → Fr → Hp → Prop} : awp P .refuse K f s = False := rfl
theorem Hp.read_set_tc {l : Nat} {T : TypeId} {cs : List AV} : (s.set l (.tc T cs)).read l = some cs := by simp [Hp.read, Hp.set]
theorem Hp.read_ofT {l : Nat} {T : TypeId} {cs : List AV} (h : s l = some (.tc T cs)) : s.read l = some cs := by simp [Hp.read, h]
theorem cells_clo {g : Nat} {a b : List AV} : (AV.clo g a b).cells = [.clo g a b] := rfl
theorem nilcA_clo {g : Nat} {a b : List AV} : nilcA (.clo g a b) = some (.clo g a b) := rfl
def eqppA (neg : Bool) (s : Hp) (x y : AV) : Option AV :=
  match x, y with
    | .ptr _ _, .v (.pointer none) => some (.v (.bool neg))
    | .v (.pointer none), .ptr _ _ => some (.v (.bool neg))
    | .v (.pointer none), .v (.pointer none) => some (.v (.bool (!neg)))
    | .ptr l o, .ptr l' o' => if isCells s l = true ∧ isCells s l' = true then some (.v (.bool (xor neg (decide (l = l' ∧ o = o'))))) else none
    | _, _ => none
theorem G_eqpp {neg : Bool} {x y : Operand} : G P (.eqpp neg x y) f s Kv = valK (eqppA neg s (ev f x) (ev f y)) (hid1 (fun r => Kv r s) ()) := by
  simp only [G, eqppA]; generalize ev f x = a; generalize ev f y = b
  cases a <;> first
    | rfl
    | (rename_i v; cases v <;> first
        | rfl
        | (rename_i p; cases p <;> first | rfl | (cases b <;> first | rfl | (rename_i u; cases u <;> first | rfl | (rename_i q; cases q <;> rfl)))))
    | (cases b <;> first | rfl | (rename_i u; cases u <;> first | rfl | (rename_i q; cases q <;> rfl)) | (simp only [valK_ite, hid1_eq]; done))
theorem eqppA_same {neg : Bool} {l o : Nat} (h : isCells s l = true) : eqppA neg s (.ptr l o) (.ptr l o) = some (.v (.bool (!neg))) := by simp [eqppA, h]
theorem eqppA_nil {neg : Bool} {l o : Nat} : eqppA neg s (.ptr l o) (.v (.pointer none)) = some (.v (.bool neg)) := rfl
theorem eqppA_nil2 {neg : Bool} {l o : Nat} : eqppA neg s (.v (.pointer none)) (.ptr l o) = some (.v (.bool neg)) := rfl
theorem eqppA_nn {neg : Bool} : eqppA neg s (.v (.pointer none)) (.v (.pointer none)) = some (.v (.bool (!neg))) := rfl
end
theorem beq_tt : (true == true) = true := rfl
theorem beq_tf : (true == false) = false := rfl
theorem beq_ft : (false == true) = false := rfl
theorem beq_ff : (false == false) = true := rfl
/-! bundles -/
def rK :=
  And.intro @G_clo <|
  And.intro @G_callV <|
  And.intro @G_mki <|
  And.intro @G_asrt <|
  And.intro @G_eqi <|
  And.intro @G_eqfn <|
  And.intro @G_pan <|
  And.intro @G_rngS <|
  And.intro @G_nxtS <|
  And.intro @G_s2bM <|
  And.intro @G_allocT <|
  And.intro @G_appT <|
  And.intro @G_toU <|
  And.intro @G_frU <|
  And.intro @G_sdat <|
  And.intro @G_ustr <|
  And.intro @G_storeX <|
  And.intro @G_eqpp <|
  @awp_refuse
def rM :=
  And.intro @beq_tt <|
  And.intro @beq_tf <|
  And.intro @beq_ft <|
  And.intro @beq_ff <|
  And.intro @asrtA_yes <|
  And.intro @asrtA_no <|
  And.intro @asrtA_nil <|
  And.intro @asrtA_one <|
  And.intro @eqiA_some <|
  And.intro @eqiA_nil <|
  And.intro @eqfnA_some <|
  And.intro @eqfnA_nil <|
  And.intro @rngS_str <|
  And.intro @sdatA_nil <|
  And.intro @sdatA_mb <|
  And.intro @Hp.read_set_tc <|
  And.intro @cells_clo <|
  And.intro @nilcA_clo <|
  And.intro @eqppA_same <|
  And.intro @eqppA_nil <|
  And.intro @eqppA_nil2 <|
  @eqppA_nn
end Go.Av
/-
  Running abstract code, continued: maps.
-/
namespace Go.Av
open Go

/-! ### what a map says of a key -/

noncomputable def putM (F : AV → Option AV) (k v : AV) : AV → Option AV := fun k' => @ite _ (k' = k) (Classical.propDecidable _) (some v) (F k')
theorem putM_same {F : AV → Option AV} {k v : AV} : putM F k v k = some v := by simp [putM]
theorem putM_ne {F : AV → Option AV} {k v k' : AV} (h : k' ≠ k) : putM F k v k' = F k' := by simp [putM, h]

theorem findM_shift (k : AV) : ∀ (us : List (AV × AV × Nat)) (i : Nat), findM us k i = (findM us k 0).map fun r => (r.1 + i, r.2)
  | [], _ => rfl
  | u :: us, i => by
    unfold findM
    split
    · simp
    · rw [findM_shift k us (i + 1), findM_shift k us (0 + 1)]
      cases findM us k 0 <;> simp [Nat.add_comm, Nat.add_left_comm, Nat.add_assoc]
theorem findM_cons (u : AV × AV × Nat) (us : List (AV × AV × Nat)) (k : AV) : findM (u :: us) k 0 = @ite _ (k = u.1) (Classical.propDecidable _) (some (0, u.2.1)) ((findM us k 0).map fun r => (r.1 + 1, r.2)) := by
  conv => lhs; unfold findM
  rw [findM_shift k us (0 + 1)]
  by_cases h : k = u.1
  · rw [if_pos ((peq_iff _ _).2 h), if_pos h]
  · rw [if_neg (fun e => h ((peq_iff _ _).1 e)), if_neg h]
theorem findM_get (k : AV) : ∀ (us : List (AV × AV × Nat)) {j : Nat} {v : AV}, findM us k 0 = some (j, v) → ∃ b, us[j]? = some (k, v, b)
  | [], _, _, h => by simp [findM] at h
  | u :: us, j, v, h => by
    rw [findM_cons] at h
    split at h
    · next hk => simp only [Option.some.injEq, Prod.mk.injEq] at h; obtain ⟨rfl, rfl⟩ := h; exact ⟨u.2.2, by rw [hk]; rfl⟩
    · cases hf : findM us k 0 with
      | none => rw [hf] at h; cases h
      | some r =>
        rw [hf] at h
        simp only [Option.map_some, Option.some.injEq, Prod.mk.injEq] at h
        obtain ⟨rfl, rfl⟩ := h
        obtain ⟨b, hb⟩ := findM_get k us (j := r.1) (v := r.2) hf
        exact ⟨b, by simpa using hb⟩
theorem findM_push (k v : AV) (c : Nat) (k' : AV) : ∀ us : List (AV × AV × Nat), findM us k 0 = none → (findM (us ++ [(k, v, c)]) k' 0).map (·.2) = putM (fun k' => (findM us k' 0).map (·.2)) k v k'
  | [], _ => by
    rw [List.nil_append, findM_cons]
    by_cases h : k' = k
    · subst h; simp [putM]
    · simp [putM, h, findM]
  | u :: us, hn => by
    rw [findM_cons] at hn
    split at hn
    · cases hn
    · next hk =>
      have hn' : findM us k 0 = none := by cases hf : findM us k 0 with | none => rfl | some r => rw [hf] at hn; cases hn
      have ih := findM_push k v c k' us hn'
      rw [List.cons_append, findM_cons]
      by_cases h : k' = u.1
      · have hkk : k' ≠ k := fun e => hk (by rw [← e]; exact h)
        rw [if_pos h, putM_ne hkk]
        rw [findM_cons, if_pos h]
      · rw [if_neg h]
        by_cases hkk : k' = k
        · subst hkk
          rw [putM_same] at ih ⊢
          cases hf : findM (us ++ [(k', v, c)]) k' 0 with
          | none => rw [hf] at ih; cases ih
          | some r => rw [hf] at ih; simpa using ih
        · rw [putM_ne hkk] at ih ⊢
          rw [findM_cons, if_neg h, Option.map_map, Option.map_map]
          exact ih
theorem findM_set (k v v' : AV) (k' : AV) : ∀ (us : List (AV × AV × Nat)) (j : Nat), findM us k 0 = some (j, v) → (findM (us.modify j fun u => (u.1, v', u.2.2)) k' 0).map (·.2) = putM (fun k' => (findM us k' 0).map (·.2)) k v' k'
  | [], _, h => by simp [findM] at h
  | u :: us, j, h => by
    rw [findM_cons] at h
    split at h
    · next hk =>
      simp only [Option.some.injEq, Prod.mk.injEq] at h
      obtain ⟨rfl, _⟩ := h
      rw [List.modify_zero_cons, findM_cons]
      by_cases h : k' = k
      · subst h; rw [putM_same]; simp [hk]
      · have : ¬ k' = u.1 := fun e => h (by rw [e, ← hk])
        rw [putM_ne h, if_neg this]
        rw [findM_cons, if_neg this]
    · next hk =>
      cases hf : findM us k 0 with
      | none => rw [hf] at h; cases h
      | some r =>
        rw [hf] at h
        simp only [Option.map_some, Option.some.injEq, Prod.mk.injEq] at h
        obtain ⟨rfl, rfl⟩ := h
        have ih := findM_set k r.2 v' k' us r.1 hf
        rw [List.modify_succ_cons, findM_cons]
        by_cases h : k' = u.1
        · have hkk : k' ≠ k := fun e => hk (by rw [← e]; exact h)
          rw [if_pos h, putM_ne hkk]
          rw [findM_cons, if_pos h]
        · rw [if_neg h]
          by_cases hkk : k' = k
          · subst hkk
            rw [putM_same] at ih ⊢
            rw [Option.map_map]
            exact ih
          · rw [putM_ne hkk] at ih ⊢
            rw [findM_cons, if_neg h, Option.map_map, Option.map_map]
            exact ih

theorem bornM_get : ∀ (us : List (AV × AV × Nat)) {j : Nat} {u : AV × AV × Nat}, (us.map (·.2.2)).Nodup → us[j]? = some u → bornM us (u.2.2 : Int) = some j
  | [], _, _, _, h => by simp at h
  | u0 :: us, 0, u, _, h => by
    obtain rfl : u0 = u := by simpa using h
    unfold bornM; rw [List.findIdx?_cons]; simp
  | u0 :: us, j + 1, u, hn, h => by
    simp only [List.map_cons, List.nodup_cons] at hn
    have h' : us[j]? = some u := by simpa using h
    have ih := bornM_get us hn.2 h'
    have hne : ¬ ((u0.2.2 : Int) == (u.2.2 : Int)) = true := by
      intro e
      have e' : u0.2.2 = u.2.2 := by have := beq_iff_eq.1 e; omega
      exact hn.1 (by rw [e']; exact List.mem_map.2 ⟨u, List.mem_of_getElem? h', rfl⟩)
    unfold bornM at ih ⊢
    rw [List.findIdx?_cons, if_neg hne, ih]; rfl

structure MapIs (rs : List (Nat × CK)) (us : List (AV × AV × Nat)) (clock : Nat) (F : AV → Option AV) : Prop where
  val : ∀ k, (findM us k 0).map (·.2) = F k
  keys : keysOk rs us
  born : (us.map (·.2.2)).Nodup
  lt : ∀ u ∈ us, u.2.2 < clock

theorem MapIs.new {rs : List (Nat × CK)} : MapIs rs [] 0 fun _ => none := ⟨fun _ => rfl, fun u h => by simp at h, by simp, fun u h => by simp at h⟩

theorem map_born_modify (us : List (AV × AV × Nat)) (j : Nat) (v : AV) : (us.modify j fun u => (u.1, v, u.2.2)).map (·.2.2) = us.map (·.2.2) := by
  induction us generalizing j with
  | nil => simp
  | cons u us ih => cases j with
    | zero => simp
    | succ j => simp [ih]
theorem mem_modify {us : List (AV × AV × Nat)} {j : Nat} {v : AV} {u : AV × AV × Nat} (h : u ∈ us.modify j fun u => (u.1, v, u.2.2)) : ∃ u0 ∈ us, u.1 = u0.1 ∧ u.2.2 = u0.2.2 := by
  induction us generalizing j with
  | nil => simp at h
  | cons u0 us ih => cases j with
    | zero =>
      simp only [List.modify_zero_cons, List.mem_cons] at h
      rcases h with rfl | h
      · exact ⟨u0, by simp, rfl, rfl⟩
      · exact ⟨u, by simp [h], rfl, rfl⟩
    | succ j =>
      simp only [List.modify_succ_cons, List.mem_cons] at h
      rcases h with rfl | h
      · exact ⟨u, by simp, rfl, rfl⟩
      · obtain ⟨q, h1, h2⟩ := ih h; exact ⟨q, by simp [h1], h2⟩
theorem MapIs.set {rs : List (Nat × CK)} {us : List (AV × AV × Nat)} {clock : Nat} {F : AV → Option AV} (h : MapIs rs us clock F) {k v v' : AV} {j : Nat} (hf : findM us k 0 = some (j, v)) : MapIs rs (us.modify j fun u => (u.1, v', u.2.2)) clock (putM F k v') where
  val := fun k' => by
    rw [findM_set k v v' k' us j hf]
    simp only [putM]
    rw [h.val]
  keys := fun u hu => by
    obtain ⟨u0, h1, h2, _⟩ := mem_modify hu
    rw [h2]; exact h.keys u0 h1
  born := by rw [map_born_modify]; exact h.born
  lt := fun u hu => by
    obtain ⟨u0, h1, _, h2⟩ := mem_modify hu
    rw [h2]; exact h.lt u0 h1
theorem MapIs.push {rs : List (Nat × CK)} {us : List (AV × AV × Nat)} {clock : Nat} {F : AV → Option AV} (h : MapIs rs us clock F) {cs : List AV} {v : AV} (hfit : fitR rs cs) (hf : findM us (.agg cs) 0 = none) : MapIs rs (us ++ [(.agg cs, v, clock)]) (clock + 1) (putM F (.agg cs) v) where
  val := fun k' => by
    rw [findM_push _ v clock k' us hf]
    simp only [putM]
    rw [h.val]
  keys := fun u hu => by
    rcases List.mem_append.1 hu with hu | hu
    · exact h.keys u hu
    · simp at hu; subst hu; exact ⟨cs, rfl, hfit⟩
  born := by
    rw [List.map_append, List.nodup_append]
    refine ⟨h.born, by simp, ?_⟩
    intro a ha b hb
    obtain ⟨u, hu, rfl⟩ := List.mem_map.1 ha
    simp at hb; subst hb
    exact Nat.ne_of_lt (h.lt u hu)
  lt := fun u hu => by
    rcases List.mem_append.1 hu with hu | hu
    · exact Nat.lt_succ_of_lt (h.lt u hu)
    · simp at hu; subst hu; exact Nat.lt_succ_self _
theorem putM_twice {F : AV → Option AV} {k v v' : AV} : putM (putM F k v) k v' = putM F k v' := by
  funext k'
  by_cases h : k' = k
  · subst h; rw [putM_same, putM_same]
  · rw [putM_ne h, putM_ne h, putM_ne h]

/-- a map, and what it says -/
def MapAt (s : Hp) (l : Nat) (rs : List (Nat × CK)) (F : AV → Option AV) : Prop := ∃ us clock, s l = some (.mp us clock) ∧ MapIs rs us clock F
/-- a map with an entry under way -/
def MapMid (s : Hp) (l : Nat) (rs : List (Nat × CK)) (F : AV → Option AV) (k : AV) (b : Nat) : Prop :=
  ∃ us clock, s l = some (.mp us clock) ∧ ∀ v, ∃ j, bornM us (b : Int) = some j ∧ MapIs rs (us.modify j fun u => (u.1, v, u.2.2)) clock (putM F k v)
theorem MapAt.mono {s s' : Hp} {l : Nat} {rs : List (Nat × CK)} {F : AV → Option AV} (h : MapAt s l rs F) (hs : s' l = s l) : MapAt s' l rs F := by
  obtain ⟨us, c, h1, h2⟩ := h; exact ⟨us, c, by rw [hs]; exact h1, h2⟩
theorem MapMid.mono {s s' : Hp} {l : Nat} {rs : List (Nat × CK)} {F : AV → Option AV} {k : AV} {b : Nat} (h : MapMid s l rs F k b) (hs : s' l = s l) : MapMid s' l rs F k b := by
  obtain ⟨us, c, h1, h2⟩ := h; exact ⟨us, c, by rw [hs]; exact h1, h2⟩

section
variable {P : Ctx} {f : Fr} {s : Hp} {Kv : AV → Hp → Prop}
theorem G_mkM : G P .mkM f s Kv = newK s (hid1 (fun l => Kv (.mapr l) (s.set l (.mp [] 0))) ()) := rfl
def lkpK (ok : Bool) (rs : List (Nat × CK)) (z : AV) (s : Hp) (x k : AV) (C : AV → Prop) : Prop :=
  match x, k with
  | .mapr l, .agg cs => match s l with
    | some (.mp us _) => fitR rs cs ∧ keysOk rs us ∧ (match findM us (.agg cs) 0 with
      | some (_, v) => C (if ok then .tup [v, .v (.bool true)] else v)
      | none => C (if ok then .tup [z, .v (.bool false)] else z))
    | _ => False
  | _, _ => False
theorem G_lkp {ok : Bool} {rs : List (Nat × CK)} {z : AV} {x k : Operand} : G P (.lkp ok rs z x k) f s Kv = lkpK ok rs z s (ev f x) (ev f k) (hid1 (fun r => Kv r s) ()) := by
  simp only [G, lkpK]; generalize ev f x = a; generalize ev f k = b
  cases a <;> first
    | rfl
    | (cases b <;> rfl)
theorem lkp_intro {ok : Bool} {rs : List (Nat × CK)} {z : AV} {l : Nat} {cs : List AV} {F : AV → Option AV} {C : AV → Prop} {d : Dep C} (h : MapAt s l rs F) (hf : fitR rs cs)
    (hs : ∀ v, F (.agg cs) = some v → C (if ok then .tup [v, .v (.bool true)] else v)) (hn : F (.agg cs) = none → C (if ok then .tup [z, .v (.bool false)] else z)) : lkpK ok rs z s (.mapr l) (.agg cs) (hid1 C d) := by
  obtain ⟨us, c, h1, h2⟩ := h
  simp only [lkpK, h1]
  refine ⟨hf, h2.keys, ?_⟩
  have hv := h2.val (.agg cs)
  cases hq : findM us (.agg cs) 0 with
  | none => rw [hq] at hv; exact hn hv.symm
  | some r => rw [hq] at hv; exact hs _ hv.symm
def mupK (rs : List (Nat × CK)) (s : Hp) (x k v : AV) (C : Hp → Prop) : Prop :=
  match x, k with
  | .mapr l, .agg cs => match s l with
    | some (.mp us clock) => fitR rs cs ∧ keysOk rs us ∧ C (s.set l (.mp (updM us (.agg cs) v clock).1 (updM us (.agg cs) v clock).2))
    | _ => False
  | _, _ => False
theorem G_mup {rs : List (Nat × CK)} {x k v : Operand} : G P (.mup rs x k v) f s Kv = mupK rs s (ev f x) (ev f k) (ev f v) (hid1 (fun s' => Kv (.tup []) s') ()) := by
  simp only [G, mupK]; generalize ev f x = a; generalize ev f k = b
  cases a <;> first
    | rfl
    | (cases b <;> rfl)
theorem mup_intro {rs : List (Nat × CK)} {l : Nat} {cs : List AV} {v : AV} {F : AV → Option AV} {C : Hp → Prop} {d : Dep C} (h : MapAt s l rs F) (hf : fitR rs cs)
    (hC : ∀ o, MapAt (s.set l o) l rs (putM F (.agg cs) v) → C (s.set l o)) : mupK rs s (.mapr l) (.agg cs) v (hid1 C d) := by
  obtain ⟨us, c, h1, h2⟩ := h
  simp only [mupK, h1]
  refine ⟨hf, h2.keys, hC _ ⟨_, _, Hp.set_same _ _ _, ?_⟩⟩
  unfold updM
  cases hq : findM us (.agg cs) 0 with
  | none => exact h2.push hf hq
  | some r => exact h2.set hq
def mentK (rs : List (Nat × CK)) (z : AV) (s : Hp) (x k : AV) (C : AV → Hp → Prop) : Prop :=
  match x, k with
  | .mapr l, .agg cs => match s l with
    | some (.mp us clock) => fitR rs cs ∧ keysOk rs us ∧ C (.tup [(entM us (.agg cs) z clock).1, .v (.int .i64 ((entM us (.agg cs) z clock).2.1 : Nat))]) (s.set l (.mp (entM us (.agg cs) z clock).2.2.1 (entM us (.agg cs) z clock).2.2.2))
    | _ => False
  | _, _ => False
theorem G_ment {rs : List (Nat × CK)} {z : AV} {x k : Operand} : G P (.ment rs z x k) f s Kv = mentK rs z s (ev f x) (ev f k) (hid2 Kv ()) := rfl
theorem ment_intro {rs : List (Nat × CK)} {z : AV} {l : Nat} {cs : List AV} {F : AV → Option AV} {C : AV → Hp → Prop} {d : Dep C} (h : MapAt s l rs F) (hf : fitR rs cs)
    (hC : ∀ b o, MapMid (s.set l o) l rs F (.agg cs) b → C (.tup [(F (.agg cs)).getD z, .v (.int .i64 (b : Nat))]) (s.set l o)) : mentK rs z s (.mapr l) (.agg cs) (hid2 C d) := by
  obtain ⟨us, c, h1, h2⟩ := h
  simp only [mentK, h1]
  refine ⟨hf, h2.keys, ?_⟩
  simp only [hid2]
  have hv := h2.val (.agg cs)
  have e : (F (.agg cs)).getD z = (entM us (.agg cs) z c).1 := by
    rw [← hv]; unfold entM
    cases findM us (.agg cs) 0 <;> rfl
  rw [← e]
  refine hC _ _ ⟨_, _, Hp.set_same _ _ _, fun v => ?_⟩
  unfold entM
  cases hq : findM us (.agg cs) 0 with
  | none =>
    have h3 := h2.push (v := z) hf hq
    have hl : (us ++ [(AV.agg cs, z, c)])[us.length]? = some (AV.agg cs, z, c) := by simp
    have hfd : ∃ j v0, findM (us ++ [(AV.agg cs, z, c)]) (.agg cs) 0 = some (j, v0) := by
      have := h3.val (.agg cs)
      rw [putM_same] at this
      cases hz : findM (us ++ [(AV.agg cs, z, c)]) (.agg cs) 0 with
      | none => rw [hz] at this; cases this
      | some r => exact ⟨r.1, r.2, rfl⟩
    obtain ⟨j, v0, hj⟩ := hfd
    have h4 := h3.set (v' := v) hj
    rw [putM_twice] at h4
    obtain ⟨b, hb⟩ := findM_get _ _ hj
    have hbc : b = c := by
      have hmem := List.mem_of_getElem? hb
      rcases List.mem_append.1 hmem with hm | hm
      · exfalso
        obtain ⟨i, hi, hie⟩ := List.getElem_of_mem hm
        have hnone : ∀ us : List (AV × AV × Nat), findM us (.agg cs) 0 = none → ∀ u ∈ us, u.1 ≠ .agg cs := by
          intro us
          induction us with
          | nil => intro _ u hu; simp at hu
          | cons u0 us ih =>
            intro hn u hu
            rw [findM_cons] at hn
            split at hn
            · cases hn
            · next hk =>
              have hn' : findM us (.agg cs) 0 = none := by cases hf : findM us (.agg cs) 0 with | none => rfl | some r => rw [hf] at hn; cases hn
              rcases List.mem_cons.1 hu with rfl | hu
              · exact fun e => hk e.symm
              · exact ih hn' u hu
        exact hnone us hq _ hm rfl
      · simp at hm; exact hm.2
    have hbn := bornM_get _ h3.born hb
    subst hbc
    exact ⟨j, hbn, h4⟩
  | some r =>
    obtain ⟨b, hb⟩ := findM_get _ _ (j := r.1) (v := r.2) hq
    have hbn := bornM_get _ h2.born hb
    refine ⟨r.1, ?_, h2.set hq⟩
    simp only [hb, Option.map_some, Option.getD_some]
    exact hbn
def mstK (s : Hp) (x i v : AV) (C : Hp → Prop) : Prop :=
  match x, i with
  | .mapr l, .v (.int _ b) => match s l with
    | some (.mp us clock) => match bornM us b with
      | some j => C (s.set l (.mp (us.modify j fun u => (u.1, v, u.2.2)) clock))
      | none => False
    | _ => False
  | _, _ => False
theorem G_mst {x i v : Operand} : G P (.mst x i v) f s Kv = mstK s (ev f x) (ev f i) (ev f v) (hid1 (fun s' => Kv (.tup []) s') ()) := by
  simp only [G, mstK]; generalize ev f x = a; generalize ev f i = b
  cases a <;> first
    | rfl
    | (cases b <;> first | rfl | (rename_i u; cases u <;> rfl))
theorem mst_intro {rs : List (Nat × CK)} {l b : Nat} {k v : AV} {F : AV → Option AV} {C : Hp → Prop} {d : Dep C} (h : MapMid s l rs F k b)
    (hC : ∀ o, MapAt (s.set l o) l rs (putM F k v) → C (s.set l o)) : mstK s (.mapr l) (.v (.int .i64 (b : Nat))) v (hid1 C d) := by
  obtain ⟨us, c, h1, h2⟩ := h
  obtain ⟨j, h3, h4⟩ := h2 v
  simp only [mstK, h1, h3]
  exact hC _ ⟨_, _, Hp.set_same _ _ _, h4⟩
end
theorem binA_neqS {a b : List UInt8} : binA .neq (strV a) (strV b) = some (.v (.bool (!decide (a = b)))) := by
  simp only [strV, binA_v, neq_str a b]
  by_cases h : a = b <;> simp [h]
theorem binA_eqlS {a b : List UInt8} : binA .eql (strV a) (strV b) = some (.v (.bool (decide (a = b)))) := by
  simp only [strV, binA_v, eql_str a b]; rfl
theorem b2sMA_bytes {s : Hp} {bs : List UInt8} {o : Own} : b2sMA s (.sl (bs.map byteAV) o) = some (strV bs) := b2sMA_of srcF_bytes
theorem b2sA_bytes {bs : List UInt8} {o : Own} : b2sA (.sl (bs.map byteAV) o) = some (strV bs) := b2sA_map
/-! bundles -/
def rP :=
  And.intro @G_mkM <|
  And.intro @G_lkp <|
  And.intro @G_mup <|
  And.intro @G_ment <|
  @G_mst
def rQ :=
  And.intro @binA_neqS <|
  And.intro @binA_eqlS <|
  And.intro @b2sMA_bytes <|
  @b2sA_bytes
end Go.Av
/-
  slices.Equal of bytes.
-/
set_option maxRecDepth 100000
namespace Go.Proofs.YtnnjjmiahcnbaaaGreat
open Go Go.Av

theorem equal_spec (a b : List UInt8) (o o2 : Own) (s : Hp) (ha : a.length ≤ 70368744177664) :
    AC Tryz.prog 15 [.sl (a.map byteAV) o, .sl (b.map byteAV) o2] s fun x s' => s' = s ∧ x = .v (.bool (decide (a = b))) := by
  refine AC_run hm prep15 (by simp) ?_
  by_cases c : a.length = b.length
  · have c' : (a.length : Int) = b.length := by omega
    simp (dsimp := false) (implicitDefEqProofs := false) (maxSteps := 1000000) (disch := first | omega | assumption | (simp only [rL, Nat.reduceAdd]; done) | (simp only [rL, Nat.reduceAdd]; omega)) only [↓rD, rU, ev, ofConst, ofCell, ↓reduceIte, Nat.reduceEqDiff, Nat.reduceAdd, Nat.reduceSub, Nat.reduceMul, Nat.reduceLeDiff, Nat.reduceLT, Int.reduceNeg, Int.reduceToNat, Int.reduceAdd, Int.reduceSub, Int.reduceMul, Int.reduceLT, Int.reduceLE, Int.reduceEq, rX, dg_cells, dg_fold, List.drop_succ_cons, ↓rF, rG, ne_eq, not_true_eq_false, not_false_eq_true, Int.reduceNe, List.getElem?_cons_zero, List.getElem?_cons_succ, c']
    rw [← c']
    refine loop_intro (fun f s' => ∃ j : Nat, j ≤ a.length ∧ s' = s ∧ f 0 = .sl (a.map byteAV) o ∧ f 1 = .sl (b.map byteAV) o2 ∧ f 12 = .v (.int .i64 a.length) ∧ f 13 = .v (.int .i64 j) ∧ a.take j = b.take j)
      (fun f _ => match f 13 with | .v (.int _ n) => (a.length - n).toNat | _ => 0) ⟨0, by omega, rfl, ?_⟩ ?_
    · simp (dsimp := false) (implicitDefEqProofs := false) (maxSteps := 1000000) (disch := first | omega | assumption | (simp only [rL, Nat.reduceAdd]; done) | (simp only [rL, Nat.reduceAdd]; omega)) only [↓rD, rU, ev, ofConst, ofCell, ↓reduceIte, Nat.reduceEqDiff, Nat.reduceAdd, Nat.reduceSub, Nat.reduceMul, Nat.reduceLeDiff, Nat.reduceLT, Int.reduceNeg, Int.reduceToNat, Int.reduceAdd, Int.reduceSub, Int.reduceMul, Int.reduceLT, Int.reduceLE, Int.reduceEq, rX, dg_cells, dg_fold, List.drop_succ_cons, ↓rF, rG, ne_eq, not_true_eq_false, not_false_eq_true, Int.reduceNe, List.getElem?_cons_zero, List.getElem?_cons_succ, List.take_zero]
    · rintro f sA ⟨j, hj, rfl, f0, f1, f12, f13, ht⟩
      by_cases hlt : (j : Int) < a.length
      · have hj' : j < a.length := by omega
        have hjb : j < b.length := by omega
        have e1 : elA 1 (a.map byteAV)[j]? = some (.rptr [.v (.int .u8 (a.getD j 0).toNat)]) := by rw [getB hj']; rfl
        have e2 : elA 1 (b.map byteAV)[j]? = some (.rptr [.v (.int .u8 (b.getD j 0).toNat)]) := by rw [getB hjb]; rfl
        simp (dsimp := false) (implicitDefEqProofs := false) (maxSteps := 1000000) (disch := first | omega | assumption | (simp only [rL, Nat.reduceAdd]; done) | (simp only [rL, Nat.reduceAdd]; omega)) only [f0, f1, f12, f13, hlt, iaSA_sl, e1, e2, ↓rD, rU, ev, ofConst, ofCell, ↓reduceIte, Nat.reduceEqDiff, Nat.reduceAdd, Nat.reduceSub, Nat.reduceMul, Nat.reduceLeDiff, Nat.reduceLT, Int.reduceNeg, Int.reduceToNat, Int.reduceAdd, Int.reduceSub, Int.reduceMul, Int.reduceLT, Int.reduceLE, Int.reduceEq, rX, dg_cells, dg_fold, List.drop_succ_cons, ↓rF, rG, ne_eq, not_true_eq_false, not_false_eq_true, Int.reduceNe, List.getElem?_cons_zero, List.getElem?_cons_succ]
        by_cases hx : a.getD j 0 = b.getD j 0
        · have hx' : (((a.getD j 0).toNat : Int) = (b.getD j 0).toNat) = True := by rw [hx]; simp
          simp (dsimp := false) (implicitDefEqProofs := false) (maxSteps := 1000000) (disch := first | omega | assumption | (simp only [rL, Nat.reduceAdd]; done) | (simp only [rL, Nat.reduceAdd]; omega)) only [f0, f1, f12, f13, hlt, hx', ↓rD, rU, ev, ofConst, ofCell, ↓reduceIte, Nat.reduceEqDiff, Nat.reduceAdd, Nat.reduceSub, Nat.reduceMul, Nat.reduceLeDiff, Nat.reduceLT, Int.reduceNeg, Int.reduceToNat, Int.reduceAdd, Int.reduceSub, Int.reduceMul, Int.reduceLT, Int.reduceLE, Int.reduceEq, rX, dg_cells, dg_fold, List.drop_succ_cons, ↓rF, rG, ne_eq, not_true_eq_false, not_false_eq_true, Int.reduceNe, List.getElem?_cons_zero, List.getElem?_cons_succ]
          refine ⟨⟨j + 1, by omega, by simp, ?_⟩, by omega⟩
          rw [List.take_succ, List.take_succ, ht, List.getElem?_eq_getElem hj', List.getElem?_eq_getElem hjb]
          simp [List.getD, hj', hjb] at hx
          rw [hx]
        · have hx' : (((a.getD j 0).toNat : Int) = (b.getD j 0).toNat) = False := by
            simp only [eq_iff_iff, iff_false]
            intro h
            exact hx (UInt8.toNat_inj.1 (by omega))
          simp (dsimp := false) (implicitDefEqProofs := false) (maxSteps := 1000000) (disch := first | omega | assumption | (simp only [rL, Nat.reduceAdd]; done) | (simp only [rL, Nat.reduceAdd]; omega)) only [f0, f1, f12, f13, hlt, hx', ↓rD, rU, ev, ofConst, ofCell, ↓reduceIte, Nat.reduceEqDiff, Nat.reduceAdd, Nat.reduceSub, Nat.reduceMul, Nat.reduceLeDiff, Nat.reduceLT, Int.reduceNeg, Int.reduceToNat, Int.reduceAdd, Int.reduceSub, Int.reduceMul, Int.reduceLT, Int.reduceLE, Int.reduceEq, rX, dg_cells, dg_fold, List.drop_succ_cons, ↓rF, rG, ne_eq, not_true_eq_false, not_false_eq_true, Int.reduceNe, List.getElem?_cons_zero, List.getElem?_cons_succ]
          refine ⟨sA, Hp.sub_refl, rfl, ?_⟩
          have : a ≠ b := by rintro rfl; exact hx rfl
          simp [this]
      · obtain rfl : j = a.length := by omega
        simp (dsimp := false) (implicitDefEqProofs := false) (maxSteps := 1000000) (disch := first | omega | assumption | (simp only [rL, Nat.reduceAdd]; done) | (simp only [rL, Nat.reduceAdd]; omega)) only [f0, f1, f12, f13, hlt, ↓rD, rU, ev, ofConst, ofCell, ↓reduceIte, Nat.reduceEqDiff, Nat.reduceAdd, Nat.reduceSub, Nat.reduceMul, Nat.reduceLeDiff, Nat.reduceLT, Int.reduceNeg, Int.reduceToNat, Int.reduceAdd, Int.reduceSub, Int.reduceMul, Int.reduceLT, Int.reduceLE, Int.reduceEq, rX, dg_cells, dg_fold, List.drop_succ_cons, ↓rF, rG, ne_eq, not_true_eq_false, not_false_eq_true, Int.reduceNe, List.getElem?_cons_zero, List.getElem?_cons_succ]
        refine ⟨sA, Hp.sub_refl, rfl, ?_⟩
        rw [List.take_of_length_le (Nat.le_refl _), List.take_of_length_le (by omega)] at ht
        simp [ht]
  · have c' : ((a.length : Int) = b.length) = False := by simp only [eq_iff_iff, iff_false]; omega
    simp (dsimp := false) (implicitDefEqProofs := false) (maxSteps := 1000000) (disch := first | omega | assumption | (simp only [rL, Nat.reduceAdd]; done) | (simp only [rL, Nat.reduceAdd]; omega)) only [↓rD, rU, ev, ofConst, ofCell, ↓reduceIte, Nat.reduceEqDiff, Nat.reduceAdd, Nat.reduceSub, Nat.reduceMul, Nat.reduceLeDiff, Nat.reduceLT, Int.reduceNeg, Int.reduceToNat, Int.reduceAdd, Int.reduceSub, Int.reduceMul, Int.reduceLT, Int.reduceLE, Int.reduceEq, rX, dg_cells, dg_fold, List.drop_succ_cons, ↓rF, rG, ne_eq, not_true_eq_false, not_false_eq_true, Int.reduceNe, List.getElem?_cons_zero, List.getElem?_cons_succ, c']
    refine ⟨s, Hp.sub_refl, rfl, ?_⟩
    have : a ≠ b := by rintro rfl; exact c rfl
    simp [this]
end Go.Proofs.YtnnjjmiahcnbaaaGreat
set_option maxRecDepth 100000
namespace Go.Proofs.YtnnjjmiahcnbaaaGreat
open Go Go.Av

def PC (ds : List (List UInt8)) (od : Own) (tso : List (List UInt8 × Own)) (ot : Own) (lk : Bool) : Ob := .cells [.sl (ds.map dg) od, .sl (TX tso) ot, .v (.bool lk)]
/-- a proof under way, at l: its sums, its texts, does it lack one? -/
def PS (s0 : Hp) (l : Nat) (ds ts : List (List UInt8)) (lk : Bool) (s : Hp) : Prop :=
  ∃ od ot tso, tso.map (·.1) = ts ∧ Owned (s0.set l (PC ds od tso ot lk)) s 1 (TX tso) ot

theorem PS.new {s0 s : Hp} {l l2 : Nat} {ds ts : List (List UInt8)} {lk : Bool} {ob : Ob} (h : PS s0 l ds ts lk s) (hl : s l2 = none) : l2 ≠ l ∧ s0 l2 = none ∧ PS (s0.set l2 ob) l ds ts lk (s.set l2 ob) := by
  obtain ⟨od, ot, tso, h1, h2⟩ := h
  obtain ⟨hne, h0⟩ := Hp.set_none (Hp.sub_none h2.sub hl)
  refine ⟨hne, h0, od, ot, tso, h1, ?_⟩
  rw [Hp.set_set_comm _ hne]; exact h2.new hl
theorem PS.set {s0 s : Hp} {l l2 : Nat} {ds ts : List (List UInt8)} {lk : Bool} {ob ob' : Ob} (h : PS s0 l ds ts lk s) (hne : l2 ≠ l) (hl : s0 l2 = some ob') : PS (s0.set l2 ob) l ds ts lk (s.set l2 ob) := by
  obtain ⟨od, ot, tso, h1, h2⟩ := h
  refine ⟨od, ot, tso, h1, ?_⟩
  rw [Hp.set_set_comm _ hne]; exact h2.set (ob' := ob') (by rw [Hp.set_ne _ _ hne]; exact hl)
theorem PS.base {s0 s1 s : Hp} {l : Nat} {ds ts : List (List UInt8)} {lk : Bool} (h : PS s0 l ds ts lk s) (hs : s1.sub s0) : PS s1 l ds ts lk s := by
  obtain ⟨od, ot, tso, h1, h2⟩ := h
  exact ⟨od, ot, tso, h1, h2.base (Hp.sub_set hs)⟩
theorem PS.get {s0 s : Hp} {l l2 : Nat} {ds ts : List (List UInt8)} {lk : Bool} {ob : Ob} (h : PS s0 l ds ts lk s) (hne : l2 ≠ l) (hl : s0 l2 = some ob) : s l2 = some ob := by
  obtain ⟨od, ot, tso, h1, h2⟩ := h
  exact h2.sub _ _ (by rw [Hp.set_ne _ _ hne]; exact hl)
theorem PS.sub {s0 s : Hp} {l : Nat} {ds ts : List (List UInt8)} {lk : Bool} (h : PS s0 l ds ts lk s) (hl : s0 l = none) : s0.sub s := by
  obtain ⟨od, ot, tso, h1, h2⟩ := h
  exact Hp.sub_trans (Hp.sub_new Hp.sub_refl hl) h2.sub

theorem TX_all {tso : List (List UInt8 × Own)} : allLen 1 (TX tso) := by
  intro e he
  obtain ⟨p, _, rfl⟩ := List.mem_map.1 he
  rfl
theorem TX_snoc {tso : List (List UInt8 × Own)} {b : List UInt8} {o : Own} : TX tso ++ [.sl (b.map byteAV) o] = TX (tso ++ [(b, o)]) := by simp [TX]

theorem good_spec (s0 s : Hp) (l : Nat) (ds ts : List (List UInt8)) (lk : Bool) (h : PS s0 l ds ts lk s) :
    AC Tryz.prog 60 [.ptr l 0] s fun r s' => s' = s ∧ r = .v (.bool (!lk && decide (ds.length = 0))) := by
  obtain ⟨od, ot, tso, h1, h2⟩ := h
  have hl := h2.sub _ _ (Hp.set_same _ _ _)
  refine AC_run hm prep60 (by simp) ?_
  cases lk
  · simp (dsimp := false) (implicitDefEqProofs := false) (maxSteps := 1000000) (disch := first | omega | assumption | (simp only [rL, Nat.reduceAdd]; done) | (simp only [rL, Nat.reduceAdd]; omega)) only [↓rD, rU, ev, ofConst, ofCell, ↓reduceIte, Nat.reduceEqDiff, Nat.reduceAdd, Nat.reduceSub, Nat.reduceMul, Nat.reduceLeDiff, Nat.reduceLT, Int.reduceNeg, Int.reduceToNat, Int.reduceAdd, Int.reduceSub, Int.reduceMul, Int.reduceLT, Int.reduceLE, Int.reduceEq, rX, Hp.read_of hl, List.drop_succ_cons, Bool.not_false]
    refine ⟨_, Hp.sub_refl, rfl, ?_⟩
    simp
  · simp (dsimp := false) (implicitDefEqProofs := false) (maxSteps := 1000000) (disch := first | omega | assumption | (simp only [rL, Nat.reduceAdd]; done) | (simp only [rL, Nat.reduceAdd]; omega)) only [↓rD, rU, ev, ofConst, ofCell, ↓reduceIte, Nat.reduceEqDiff, Nat.reduceAdd, Nat.reduceSub, Nat.reduceMul, Nat.reduceLeDiff, Nat.reduceLT, Int.reduceNeg, Int.reduceToNat, Int.reduceAdd, Int.reduceSub, Int.reduceMul, Int.reduceLT, Int.reduceLE, Int.reduceEq, rX, Hp.read_of hl, List.drop_succ_cons, Bool.not_true]
    exact ⟨_, Hp.sub_refl, rfl, rfl⟩

theorem phash_spec (s0 s : Hp) (l : Nat) (ds ts : List (List UInt8)) (lk : Bool) (h : PS s0 l ds ts lk s) (b : List UInt8) (o : Own) (hb : b.length ≤ 70368744177664) (ht : ts.length ≤ 1000000) :
    AC Tryz.prog 81 [.ptr l 0, .sl (b.map byteAV) o] s fun r s' => r = dg (sha256 b) ∧ PS s0 l ds (ts ++ [b]) lk s' := by
  refine AC_run hm prep81 (by simp) ?_
  simp (dsimp := false) (implicitDefEqProofs := false) (maxSteps := 1000000) (disch := first | omega | assumption | (simp only [rL, Nat.reduceAdd]; done) | (simp only [rL, Nat.reduceAdd]; omega)) only [↓rD, rU, ev, ofConst, ofCell, ↓reduceIte, Nat.reduceEqDiff, Nat.reduceAdd, Nat.reduceSub, Nat.reduceMul, Nat.reduceLeDiff, Nat.reduceLT, Int.reduceNeg, Int.reduceToNat, Int.reduceAdd, Int.reduceSub, Int.reduceMul, Int.reduceLT, Int.reduceLE, Int.reduceEq, rX]
  refine newK_intro fun l4 n4 => ?_
  obtain ⟨d4, e4, h⟩ := h.new (ob := .cells (List.replicate 32 (.v (.int .u8 0)))) n4
  obtain ⟨od, ot, tso, h1, h2⟩ := h
  have hl := h2.sub _ _ (Hp.set_same _ _ _)
  have hlt : tso.length = ts.length := by rw [← h1, List.length_map]
  simp (dsimp := false) (implicitDefEqProofs := false) (maxSteps := 1000000) (disch := first | omega | assumption | (simp only [rL, Nat.reduceAdd]; done) | (simp only [rL, Nat.reduceAdd]; omega)) only [↓rD, rU, ev, ofConst, ofCell, ↓reduceIte, Nat.reduceEqDiff, Nat.reduceAdd, Nat.reduceSub, Nat.reduceMul, Nat.reduceLeDiff, Nat.reduceLT, Int.reduceNeg, Int.reduceToNat, Int.reduceAdd, Int.reduceSub, Int.reduceMul, Int.reduceLT, Int.reduceLE, Int.reduceEq, rX, Hp.read_of hl, List.drop_succ_cons]
  refine bsl_own Hp.sub_refl ?_ fun o2 s2 h3 => ?_
  · simp [allLen, AV.cells]
  simp (dsimp := false) (implicitDefEqProofs := false) (maxSteps := 1000000) (disch := first | omega | assumption | (simp only [rL, Nat.reduceAdd]; done) | (simp only [rL, Nat.reduceAdd]; omega)) only [↓rD, rU, ev, ofConst, ofCell, ↓reduceIte, Nat.reduceEqDiff, Nat.reduceAdd, Nat.reduceSub, Nat.reduceMul, Nat.reduceLeDiff, Nat.reduceLT, Int.reduceNeg, Int.reduceToNat, Int.reduceAdd, Int.reduceSub, Int.reduceMul, Int.reduceLT, Int.reduceLE, Int.reduceEq, rX, Hp.read_of hl]
  refine app_own (h2.mono h3.sub) TX_all (by simp [allLen, AV.cells]) (by simp [TX]; omega) (by simp [TX]; omega) fun o3 s3 h4 => ?_
  rw [TX_snoc] at h4 ⊢
  have hl3 := h4.sub _ _ (Hp.set_same _ _ _)
  simp (dsimp := false) (implicitDefEqProofs := false) (maxSteps := 1000000) (disch := first | omega | assumption | (simp only [rL, Nat.reduceAdd]; done) | (simp only [rL, Nat.reduceAdd]; omega)) only [↓rD, rU, ev, ofConst, ofCell, ↓reduceIte, Nat.reduceEqDiff, Nat.reduceAdd, Nat.reduceSub, Nat.reduceMul, Nat.reduceLeDiff, Nat.reduceLT, Int.reduceNeg, Int.reduceToNat, Int.reduceAdd, Int.reduceSub, Int.reduceMul, Int.reduceLT, Int.reduceLE, Int.reduceEq, rX, Hp.read_of hl3, Hp.stA_of hl3, List.drop_succ_cons]
  refine call_intro (sum_spec b o hb _) ?_
  rintro _ _ ⟨rfl, rfl⟩
  have hq := sha256_length b
  generalize sha256 b = e at *
  have hl4 : s3 l4 = some (.cells (List.replicate 32 (.v (.int .u8 0)))) := h4.sub _ _ (by rw [Hp.set_ne _ _ d4]; exact Hp.set_same _ _ _)
  simp (dsimp := false) (implicitDefEqProofs := false) (maxSteps := 1000000) (disch := first | omega | assumption | (simp only [rL, Nat.reduceAdd]; done) | (simp only [rL, Nat.reduceAdd]; omega)) only [↓rD, rU, ev, ofConst, ofCell, ↓reduceIte, Nat.reduceEqDiff, Nat.reduceAdd, Nat.reduceSub, Nat.reduceMul, Nat.reduceLeDiff, Nat.reduceLT, Int.reduceNeg, Int.reduceToNat, Int.reduceAdd, Int.reduceSub, Int.reduceMul, Int.reduceLT, Int.reduceLE, Int.reduceEq, rX, dg_cells, hq, dg_fold, Hp.stA_of hl4, Hp.read_of hl4]
  refine ⟨_, Hp.sub_refl, od, o3, tso ++ [(b, o)], by simp [h1], ?_⟩
  have h5 := h4.set (ob := PC ds od (tso ++ [(b, o)]) o3 lk) (Hp.set_same _ _ _)
  rw [Hp.set_set] at h5
  have h6 := h5.set (l := l4) (ob := .cells (e.map byteAV)) (by rw [Hp.set_ne _ _ d4]; exact Hp.set_same _ _ _)
  exact h6.base (Hp.sub_new (Hp.sub_set (Hp.sub_new Hp.sub_refl e4)) (by rw [Hp.set_ne _ _ d4]; exact e4))

def zd : List UInt8 := List.replicate 32 0
theorem zd_length : zd.length = 32 := rfl
theorem zd_cells : zd.map byteAV = List.replicate 32 (.v (.int .u8 0)) := rfl
def takeF (ds : List (List UInt8)) (lk : Bool) : List UInt8 × List (List UInt8) × Bool :=
  match ds.getLast? with
  | none => (zd, ds, true)
  | some d => (d, ds.dropLast, lk)

theorem take_spec (s0 s : Hp) (l : Nat) (ds ts : List (List UInt8)) (lk : Bool) (hd : Digs ds) (hdl : ds.length ≤ 1000000) (h : PS s0 l ds ts lk s) :
    AC Tryz.prog 79 [.ptr l 0] s fun r s' => r = dg (takeF ds lk).1 ∧ PS s0 l (takeF ds lk).2.1 ts (takeF ds lk).2.2 s' := by
  refine AC_run hm prep79 (by simp) ?_
  simp (dsimp := false) (implicitDefEqProofs := false) (maxSteps := 1000000) (disch := first | omega | assumption | (simp only [rL, Nat.reduceAdd]; done) | (simp only [rL, Nat.reduceAdd]; omega)) only [↓rD, rU, ev, ofConst, ofCell, ↓reduceIte, Nat.reduceEqDiff, Nat.reduceAdd, Nat.reduceSub, Nat.reduceMul, Nat.reduceLeDiff, Nat.reduceLT, Int.reduceNeg, Int.reduceToNat, Int.reduceAdd, Int.reduceSub, Int.reduceMul, Int.reduceLT, Int.reduceLE, Int.reduceEq, rX]
  refine newK_intro fun l2 n2 => ?_
  obtain ⟨d2, e2, h⟩ := h.new (ob := .cells (List.replicate 32 (.v (.int .u8 0)))) n2
  obtain ⟨od, ot, tso, h1, h2⟩ := h
  have hl := h2.sub _ _ (Hp.set_same _ _ _)
  have hs2 : ∀ x : Ob, (s.set l2 x).sub (s.set l2 x) := fun x => Hp.sub_refl
  rcases List.eq_nil_or_concat ds with rfl | ⟨q, d, hqd⟩
  · simp (dsimp := false) (implicitDefEqProofs := false) (maxSteps := 1000000) (disch := first | omega | assumption | (simp only [rL, Nat.reduceAdd]; done) | (simp only [rL, Nat.reduceAdd]; omega)) only [↓rD, rU, ev, ofConst, ofCell, ↓reduceIte, Nat.reduceEqDiff, Nat.reduceAdd, Nat.reduceSub, Nat.reduceMul, Nat.reduceLeDiff, Nat.reduceLT, Int.reduceNeg, Int.reduceToNat, Int.reduceAdd, Int.reduceSub, Int.reduceMul, Int.reduceLT, Int.reduceLE, Int.reduceEq, rX, Hp.read_of hl, Hp.stA_of hl, List.drop_succ_cons]
    refine ⟨_, Hp.sub_refl, rfl, od, ot, tso, h1, ?_⟩
    have h5 := h2.set (ob := PC [] od tso ot true) (Hp.set_same _ _ _)
    rw [Hp.set_set] at h5
    exact h5.base (Hp.sub_set (Hp.sub_new Hp.sub_refl e2))
  · simp only [List.concat_eq_append] at hqd
    subst hqd
    have ht : takeF (q ++ [d]) lk = (d, q, lk) := by simp [takeF]
    have hd32 : d.length = 32 := hd d (by simp)
    have hall := hd.all
    have hz : ¬ (((q ++ [d]).length : Nat) : Int) = 0 := by simp; omega
    have e1 : (((q ++ [d]).length : Nat) : Int) - 1 = (q.length : Nat) := by simp
    have he : ((q ++ [d]).map dg)[q.length]? = some (dg d) := by simp
    have htk : (q ++ [d]).take q.length = q := by simp
    have hle : ((q.length : Nat) : Int) ≤ (((q ++ [d]).map dg).length : Nat) := by simp; omega
    rw [ht]
    simp (dsimp := false) (implicitDefEqProofs := false) (maxSteps := 1000000) (disch := first | omega | assumption | (simp only [rL, Nat.reduceAdd]; done) | (simp only [rL, Nat.reduceAdd]; omega)) only [↓rD, rU, ev, ofConst, ofCell, ↓reduceIte, Nat.reduceEqDiff, Nat.reduceAdd, Nat.reduceSub, Nat.reduceMul, Nat.reduceLeDiff, Nat.reduceLT, Int.reduceNeg, Int.reduceToNat, Int.reduceAdd, Int.reduceSub, Int.reduceMul, Int.reduceLT, Int.reduceLE, Int.reduceEq, rX, Hp.read_of hl, Hp.stA_of hl, List.drop_succ_cons, hz, e1, iaSA_sl, he, elA_dg, dg_fold]
    refine newK_intro fun l3 n3 => ?_
    obtain ⟨d32, n3'⟩ := Hp.set_none n3
    have hb : PS (s0.set l2 (.cells (List.replicate 32 (.v (.int .u8 0))))) l (q ++ [d]) ts lk (s.set l2 (.cells (List.replicate 32 (.v (.int .u8 0))))) := ⟨od, ot, tso, h1, h2⟩
    obtain ⟨d3, e3, _⟩ := hb.new (ob := .cells (List.replicate 32 (.v (.int .u8 0)))) n3
    simp (dsimp := false) (implicitDefEqProofs := false) (maxSteps := 1000000) (disch := first | omega | assumption | (simp only [rL, Nat.reduceAdd]; done) | (simp only [rL, Nat.reduceAdd]; omega)) only [↓rD, rU, ev, ofConst, ofCell, ↓reduceIte, Nat.reduceEqDiff, Nat.reduceAdd, Nat.reduceSub, Nat.reduceMul, Nat.reduceLeDiff, Nat.reduceLT, Int.reduceNeg, Int.reduceToNat, Int.reduceAdd, Int.reduceSub, Int.reduceMul, Int.reduceLT, Int.reduceLE, Int.reduceEq, rX, Hp.read_of hl, Hp.stA_of hl, List.drop_succ_cons, hz, e1, iaSA_sl, he, elA_dg, dg_fold, dg_cells, hd32, mapd_take, htk]
    have k1 := h2.new (ob := .cells (List.replicate 32 (.v (.int .u8 0)))) n3
    have k2 := k1.set (l := l2) (ob := .cells (d.map byteAV)) (by rw [Hp.set_ne _ _ (Ne.symm d32), Hp.set_ne _ _ d2]; exact Hp.set_same _ _ _)
    rw [Hp.set_in1 d32, Hp.set_in2 (Ne.symm d2) d32] at k2
    have k3 := k2.set (l := l3) (ob := .cells (d.map byteAV)) (Hp.set_same _ _ _)
    rw [Hp.set_set, Hp.set_set] at k3
    have k4 := k3.set (l := l) (ob := PC q .any tso ot lk) (by rw [Hp.set_ne _ _ (Ne.symm d3)]; exact Hp.set_same _ _ _)
    rw [Hp.set_in1 d3] at k4
    refine ⟨_, Hp.sub_refl, .any, ot, tso, h1, k4.base (Hp.sub_new (Hp.sub_set (Hp.sub_new Hp.sub_refl e2)) ?_)⟩
    rw [Hp.set_ne _ _ d3]; exact (Hp.set_none e3).2
end Go.Proofs.YtnnjjmiahcnbaaaGreat
set_option maxRecDepth 100000
namespace Go.Proofs.YtnnjjmiahcnbaaaGreat
open Go Go.Av

def upF (n i : Nat) (x : List UInt8) (ds : List (List UInt8)) : List UInt8 × List (List UInt8) × List (List UInt8) × Bool :=
  if h : n < 2 then (sha256 (leafB x), ds, [leafB x], false)
  else if (takeF ds false).2.2 = true then (zd, (takeF ds false).2.1, [], true)
  else if i < half n then
    let u := upF (half n) i x (takeF ds false).2.1
    (sha256 (nodeB u.1 (takeF ds false).1), u.2.1, u.2.2.1 ++ [nodeB u.1 (takeF ds false).1], u.2.2.2)
  else
    let u := upF (n - half n) (i - half n) x (takeF ds false).2.1
    (sha256 (nodeB (takeF ds false).1 u.1), u.2.1, u.2.2.1 ++ [nodeB (takeF ds false).1 u.1], u.2.2.2)
termination_by n
decreasing_by
  · exact half_lt n (by omega)
  · have := half_pos n; omega

theorem takeF_digs {ds : List (List UInt8)} {lk : Bool} (h : Digs ds) : (takeF ds lk).1.length = 32 ∧ Digs (takeF ds lk).2.1 ∧ (takeF ds lk).2.1.length ≤ ds.length ∧ ((takeF ds lk).2.2 = false → (takeF ds lk).2.1.length + 1 = ds.length) := by
  rcases List.eq_nil_or_concat ds with rfl | ⟨q, d, hqd⟩
  · exact ⟨rfl, by simpa [takeF] using h, by simp [takeF], by simp [takeF]⟩
  · simp only [List.concat_eq_append] at hqd
    subst hqd
    have ht : takeF (q ++ [d]) lk = (d, q, lk) := by simp [takeF]
    rw [ht]
    exact ⟨h d (by simp), fun x hx => h x (by simp [hx]), by simp, by simp⟩

theorem upF_ok : ∀ (N n i : Nat) (x : List UInt8) (ds : List (List UInt8)), n = N → Digs ds → (upF n i x ds).1.length = 32 ∧ Digs (upF n i x ds).2.1 ∧ (upF n i x ds).2.1.length ≤ ds.length ∧ (upF n i x ds).2.2.1.length + (upF n i x ds).2.1.length ≤ ds.length + 1 := by
  intro N
  induction N using Nat.strongRecOn with
  | _ N ih =>
  intro n i x ds hN hd
  rw [upF]
  obtain ⟨t1, t2, t3, t4⟩ := takeF_digs (lk := false) hd
  split
  · exact ⟨sha256_length _, hd, Nat.le_refl _, by simp; omega⟩
  · split
    · exact ⟨rfl, t2, t3, by simp; omega⟩
    · rename_i h2 hlk
      have hlk' := t4 (by simpa using hlk)
      split
      · obtain ⟨u1, u2, u3, u4⟩ := ih (half n) (by have := half_lt n (by omega); omega) (half n) i x _ rfl t2
        exact ⟨sha256_length _, u2, by simp only; omega, by simp only [List.length_append, List.length_cons, List.length_nil]; omega⟩
      · obtain ⟨u1, u2, u3, u4⟩ := ih (n - half n) (by have := half_pos n; omega) (n - half n) (i - half n) x _ rfl t2
        exact ⟨sha256_length _, u2, by simp only; omega, by simp only [List.length_append, List.length_cons, List.length_nil]; omega⟩

theorem upF_leaf {n i : Nat} {x : List UInt8} {ds : List (List UInt8)} (h : n < 2) : upF n i x ds = (sha256 (leafB x), ds, [leafB x], false) := by rw [upF, dif_pos h]
theorem upF_lack {n i : Nat} {x : List UInt8} {ds : List (List UInt8)} (h : ¬ n < 2) {other : List UInt8} {d1 : List (List UInt8)} (ht : takeF ds false = (other, d1, true)) : upF n i x ds = (zd, d1, [], true) := by
  rw [upF, dif_neg h, ht]; simp
theorem upF_left {n i : Nat} {x : List UInt8} {ds : List (List UInt8)} (h : ¬ n < 2) {other : List UInt8} {d1 : List (List UInt8)} (ht : takeF ds false = (other, d1, false)) (hi : i < half n) :
    upF n i x ds = (sha256 (nodeB (upF (half n) i x d1).1 other), (upF (half n) i x d1).2.1, (upF (half n) i x d1).2.2.1 ++ [nodeB (upF (half n) i x d1).1 other], (upF (half n) i x d1).2.2.2) := by
  conv => lhs; rw [upF, dif_neg h, ht]
  simp [hi]
theorem upF_right {n i : Nat} {x : List UInt8} {ds : List (List UInt8)} (h : ¬ n < 2) {other : List UInt8} {d1 : List (List UInt8)} (ht : takeF ds false = (other, d1, false)) (hi : ¬ i < half n) :
    upF n i x ds = (sha256 (nodeB other (upF (n - half n) (i - half n) x d1).1), (upF (n - half n) (i - half n) x d1).2.1, (upF (n - half n) (i - half n) x d1).2.2.1 ++ [nodeB other (upF (n - half n) (i - half n) x d1).1], (upF (n - half n) (i - half n) x d1).2.2.2) := by
  conv => lhs; rw [upF, dif_neg h, ht]
  simp [hi]

theorem PS.read {s0 s : Hp} {l : Nat} {ds ts : List (List UInt8)} {lk : Bool} (h : PS s0 l ds ts lk s) : ∃ a b, s.read l = some [a, b, .v (.bool lk)] := by
  obtain ⟨od, ot, tso, h1, h2⟩ := h
  exact ⟨_, _, Hp.read_of (h2.sub _ _ (Hp.set_same _ _ _))⟩

def zc : Ob := .cells (List.replicate 32 (.v (.int .u8 0)))
def dc (d : List UInt8) : Ob := .cells (d.map byteAV)

theorem up_spec : ∀ (N n i : Nat) (x : List UInt8) (ds ts : List (List UInt8)) (s0 s : Hp) (l : Nat), n = N → 1 ≤ n → n ≤ 1099511627776 → i < n → x.length = 32 → Digs ds → ts.length + ds.length + 1 ≤ 1000000 → PS s0 l ds ts false s →
    AC Tryz.prog 100 [.ptr l 0, .v (.int .i64 n), .v (.int .i64 i), dg x] s fun r s' => r = dg (upF n i x ds).1 ∧ PS s0 l (upF n i x ds).2.1 (ts ++ (upF n i x ds).2.2.1) (upF n i x ds).2.2.2 s' := by
  intro N
  induction N using Nat.strongRecOn with
  | _ N ih =>
  intro n i x ds ts s0 s l hN hn1 hn hi hx hd hts h
  refine AC_run hm prep100 (by simp) ?_
  simp (dsimp := false) (implicitDefEqProofs := false) (maxSteps := 1000000) (disch := first | omega | assumption | (simp only [rL, Nat.reduceAdd]; done) | (simp only [rL, Nat.reduceAdd]; omega)) only [↓rD, rU, ev, ofConst, ofCell, ↓reduceIte, Nat.reduceEqDiff, Nat.reduceAdd, Nat.reduceSub, Nat.reduceMul, Nat.reduceLeDiff, Nat.reduceLT, Int.reduceNeg, Int.reduceToNat, Int.reduceAdd, Int.reduceSub, Int.reduceMul, Int.reduceLT, Int.reduceLE, Int.reduceEq, rX, dg_cells, dg_fold, List.drop_succ_cons, hx]
  refine newK_intro fun l7 n7 => ?_
  obtain ⟨d7, e7, h⟩ := h.new (ob := dc x) n7
  simp (dsimp := false) (implicitDefEqProofs := false) (maxSteps := 1000000) (disch := first | omega | assumption | (simp only [rL, Nat.reduceAdd]; done) | (simp only [rL, Nat.reduceAdd]; omega)) only [↓rD, rU, ev, ofConst, ofCell, ↓reduceIte, Nat.reduceEqDiff, Nat.reduceAdd, Nat.reduceSub, Nat.reduceMul, Nat.reduceLeDiff, Nat.reduceLT, Int.reduceNeg, Int.reduceToNat, Int.reduceAdd, Int.reduceSub, Int.reduceMul, Int.reduceLT, Int.reduceLE, Int.reduceEq, rX, dg_cells, dg_fold, List.drop_succ_cons, hx]
  refine newK_intro fun l8 n8 => ?_
  obtain ⟨d78, _⟩ := Hp.set_none n8
  obtain ⟨d8, e8, h⟩ := h.new (ob := zc) n8
  obtain ⟨_, e8⟩ := Hp.set_none e8
  simp (dsimp := false) (implicitDefEqProofs := false) (maxSteps := 1000000) (disch := first | omega | assumption | (simp only [rL, Nat.reduceAdd]; done) | (simp only [rL, Nat.reduceAdd]; omega)) only [↓rD, rU, ev, ofConst, ofCell, ↓reduceIte, Nat.reduceEqDiff, Nat.reduceAdd, Nat.reduceSub, Nat.reduceMul, Nat.reduceLeDiff, Nat.reduceLT, Int.reduceNeg, Int.reduceToNat, Int.reduceAdd, Int.reduceSub, Int.reduceMul, Int.reduceLT, Int.reduceLE, Int.reduceEq, rX, dg_cells, dg_fold, List.drop_succ_cons]
  by_cases h1 : n < 2
  · obtain rfl : n = 1 := by omega
    simp (dsimp := false) (implicitDefEqProofs := false) (maxSteps := 1000000) (disch := first | omega | assumption | (simp only [rL, Nat.reduceAdd]; done) | (simp only [rL, Nat.reduceAdd]; omega)) only [↓rD, rU, ev, ofConst, ofCell, ↓reduceIte, Nat.reduceEqDiff, Nat.reduceAdd, Nat.reduceSub, Nat.reduceMul, Nat.reduceLeDiff, Nat.reduceLT, Int.reduceNeg, Int.reduceToNat, Int.reduceAdd, Int.reduceSub, Int.reduceMul, Int.reduceLT, Int.reduceLE, Int.reduceEq, rX, dg_cells, dg_fold, List.drop_succ_cons, hx]
    refine call_intro (leaf_spec x hx _) ?_
    rintro _ s1 ⟨o1, k1, rfl⟩
    simp (dsimp := false) (implicitDefEqProofs := false) (maxSteps := 1000000) (disch := first | omega | assumption | (simp only [rL, Nat.reduceAdd]; done) | (simp only [rL, Nat.reduceAdd]; omega)) only [↓rD, rU, ev, ofConst, ofCell, ↓reduceIte, Nat.reduceEqDiff, Nat.reduceAdd, Nat.reduceSub, Nat.reduceMul, Nat.reduceLeDiff, Nat.reduceLT, Int.reduceNeg, Int.reduceToNat, Int.reduceAdd, Int.reduceSub, Int.reduceMul, Int.reduceLT, Int.reduceLE, Int.reduceEq, rX, dg_cells, dg_fold, List.drop_succ_cons]
    obtain ⟨od, ot, tso, q1, q2⟩ := h
    have h : PS ((s0.set l7 (dc x)).set l8 zc) l ds ts false s1 := ⟨od, ot, tso, q1, q2.mono k1.sub⟩
    refine call_intro (phash_spec _ s1 l ds ts false h (leafB x) o1 (by rw [leafB_length x hx]; omega) (by omega)) ?_
    rintro _ s2 ⟨rfl, h⟩
    have hl8 : s2 l8 = some zc := h.get d8 (Hp.set_same _ _ _)
    have hq := sha256_length (leafB x)
    generalize hge : sha256 (leafB x) = e at *
    unfold zc at hl8
    simp (dsimp := false) (implicitDefEqProofs := false) (maxSteps := 1000000) (disch := first | omega | assumption | (simp only [rL, Nat.reduceAdd]; done) | (simp only [rL, Nat.reduceAdd]; omega)) only [↓rD, rU, ev, ofConst, ofCell, ↓reduceIte, Nat.reduceEqDiff, Nat.reduceAdd, Nat.reduceSub, Nat.reduceMul, Nat.reduceLeDiff, Nat.reduceLT, Int.reduceNeg, Int.reduceToNat, Int.reduceAdd, Int.reduceSub, Int.reduceMul, Int.reduceLT, Int.reduceLE, Int.reduceEq, rX, dg_cells, dg_fold, List.drop_succ_cons, hq, Hp.stA_of hl8, Hp.read_of hl8]
    have h9 := h.set (ob := dc e) d8 (Hp.set_same _ _ _)
    rw [upF_leaf h1]
    refine ⟨_, Hp.sub_refl, ?_, h9.base (Hp.sub_new (Hp.sub_new (Hp.sub_new Hp.sub_refl e7) e8) e8)⟩
    rw [hge]
  · have hn1 : ¬ (n : Int) = 1 := by omega
    simp (dsimp := false) (implicitDefEqProofs := false) (maxSteps := 1000000) (disch := first | omega | assumption | (simp only [rL, Nat.reduceAdd]; done) | (simp only [rL, Nat.reduceAdd]; omega)) only [↓rD, rU, ev, ofConst, ofCell, ↓reduceIte, Nat.reduceEqDiff, Nat.reduceAdd, Nat.reduceSub, Nat.reduceMul, Nat.reduceLeDiff, Nat.reduceLT, Int.reduceNeg, Int.reduceToNat, Int.reduceAdd, Int.reduceSub, Int.reduceMul, Int.reduceLT, Int.reduceLE, Int.reduceEq, rX, dg_cells, dg_fold, List.drop_succ_cons, hn1]
    refine call_intro (half_spec n (by omega) (by omega) _) ?_
    rintro _ _ ⟨rfl, rfl⟩
    have hlt := half_lt n (by omega)
    have hpos := half_pos n
    simp (dsimp := false) (implicitDefEqProofs := false) (maxSteps := 1000000) (disch := first | omega | assumption | (simp only [rL, Nat.reduceAdd]; done) | (simp only [rL, Nat.reduceAdd]; omega)) only [↓rD, rU, ev, ofConst, ofCell, ↓reduceIte, Nat.reduceEqDiff, Nat.reduceAdd, Nat.reduceSub, Nat.reduceMul, Nat.reduceLeDiff, Nat.reduceLT, Int.reduceNeg, Int.reduceToNat, Int.reduceAdd, Int.reduceSub, Int.reduceMul, Int.reduceLT, Int.reduceLE, Int.reduceEq, rX, dg_cells, dg_fold, List.drop_succ_cons]
    refine call_intro (take_spec _ _ l ds ts false hd (by omega) h) ?_
    rintro _ s1 ⟨rfl, h⟩
    obtain ⟨t1, t2, t3, t4⟩ := takeF_digs (lk := false) hd
    generalize htk : takeF ds false = tk at *
    obtain ⟨other, ds1, lk1⟩ := tk
    simp only at t1 t2 t3 t4 h ⊢
    simp (dsimp := false) (implicitDefEqProofs := false) (maxSteps := 1000000) (disch := first | omega | assumption | (simp only [rL, Nat.reduceAdd]; done) | (simp only [rL, Nat.reduceAdd]; omega)) only [↓rD, rU, ev, ofConst, ofCell, ↓reduceIte, Nat.reduceEqDiff, Nat.reduceAdd, Nat.reduceSub, Nat.reduceMul, Nat.reduceLeDiff, Nat.reduceLT, Int.reduceNeg, Int.reduceToNat, Int.reduceAdd, Int.reduceSub, Int.reduceMul, Int.reduceLT, Int.reduceLE, Int.reduceEq, rX, dg_cells, dg_fold, List.drop_succ_cons, t1]
    refine newK_intro fun l10 n10 => ?_
    have g7 : s1 l7 = some (dc x) := h.get d7 (by rw [Hp.set_ne _ _ (Ne.symm d78)]; exact Hp.set_same _ _ _)
    have g8 : s1 l8 = some zc := h.get d8 (Hp.set_same _ _ _)
    have d107 : l10 ≠ l7 := by rintro rfl; rw [n10] at g7; cases g7
    have d108 : l10 ≠ l8 := by rintro rfl; rw [n10] at g8; cases g8
    obtain ⟨d10, e10, h⟩ := h.new (ob := dc other) n10
    obtain ⟨_, e10⟩ := Hp.set_none e10
    obtain ⟨_, e10⟩ := Hp.set_none e10
    obtain ⟨ra, rb, hr⟩ := h.read
    unfold zc at g8
    unfold dc at g7
    simp (dsimp := false) (implicitDefEqProofs := false) (maxSteps := 1000000) (disch := first | omega | assumption | (simp only [rL, Nat.reduceAdd]; done) | (simp only [rL, Nat.reduceAdd]; omega)) only [↓rD, rU, ev, ofConst, ofCell, ↓reduceIte, Nat.reduceEqDiff, Nat.reduceAdd, Nat.reduceSub, Nat.reduceMul, Nat.reduceLeDiff, Nat.reduceLT, Int.reduceNeg, Int.reduceToNat, Int.reduceAdd, Int.reduceSub, Int.reduceMul, Int.reduceLT, Int.reduceLE, Int.reduceEq, rX, dg_cells, dg_fold, List.drop_succ_cons, t1]
    have hr' : s1.read l = some [ra, rb, .v (.bool lk1)] := by rw [← hr, Hp.read_set_ne (Ne.symm d10)]
    simp (dsimp := false) (implicitDefEqProofs := false) (maxSteps := 1000000) (disch := first | omega | assumption | (simp only [rL, Nat.reduceAdd]; done) | (simp only [rL, Nat.reduceAdd]; omega)) only [↓rD, rU, ev, ofConst, ofCell, ↓reduceIte, Nat.reduceEqDiff, Nat.reduceAdd, Nat.reduceSub, Nat.reduceMul, Nat.reduceLeDiff, Nat.reduceLT, Int.reduceNeg, Int.reduceToNat, Int.reduceAdd, Int.reduceSub, Int.reduceMul, Int.reduceLT, Int.reduceLE, Int.reduceEq, rX, dg_cells, dg_fold, List.drop_succ_cons, t1, hr']
    have hbase : s0.sub (((s0.set l7 (dc x)).set l8 zc).set l10 (dc other)) := Hp.sub_new (Hp.sub_new (Hp.sub_new Hp.sub_refl e7) e8) e10
    cases lk1
    · simp (dsimp := false) (implicitDefEqProofs := false) (maxSteps := 1000000) (disch := first | omega | assumption | (simp only [rL, Nat.reduceAdd]; done) | (simp only [rL, Nat.reduceAdd]; omega)) only [↓rD, rU, ev, ofConst, ofCell, ↓reduceIte, Nat.reduceEqDiff, Nat.reduceAdd, Nat.reduceSub, Nat.reduceMul, Nat.reduceLeDiff, Nat.reduceLT, Int.reduceNeg, Int.reduceToNat, Int.reduceAdd, Int.reduceSub, Int.reduceMul, Int.reduceLT, Int.reduceLE, Int.reduceEq, rX, dg_cells, dg_fold, List.drop_succ_cons]
      by_cases hik : i < half n
      · have hik' : (i : Int) < (half n : Nat) := by omega
        simp (dsimp := false) (implicitDefEqProofs := false) (maxSteps := 1000000) (disch := first | omega | assumption | (simp only [rL, Nat.reduceAdd]; done) | (simp only [rL, Nat.reduceAdd]; omega)) only [↓rD, rU, ev, ofConst, ofCell, ↓reduceIte, Nat.reduceEqDiff, Nat.reduceAdd, Nat.reduceSub, Nat.reduceMul, Nat.reduceLeDiff, Nat.reduceLT, Int.reduceNeg, Int.reduceToNat, Int.reduceAdd, Int.reduceSub, Int.reduceMul, Int.reduceLT, Int.reduceLE, Int.reduceEq, rX, dg_cells, dg_fold, List.drop_succ_cons, hik', Hp.read_of g7, Ne.symm d107, hx]
        obtain ⟨u1, u2, u3, u4⟩ := upF_ok _ (half n) i x ds1 rfl t2
        have t5 := t4 rfl
        refine call_intro (ih (half n) (by omega) (half n) i x ds1 ts _ _ l rfl hpos (by omega) hik hx t2 (by omega) h) ?_
        rintro _ s2 ⟨rfl, h⟩
        have hu := upF_left (x := x) h1 htk hik
        generalize upF (half n) i x ds1 = u at *
        obtain ⟨ub, ud, ut, ul⟩ := u
        simp only at u1 u2 u3 u4 h hu ⊢
        simp (dsimp := false) (implicitDefEqProofs := false) (maxSteps := 1000000) (disch := first | omega | assumption | (simp only [rL, Nat.reduceAdd]; done) | (simp only [rL, Nat.reduceAdd]; omega)) only [↓rD, rU, ev, ofConst, ofCell, ↓reduceIte, Nat.reduceEqDiff, Nat.reduceAdd, Nat.reduceSub, Nat.reduceMul, Nat.reduceLeDiff, Nat.reduceLT, Int.reduceNeg, Int.reduceToNat, Int.reduceAdd, Int.reduceSub, Int.reduceMul, Int.reduceLT, Int.reduceLE, Int.reduceEq, rX, dg_cells, dg_fold, List.drop_succ_cons, u1]
        refine newK_intro fun l11 n11 => ?_
        have g8 : s2 l8 = some zc := h.get d8 (by rw [Hp.set_ne _ _ (Ne.symm d108)]; exact Hp.set_same _ _ _)
        have g10 : s2 l10 = some (dc other) := h.get d10 (Hp.set_same _ _ _)
        have d118 : l11 ≠ l8 := by rintro rfl; rw [n11] at g8; cases g8
        have d1110 : l11 ≠ l10 := by rintro rfl; rw [n11] at g10; cases g10
        obtain ⟨d11, e11, h⟩ := h.new (ob := dc ub) n11
        simp (dsimp := false) (implicitDefEqProofs := false) (maxSteps := 1000000) (disch := first | omega | assumption | (simp only [rL, Nat.reduceAdd]; done) | (simp only [rL, Nat.reduceAdd]; omega)) only [↓rD, rU, ev, ofConst, ofCell, ↓reduceIte, Nat.reduceEqDiff, Nat.reduceAdd, Nat.reduceSub, Nat.reduceMul, Nat.reduceLeDiff, Nat.reduceLT, Int.reduceNeg, Int.reduceToNat, Int.reduceAdd, Int.reduceSub, Int.reduceMul, Int.reduceLT, Int.reduceLE, Int.reduceEq, rX, dg_cells, dg_fold, List.drop_succ_cons, u1]
        unfold zc at g8
        unfold dc at g10
        simp (dsimp := false) (implicitDefEqProofs := false) (maxSteps := 1000000) (disch := first | omega | assumption | (simp only [rL, Nat.reduceAdd]; done) | (simp only [rL, Nat.reduceAdd]; omega)) only [↓rD, rU, ev, ofConst, ofCell, ↓reduceIte, Nat.reduceEqDiff, Nat.reduceAdd, Nat.reduceSub, Nat.reduceMul, Nat.reduceLeDiff, Nat.reduceLT, Int.reduceNeg, Int.reduceToNat, Int.reduceAdd, Int.reduceSub, Int.reduceMul, Int.reduceLT, Int.reduceLE, Int.reduceEq, rX, dg_cells, dg_fold, List.drop_succ_cons, Hp.read_of g10, t1, u1]
        refine call_intro (node_spec ub other u1 t1 _) ?_
        rintro _ s3 ⟨o3, k3, rfl⟩
        simp (dsimp := false) (implicitDefEqProofs := false) (maxSteps := 1000000) (disch := first | omega | assumption | (simp only [rL, Nat.reduceAdd]; done) | (simp only [rL, Nat.reduceAdd]; omega)) only [↓rD, rU, ev, ofConst, ofCell, ↓reduceIte, Nat.reduceEqDiff, Nat.reduceAdd, Nat.reduceSub, Nat.reduceMul, Nat.reduceLeDiff, Nat.reduceLT, Int.reduceNeg, Int.reduceToNat, Int.reduceAdd, Int.reduceSub, Int.reduceMul, Int.reduceLT, Int.reduceLE, Int.reduceEq, rX, dg_cells, dg_fold, List.drop_succ_cons]
        obtain ⟨od, ot, tso, q1, q2⟩ := h
        have h : PS ((((s0.set l7 (dc x)).set l8 zc).set l10 (dc other)).set l11 (dc ub)) l ud (ts ++ ut) ul s3 := ⟨od, ot, tso, q1, q2.mono k3.sub⟩
        refine call_intro (phash_spec _ s3 l ud (ts ++ ut) ul h (nodeB ub other) o3 (by rw [nodeB_length ub other u1 t1]; omega) (by simp only [List.length_append]; omega)) ?_
        rintro _ s4 ⟨rfl, h⟩
        have g8 : s4 l8 = some zc := h.get d8 (by rw [Hp.set_ne _ _ (Ne.symm d118), Hp.set_ne _ _ (Ne.symm d108)]; exact Hp.set_same _ _ _)
        have hq := sha256_length (nodeB ub other)
        generalize hge : sha256 (nodeB ub other) = e at *
        unfold zc at g8
        simp (dsimp := false) (implicitDefEqProofs := false) (maxSteps := 1000000) (disch := first | omega | assumption | (simp only [rL, Nat.reduceAdd]; done) | (simp only [rL, Nat.reduceAdd]; omega)) only [↓rD, rU, ev, ofConst, ofCell, ↓reduceIte, Nat.reduceEqDiff, Nat.reduceAdd, Nat.reduceSub, Nat.reduceMul, Nat.reduceLeDiff, Nat.reduceLT, Int.reduceNeg, Int.reduceToNat, Int.reduceAdd, Int.reduceSub, Int.reduceMul, Int.reduceLT, Int.reduceLE, Int.reduceEq, rX, dg_cells, dg_fold, List.drop_succ_cons, hq, Hp.stA_of g8, Hp.read_of g8]
        have h9 := h.set (l2 := l8) (ob := dc e) (ob' := zc) d8 (by rw [Hp.set_ne _ _ (Ne.symm d118), Hp.set_ne _ _ (Ne.symm d108)]; exact Hp.set_same _ _ _)
        rw [List.append_assoc] at h9
        refine ⟨_, Hp.sub_refl, ?_⟩
        rw [hu]
        exact ⟨rfl, h9.base (Hp.sub_new (Hp.sub_new hbase (Hp.sub_none hbase e11)) e8)⟩
      · have hik' : ¬ (i : Int) < (half n : Nat) := by omega
        have ei : (i : Int) - (half n : Nat) = ((i - half n : Nat) : Int) := by omega
        have en : (n : Int) - (half n : Nat) = ((n - half n : Nat) : Int) := by omega
        simp (dsimp := false) (implicitDefEqProofs := false) (maxSteps := 1000000) (disch := first | omega | assumption | (simp only [rL, Nat.reduceAdd]; done) | (simp only [rL, Nat.reduceAdd]; omega)) only [↓rD, rU, ev, ofConst, ofCell, ↓reduceIte, Nat.reduceEqDiff, Nat.reduceAdd, Nat.reduceSub, Nat.reduceMul, Nat.reduceLeDiff, Nat.reduceLT, Int.reduceNeg, Int.reduceToNat, Int.reduceAdd, Int.reduceSub, Int.reduceMul, Int.reduceLT, Int.reduceLE, Int.reduceEq, rX, dg_cells, dg_fold, List.drop_succ_cons, hik', Hp.read_of g7, Ne.symm d107, hx, ei, en]
        obtain ⟨u1, u2, u3, u4⟩ := upF_ok _ (n - half n) (i - half n) x ds1 rfl t2
        have t5 := t4 rfl
        refine call_intro (ih (n - half n) (by omega) (n - half n) (i - half n) x ds1 ts _ _ l rfl (by omega) (by omega) (by omega) hx t2 (by omega) h) ?_
        rintro _ s2 ⟨rfl, h⟩
        have hu := upF_right (x := x) h1 htk hik
        generalize upF (n - half n) (i - half n) x ds1 = u at *
        obtain ⟨ub, ud, ut, ul⟩ := u
        simp only at u1 u2 u3 u4 h hu ⊢
        simp (dsimp := false) (implicitDefEqProofs := false) (maxSteps := 1000000) (disch := first | omega | assumption | (simp only [rL, Nat.reduceAdd]; done) | (simp only [rL, Nat.reduceAdd]; omega)) only [↓rD, rU, ev, ofConst, ofCell, ↓reduceIte, Nat.reduceEqDiff, Nat.reduceAdd, Nat.reduceSub, Nat.reduceMul, Nat.reduceLeDiff, Nat.reduceLT, Int.reduceNeg, Int.reduceToNat, Int.reduceAdd, Int.reduceSub, Int.reduceMul, Int.reduceLT, Int.reduceLE, Int.reduceEq, rX, dg_cells, dg_fold, List.drop_succ_cons, u1]
        refine newK_intro fun l11 n11 => ?_
        have g8 : s2 l8 = some zc := h.get d8 (by rw [Hp.set_ne _ _ (Ne.symm d108)]; exact Hp.set_same _ _ _)
        have g10 : s2 l10 = some (dc other) := h.get d10 (Hp.set_same _ _ _)
        have d118 : l11 ≠ l8 := by rintro rfl; rw [n11] at g8; cases g8
        have d1110 : l11 ≠ l10 := by rintro rfl; rw [n11] at g10; cases g10
        obtain ⟨d11, e11, h⟩ := h.new (ob := dc ub) n11
        simp (dsimp := false) (implicitDefEqProofs := false) (maxSteps := 1000000) (disch := first | omega | assumption | (simp only [rL, Nat.reduceAdd]; done) | (simp only [rL, Nat.reduceAdd]; omega)) only [↓rD, rU, ev, ofConst, ofCell, ↓reduceIte, Nat.reduceEqDiff, Nat.reduceAdd, Nat.reduceSub, Nat.reduceMul, Nat.reduceLeDiff, Nat.reduceLT, Int.reduceNeg, Int.reduceToNat, Int.reduceAdd, Int.reduceSub, Int.reduceMul, Int.reduceLT, Int.reduceLE, Int.reduceEq, rX, dg_cells, dg_fold, List.drop_succ_cons, u1]
        unfold zc at g8
        unfold dc at g10
        simp (dsimp := false) (implicitDefEqProofs := false) (maxSteps := 1000000) (disch := first | omega | assumption | (simp only [rL, Nat.reduceAdd]; done) | (simp only [rL, Nat.reduceAdd]; omega)) only [↓rD, rU, ev, ofConst, ofCell, ↓reduceIte, Nat.reduceEqDiff, Nat.reduceAdd, Nat.reduceSub, Nat.reduceMul, Nat.reduceLeDiff, Nat.reduceLT, Int.reduceNeg, Int.reduceToNat, Int.reduceAdd, Int.reduceSub, Int.reduceMul, Int.reduceLT, Int.reduceLE, Int.reduceEq, rX, dg_cells, dg_fold, List.drop_succ_cons, Hp.read_of g10, t1, u1]
        refine call_intro (node_spec other ub t1 u1 _) ?_
        rintro _ s3 ⟨o3, k3, rfl⟩
        simp (dsimp := false) (implicitDefEqProofs := false) (maxSteps := 1000000) (disch := first | omega | assumption | (simp only [rL, Nat.reduceAdd]; done) | (simp only [rL, Nat.reduceAdd]; omega)) only [↓rD, rU, ev, ofConst, ofCell, ↓reduceIte, Nat.reduceEqDiff, Nat.reduceAdd, Nat.reduceSub, Nat.reduceMul, Nat.reduceLeDiff, Nat.reduceLT, Int.reduceNeg, Int.reduceToNat, Int.reduceAdd, Int.reduceSub, Int.reduceMul, Int.reduceLT, Int.reduceLE, Int.reduceEq, rX, dg_cells, dg_fold, List.drop_succ_cons]
        obtain ⟨od, ot, tso, q1, q2⟩ := h
        have h : PS ((((s0.set l7 (dc x)).set l8 zc).set l10 (dc other)).set l11 (dc ub)) l ud (ts ++ ut) ul s3 := ⟨od, ot, tso, q1, q2.mono k3.sub⟩
        refine call_intro (phash_spec _ s3 l ud (ts ++ ut) ul h (nodeB other ub) o3 (by rw [nodeB_length other ub t1 u1]; omega) (by simp only [List.length_append]; omega)) ?_
        rintro _ s4 ⟨rfl, h⟩
        have g8 : s4 l8 = some zc := h.get d8 (by rw [Hp.set_ne _ _ (Ne.symm d118), Hp.set_ne _ _ (Ne.symm d108)]; exact Hp.set_same _ _ _)
        have hq := sha256_length (nodeB other ub)
        generalize hge : sha256 (nodeB other ub) = e at *
        unfold zc at g8
        simp (dsimp := false) (implicitDefEqProofs := false) (maxSteps := 1000000) (disch := first | omega | assumption | (simp only [rL, Nat.reduceAdd]; done) | (simp only [rL, Nat.reduceAdd]; omega)) only [↓rD, rU, ev, ofConst, ofCell, ↓reduceIte, Nat.reduceEqDiff, Nat.reduceAdd, Nat.reduceSub, Nat.reduceMul, Nat.reduceLeDiff, Nat.reduceLT, Int.reduceNeg, Int.reduceToNat, Int.reduceAdd, Int.reduceSub, Int.reduceMul, Int.reduceLT, Int.reduceLE, Int.reduceEq, rX, dg_cells, dg_fold, List.drop_succ_cons, hq, Hp.stA_of g8, Hp.read_of g8]
        have h9 := h.set (l2 := l8) (ob := dc e) (ob' := zc) d8 (by rw [Hp.set_ne _ _ (Ne.symm d118), Hp.set_ne _ _ (Ne.symm d108)]; exact Hp.set_same _ _ _)
        rw [List.append_assoc] at h9
        refine ⟨_, Hp.sub_refl, ?_⟩
        rw [hu]
        exact ⟨rfl, h9.base (Hp.sub_new (Hp.sub_new hbase (Hp.sub_none hbase e11)) e8)⟩
    · simp (dsimp := false) (implicitDefEqProofs := false) (maxSteps := 1000000) (disch := first | omega | assumption | (simp only [rL, Nat.reduceAdd]; done) | (simp only [rL, Nat.reduceAdd]; omega)) only [↓rD, rU, ev, ofConst, ofCell, ↓reduceIte, Nat.reduceEqDiff, Nat.reduceAdd, Nat.reduceSub, Nat.reduceMul, Nat.reduceLeDiff, Nat.reduceLT, Int.reduceNeg, Int.reduceToNat, Int.reduceAdd, Int.reduceSub, Int.reduceMul, Int.reduceLT, Int.reduceLE, Int.reduceEq, rX, dg_cells, dg_fold, List.drop_succ_cons, Hp.stA_of g8, Ne.symm d108, Hp.read_of g8]
      have h9 := h.set (l2 := l8) (ob := zc) (ob' := zc) d8 (by rw [Hp.set_ne _ _ (Ne.symm d108)]; exact Hp.set_same _ _ _)
      rw [upF_lack h1 htk]
      refine ⟨_, Hp.sub_refl, rfl, ?_⟩
      simp only [List.append_nil]
      exact h9.base (Hp.sub_new hbase e8)
end Go.Proofs.YtnnjjmiahcnbaaaGreat
set_option maxRecDepth 100000
namespace Go.Proofs.YtnnjjmiahcnbaaaGreat
open Go Go.Av

theorem dg_inj {a b : List UInt8} (h : dg a = dg b) : a = b := by
  have h1 : a.map byteAV = b.map byteAV := by simpa [dg] using h
  have h2 := congrArg bytesOf h1
  rw [bytesOf_map, bytesOf_map] at h2
  exact Option.some.inj h2
theorem peq_dg {a b : List UInt8} : peq (.agg (a.map byteAV)) (.agg (b.map byteAV)) = decide (a = b) := by
  by_cases h : a = b
  · subst h; simp [peq_self]
  · have : ¬ peq (.agg (a.map byteAV)) (.agg (b.map byteAV)) = true := fun hp => h (dg_inj ((peq_iff _ _).1 hp))
    simp only [Bool.not_eq_true] at this; simp [this, h]
theorem fitR_dg {a : List UInt8} (h : a.length = 32) : fitR [(32, .int .u8)] (a.map byteAV) := by
  refine ⟨by simp [h], ?_, ?_⟩
  · intro c hc
    obtain ⟨b, _, rfl⟩ := List.mem_map.1 (List.mem_of_mem_take hc)
    rfl
  · simp only [fitR]; rw [List.drop_of_length_le (by simp [h])]

/-- may a path be asked? -/
def pathOk (n i : Int) : Bool := decide (1 ≤ n ∧ n ≤ 1099511627776 ∧ 0 ≤ i ∧ i < n)

theorem inPath_spec (n i : Int) (x : List UInt8) (ds : List (List UInt8)) (o : Own) (s : Hp) (hx : x.length = 32) (hd : Digs ds) (hl : ds.length ≤ 900000) :
    AC Tryz.prog 66 [.v (.int .i64 n), .v (.int .i64 i), dg x, .sl (ds.map dg) o] s fun r s' =>
      if pathOk n i = true then ∃ l, s l = none ∧ r = .tup [.ptr l 0, dg (upF n.toNat i.toNat x ds).1] ∧ PS s l (upF n.toNat i.toNat x ds).2.1 (upF n.toNat i.toNat x ds).2.2.1 (upF n.toNat i.toNat x ds).2.2.2 s'
      else s' = s ∧ r = .tup [.v (.pointer none), dg zd] := by
  refine AC_run hm prep66 (by simp) ?_
  simp (dsimp := false) (implicitDefEqProofs := false) (maxSteps := 1000000) (disch := first | omega | assumption | (simp only [rL, Nat.reduceAdd]; done) | (simp only [rL, Nat.reduceAdd]; omega)) only [↓rD, rU, ev, ofConst, ofCell, ↓reduceIte, Nat.reduceEqDiff, Nat.reduceAdd, Nat.reduceSub, Nat.reduceMul, Nat.reduceLeDiff, Nat.reduceLT, Int.reduceNeg, Int.reduceToNat, Int.reduceAdd, Int.reduceSub, Int.reduceMul, Int.reduceLT, Int.reduceLE, Int.reduceEq, rX, dg_cells, dg_fold, List.drop_succ_cons, hx]
  refine newK_intro fun l6 n6 => ?_
  simp (dsimp := false) (implicitDefEqProofs := false) (maxSteps := 1000000) (disch := first | omega | assumption | (simp only [rL, Nat.reduceAdd]; done) | (simp only [rL, Nat.reduceAdd]; omega)) only [↓rD, rU, ev, ofConst, ofCell, ↓reduceIte, Nat.reduceEqDiff, Nat.reduceAdd, Nat.reduceSub, Nat.reduceMul, Nat.reduceLeDiff, Nat.reduceLT, Int.reduceNeg, Int.reduceToNat, Int.reduceAdd, Int.reduceSub, Int.reduceMul, Int.reduceLT, Int.reduceLE, Int.reduceEq, rX, dg_cells, dg_fold, List.drop_succ_cons, hx]
  refine newK_intro fun l9 n9 => ?_
  obtain ⟨d96, e9⟩ := Hp.set_none n9
  simp (dsimp := false) (implicitDefEqProofs := false) (maxSteps := 1000000) (disch := first | omega | assumption | (simp only [rL, Nat.reduceAdd]; done) | (simp only [rL, Nat.reduceAdd]; omega)) only [↓rD, rU, ev, ofConst, ofCell, ↓reduceIte, Nat.reduceEqDiff, Nat.reduceAdd, Nat.reduceSub, Nat.reduceMul, Nat.reduceLeDiff, Nat.reduceLT, Int.reduceNeg, Int.reduceToNat, Int.reduceAdd, Int.reduceSub, Int.reduceMul, Int.reduceLT, Int.reduceLE, Int.reduceEq, rX, dg_cells, dg_fold, List.drop_succ_cons]
  have hz : dg zd = .agg (List.replicate 32 (.v (.int .u8 0))) := rfl
  have zt : (List.replicate 32 (AV.v (.int .u8 0))).take 32 = List.replicate 32 (.v (.int .u8 0)) := rfl
  have fin : s.sub ((s.set l6 (.cells (x.map byteAV))).set l9 (.cells (List.replicate 32 (.v (.int .u8 0))))) := Hp.sub_new (Hp.sub_new Hp.sub_refl n6) e9
  by_cases c1 : n < 1
  · have hp : pathOk n i = false := by simp [pathOk]; omega
    simp (dsimp := false) (implicitDefEqProofs := false) (maxSteps := 1000000) (disch := first | omega | assumption | (simp only [rL, Nat.reduceAdd]; done) | (simp only [rL, Nat.reduceAdd]; omega)) only [↓rD, rU, ev, ofConst, ofCell, ↓reduceIte, Nat.reduceEqDiff, Nat.reduceAdd, Nat.reduceSub, Nat.reduceMul, Nat.reduceLeDiff, Nat.reduceLT, Int.reduceNeg, Int.reduceToNat, Int.reduceAdd, Int.reduceSub, Int.reduceMul, Int.reduceLT, Int.reduceLE, Int.reduceEq, rX, dg_cells, dg_fold, List.drop_succ_cons, c1, zt]
    exact ⟨s, fin, by rw [hp]; exact ⟨rfl, rfl⟩⟩
  · by_cases c2 : 1099511627776 < n
    · have hp : pathOk n i = false := by simp [pathOk]; omega
      simp (dsimp := false) (implicitDefEqProofs := false) (maxSteps := 1000000) (disch := first | omega | assumption | (simp only [rL, Nat.reduceAdd]; done) | (simp only [rL, Nat.reduceAdd]; omega)) only [↓rD, rU, ev, ofConst, ofCell, ↓reduceIte, Nat.reduceEqDiff, Nat.reduceAdd, Nat.reduceSub, Nat.reduceMul, Nat.reduceLeDiff, Nat.reduceLT, Int.reduceNeg, Int.reduceToNat, Int.reduceAdd, Int.reduceSub, Int.reduceMul, Int.reduceLT, Int.reduceLE, Int.reduceEq, rX, dg_cells, dg_fold, List.drop_succ_cons, c1, c2, zt]
      exact ⟨s, fin, by rw [hp]; exact ⟨rfl, rfl⟩⟩
    · by_cases c3 : i < 0
      · have hp : pathOk n i = false := by simp [pathOk]; omega
        simp (dsimp := false) (implicitDefEqProofs := false) (maxSteps := 1000000) (disch := first | omega | assumption | (simp only [rL, Nat.reduceAdd]; done) | (simp only [rL, Nat.reduceAdd]; omega)) only [↓rD, rU, ev, ofConst, ofCell, ↓reduceIte, Nat.reduceEqDiff, Nat.reduceAdd, Nat.reduceSub, Nat.reduceMul, Nat.reduceLeDiff, Nat.reduceLT, Int.reduceNeg, Int.reduceToNat, Int.reduceAdd, Int.reduceSub, Int.reduceMul, Int.reduceLT, Int.reduceLE, Int.reduceEq, rX, dg_cells, dg_fold, List.drop_succ_cons, c1, c2, c3, zt]
        exact ⟨s, fin, by rw [hp]; exact ⟨rfl, rfl⟩⟩
      · by_cases c4 : n ≤ i
        · have hp : pathOk n i = false := by simp [pathOk]; omega
          simp (dsimp := false) (implicitDefEqProofs := false) (maxSteps := 1000000) (disch := first | omega | assumption | (simp only [rL, Nat.reduceAdd]; done) | (simp only [rL, Nat.reduceAdd]; omega)) only [↓rD, rU, ev, ofConst, ofCell, ↓reduceIte, Nat.reduceEqDiff, Nat.reduceAdd, Nat.reduceSub, Nat.reduceMul, Nat.reduceLeDiff, Nat.reduceLT, Int.reduceNeg, Int.reduceToNat, Int.reduceAdd, Int.reduceSub, Int.reduceMul, Int.reduceLT, Int.reduceLE, Int.reduceEq, rX, dg_cells, dg_fold, List.drop_succ_cons, c1, c2, c3, c4, zt]
          exact ⟨s, fin, by rw [hp]; exact ⟨rfl, rfl⟩⟩
        · have hp : pathOk n i = true := by simp [pathOk]; omega
          obtain ⟨m, rfl⟩ : ∃ m : Nat, n = m := ⟨n.toNat, by omega⟩
          obtain ⟨j, rfl⟩ : ∃ j : Nat, i = j := ⟨i.toNat, by omega⟩
          have e : putAt [AV.sl [] Own.nil, AV.sl [] Own.nil, AV.v (Value.bool false)] 0 [AV.sl (List.map dg ds) o] = [.sl (ds.map dg) o, .sl [] .nil, .v (.bool false)] := rfl
          simp (dsimp := false) (implicitDefEqProofs := false) (maxSteps := 1000000) (disch := first | omega | assumption | (simp only [rL, Nat.reduceAdd]; done) | (simp only [rL, Nat.reduceAdd]; omega)) only [↓rD, rU, ev, ofConst, ofCell, ↓reduceIte, Nat.reduceEqDiff, Nat.reduceAdd, Nat.reduceSub, Nat.reduceMul, Nat.reduceLeDiff, Nat.reduceLT, Int.reduceNeg, Int.reduceToNat, Int.reduceAdd, Int.reduceSub, Int.reduceMul, Int.reduceLT, Int.reduceLE, Int.reduceEq, rX, dg_cells, dg_fold, List.drop_succ_cons, c1, c2, c3, c4, zt, e]
          refine newK_intro fun l n10 => ?_
          obtain ⟨dl9, k10⟩ := Hp.set_none n10
          obtain ⟨dl6, k10⟩ := Hp.set_none k10
          simp (dsimp := false) (implicitDefEqProofs := false) (maxSteps := 1000000) (disch := first | omega | assumption | (simp only [rL, Nat.reduceAdd]; done) | (simp only [rL, Nat.reduceAdd]; omega)) only [↓rD, rU, ev, ofConst, ofCell, ↓reduceIte, Nat.reduceEqDiff, Nat.reduceAdd, Nat.reduceSub, Nat.reduceMul, Nat.reduceLeDiff, Nat.reduceLT, Int.reduceNeg, Int.reduceToNat, Int.reduceAdd, Int.reduceSub, Int.reduceMul, Int.reduceLT, Int.reduceLE, Int.reduceEq, rX, dg_cells, dg_fold, List.drop_succ_cons, zt, e, hx]
          have hP : PS ((s.set l6 (dc x)).set l9 zc) l ds [] false (((s.set l6 (dc x)).set l9 zc).set l (.cells [.sl (ds.map dg) o, .sl [] .nil, .v (.bool false)])) :=
            ⟨o, .nil, [], rfl, Owned.nil Hp.sub_refl⟩
          refine call_intro (up_spec _ m j x ds [] _ _ l rfl (by omega) (by omega) (by omega) hx hd (by simp; omega) hP) ?_
          rintro _ s2 ⟨rfl, h⟩
          obtain ⟨u1, _⟩ := upF_ok _ m j x ds rfl hd
          rw [hp, Int.toNat_natCast, Int.toNat_natCast]
          simp only [List.nil_append, if_true] at h ⊢
          generalize upF m j x ds = u at *
          obtain ⟨ub, ud, ut, ul⟩ := u
          simp only at u1 h ⊢
          have g9 : s2 l9 = some zc := h.get (Ne.symm dl9) (Hp.set_same _ _ _)
          unfold zc at g9
          simp (dsimp := false) (implicitDefEqProofs := false) (maxSteps := 1000000) (disch := first | omega | assumption | (simp only [rL, Nat.reduceAdd]; done) | (simp only [rL, Nat.reduceAdd]; omega)) only [↓rD, rU, ev, ofConst, ofCell, ↓reduceIte, Nat.reduceEqDiff, Nat.reduceAdd, Nat.reduceSub, Nat.reduceMul, Nat.reduceLeDiff, Nat.reduceLT, Int.reduceNeg, Int.reduceToNat, Int.reduceAdd, Int.reduceSub, Int.reduceMul, Int.reduceLT, Int.reduceLE, Int.reduceEq, rX, dg_cells, dg_fold, List.drop_succ_cons, zt, u1, Hp.stA_of g9, Hp.read_of g9]
          have h9 := h.set (l2 := l9) (ob := dc ub) (ob' := zc) (Ne.symm dl9) (Hp.set_same _ _ _)
          refine ⟨_, Hp.sub_refl, l, k10, rfl, h9.base (Hp.sub_new (Hp.sub_new (Hp.sub_new Hp.sub_refl n6) e9) e9)⟩
end Go.Proofs.YtnnjjmiahcnbaaaGreat
set_option maxRecDepth 100000
namespace Go.Proofs.YtnnjjmiahcnbaaaGreat
open Go Go.Av

theorem eqvK_dg {neg : Bool} {a b : List UInt8} {C : AV → Prop} (ha : a.length = 32) (hb : b.length = 32) : eqvK neg [(32, .int .u8)] (dg a) (dg b) C = C (.v (.bool (xor neg (decide (a = b))))) := by
  have h1 := fitR_dg ha
  have h2 := fitR_dg hb
  show (fitR _ _ ∧ fitR _ _ ∧ C (.v (.bool (xor neg (peq (.agg (a.map byteAV)) (.agg (b.map byteAV))))))) = _
  rw [peq_dg]; simp [h1, h2]

def inPathF (root : List UInt8) (n i : Int) (x : List UInt8) (ds : List (List UInt8)) : Bool :=
  pathOk n i && !(upF n.toNat i.toNat x ds).2.2.2 && decide ((upF n.toNat i.toNat x ds).2.1.length = 0) && decide ((upF n.toNat i.toNat x ds).1 = root)

theorem InPath_spec (root : List UInt8) (n i : Int) (x : List UInt8) (ds : List (List UInt8)) (o : Own) (s : Hp) (hr : root.length = 32) (hx : x.length = 32) (hd : Digs ds) (hl : ds.length ≤ 900000) :
    AC Tryz.prog 58 [dg root, .v (.int .i64 n), .v (.int .i64 i), dg x, .sl (ds.map dg) o] s fun r s' => s' = s ∧ r = .v (.bool (inPathF root n i x ds)) := by
  refine AC_run hm prep58 (by simp) ?_
  simp (dsimp := false) (implicitDefEqProofs := false) (maxSteps := 1000000) (disch := first | omega | assumption | (simp only [rL, Nat.reduceAdd]; done) | (simp only [rL, Nat.reduceAdd]; omega)) only [↓rD, rU, ev, ofConst, ofCell, ↓reduceIte, Nat.reduceEqDiff, Nat.reduceAdd, Nat.reduceSub, Nat.reduceMul, Nat.reduceLeDiff, Nat.reduceLT, Int.reduceNeg, Int.reduceToNat, Int.reduceAdd, Int.reduceSub, Int.reduceMul, Int.reduceLT, Int.reduceLE, Int.reduceEq, rX, dg_cells, dg_fold, List.drop_succ_cons, hr]
  refine newK_intro fun l5 n5 => ?_
  simp (dsimp := false) (implicitDefEqProofs := false) (maxSteps := 1000000) (disch := first | omega | assumption | (simp only [rL, Nat.reduceAdd]; done) | (simp only [rL, Nat.reduceAdd]; omega)) only [↓rD, rU, ev, ofConst, ofCell, ↓reduceIte, Nat.reduceEqDiff, Nat.reduceAdd, Nat.reduceSub, Nat.reduceMul, Nat.reduceLeDiff, Nat.reduceLT, Int.reduceNeg, Int.reduceToNat, Int.reduceAdd, Int.reduceSub, Int.reduceMul, Int.reduceLT, Int.reduceLE, Int.reduceEq, rX, dg_cells, dg_fold, List.drop_succ_cons, hx]
  refine newK_intro fun l8 n8 => ?_
  obtain ⟨d85, e8⟩ := Hp.set_none n8
  simp (dsimp := false) (implicitDefEqProofs := false) (maxSteps := 1000000) (disch := first | omega | assumption | (simp only [rL, Nat.reduceAdd]; done) | (simp only [rL, Nat.reduceAdd]; omega)) only [↓rD, rU, ev, ofConst, ofCell, ↓reduceIte, Nat.reduceEqDiff, Nat.reduceAdd, Nat.reduceSub, Nat.reduceMul, Nat.reduceLeDiff, Nat.reduceLT, Int.reduceNeg, Int.reduceToNat, Int.reduceAdd, Int.reduceSub, Int.reduceMul, Int.reduceLT, Int.reduceLE, Int.reduceEq, rX, dg_cells, dg_fold, List.drop_succ_cons, hx]
  refine call_intro (inPath_spec n i x ds o _ hx hd hl) ?_
  rintro r s1 h
  by_cases hp : pathOk n i = true
  · rw [if_pos hp] at h
    obtain ⟨l, nl, rfl, h⟩ := h
    obtain ⟨dl8, el⟩ := Hp.set_none nl
    obtain ⟨dl5, el⟩ := Hp.set_none el
    obtain ⟨u1, _⟩ := upF_ok _ n.toNat i.toNat x ds rfl hd
    have hI : inPathF root n i x ds = (!(upF n.toNat i.toNat x ds).2.2.2 && decide ((upF n.toNat i.toNat x ds).2.1.length = 0) && decide ((upF n.toNat i.toNat x ds).1 = root)) := by simp [inPathF, hp]
    rw [hI]
    generalize upF n.toNat i.toNat x ds = u at *
    obtain ⟨ub, ud, ut, ul⟩ := u
    simp only at u1 h ⊢
    have g5 : s1 l5 = some (.cells (root.map byteAV)) := h.get (Ne.symm dl5) (by rw [Hp.set_ne _ _ (Ne.symm d85)]; exact Hp.set_same _ _ _)
    have hb : s.sub s1 := Hp.sub_trans (Hp.sub_new (Hp.sub_new Hp.sub_refl n5) e8) (h.sub nl)
    simp (dsimp := false) (implicitDefEqProofs := false) (maxSteps := 1000000) (disch := first | omega | assumption | (simp only [rL, Nat.reduceAdd]; done) | (simp only [rL, Nat.reduceAdd]; omega)) only [↓rD, rU, ev, ofConst, ofCell, ↓reduceIte, Nat.reduceEqDiff, Nat.reduceAdd, Nat.reduceSub, Nat.reduceMul, Nat.reduceLeDiff, Nat.reduceLT, Int.reduceNeg, Int.reduceToNat, Int.reduceAdd, Int.reduceSub, Int.reduceMul, Int.reduceLT, Int.reduceLE, Int.reduceEq, rX, dg_cells, dg_fold, List.drop_succ_cons, List.getElem?_cons_zero, List.getElem?_cons_succ]
    refine newK_intro fun l12 n12 => ?_
    obtain ⟨d12, e12, h⟩ := h.new (ob := dc ub) n12
    have d125 : l12 ≠ l5 := by rintro rfl; rw [n12] at g5; cases g5
    simp (dsimp := false) (implicitDefEqProofs := false) (maxSteps := 1000000) (disch := first | omega | assumption | (simp only [rL, Nat.reduceAdd]; done) | (simp only [rL, Nat.reduceAdd]; omega)) only [↓rD, rU, ev, ofConst, ofCell, ↓reduceIte, Nat.reduceEqDiff, Nat.reduceAdd, Nat.reduceSub, Nat.reduceMul, Nat.reduceLeDiff, Nat.reduceLT, Int.reduceNeg, Int.reduceToNat, Int.reduceAdd, Int.reduceSub, Int.reduceMul, Int.reduceLT, Int.reduceLE, Int.reduceEq, rX, dg_cells, dg_fold, List.drop_succ_cons, u1]
    refine call_intro (good_spec _ _ l ud ut ul h) ?_
    rintro _ _ ⟨rfl, rfl⟩
    have hf : s.sub (s1.set l12 (.cells (ub.map byteAV))) := Hp.sub_new hb (Hp.sub_none hb n12)
    cases hg : (!ul && decide (ud.length = 0))
    · simp (dsimp := false) (implicitDefEqProofs := false) (maxSteps := 1000000) (disch := first | omega | assumption | (simp only [rL, Nat.reduceAdd]; done) | (simp only [rL, Nat.reduceAdd]; omega)) only [↓rD, rU, ev, ofConst, ofCell, ↓reduceIte, Nat.reduceEqDiff, Nat.reduceAdd, Nat.reduceSub, Nat.reduceMul, Nat.reduceLeDiff, Nat.reduceLT, Int.reduceNeg, Int.reduceToNat, Int.reduceAdd, Int.reduceSub, Int.reduceMul, Int.reduceLT, Int.reduceLE, Int.reduceEq, rX, dg_cells, dg_fold, List.drop_succ_cons]
      exact ⟨s, hf, rfl, by simp⟩
    · simp (dsimp := false) (implicitDefEqProofs := false) (maxSteps := 1000000) (disch := first | omega | assumption | (simp only [rL, Nat.reduceAdd]; done) | (simp only [rL, Nat.reduceAdd]; omega)) only [↓rD, rU, ev, ofConst, ofCell, ↓reduceIte, Nat.reduceEqDiff, Nat.reduceAdd, Nat.reduceSub, Nat.reduceMul, Nat.reduceLeDiff, Nat.reduceLT, Int.reduceNeg, Int.reduceToNat, Int.reduceAdd, Int.reduceSub, Int.reduceMul, Int.reduceLT, Int.reduceLE, Int.reduceEq, rX, dg_cells, dg_fold, List.drop_succ_cons, Hp.read_of g5, Ne.symm d125, u1, hr, eqvK_dg, Bool.false_xor]
      exact ⟨s, hf, rfl, by simp⟩
  · rw [if_neg hp] at h
    obtain ⟨rfl, rfl⟩ := h
    have hI : inPathF root n i x ds = false := by simp [inPathF, hp]
    rw [hI]
    simp (dsimp := false) (implicitDefEqProofs := false) (maxSteps := 1000000) (disch := first | omega | assumption | (simp only [rL, Nat.reduceAdd]; done) | (simp only [rL, Nat.reduceAdd]; omega)) only [↓rD, rU, ev, ofConst, ofCell, ↓reduceIte, Nat.reduceEqDiff, Nat.reduceAdd, Nat.reduceSub, Nat.reduceMul, Nat.reduceLeDiff, Nat.reduceLT, Int.reduceNeg, Int.reduceToNat, Int.reduceAdd, Int.reduceSub, Int.reduceMul, Int.reduceLT, Int.reduceLE, Int.reduceEq, rX, dg_cells, dg_fold, List.drop_succ_cons, List.getElem?_cons_zero, List.getElem?_cons_succ, zd_length]
    refine newK_intro fun l12 n12 => ?_
    simp (dsimp := false) (implicitDefEqProofs := false) (maxSteps := 1000000) (disch := first | omega | assumption | (simp only [rL, Nat.reduceAdd]; done) | (simp only [rL, Nat.reduceAdd]; omega)) only [↓rD, rU, ev, ofConst, ofCell, ↓reduceIte, Nat.reduceEqDiff, Nat.reduceAdd, Nat.reduceSub, Nat.reduceMul, Nat.reduceLeDiff, Nat.reduceLT, Int.reduceNeg, Int.reduceToNat, Int.reduceAdd, Int.reduceSub, Int.reduceMul, Int.reduceLT, Int.reduceLE, Int.reduceEq, rX, dg_cells, dg_fold, List.drop_succ_cons, zd_length, Bool.not_true]
    refine ⟨s, Hp.sub_new (Hp.sub_new (Hp.sub_new Hp.sub_refl n5) e8) ?_, rfl⟩
    exact (Hp.set_none (Hp.set_none n12).2).2

theorem PathPre_spec (n i : Int) (x : List UInt8) (ds : List (List UInt8)) (o : Own) (s : Hp) (hx : x.length = 32) (hd : Digs ds) (hl : ds.length ≤ 900000) :
    AC Tryz.prog 34 [.v (.int .i64 n), .v (.int .i64 i), dg x, .sl (ds.map dg) o] s fun r s' => ∃ tso o', r = .sl (TX tso) o' ∧ Owned s s' 1 (TX tso) o' ∧ tso.map (·.1) = (if pathOk n i = true then (upF n.toNat i.toNat x ds).2.2.1 else []) := by
  refine AC_run hm prep34 (by simp) ?_
  simp (dsimp := false) (implicitDefEqProofs := false) (maxSteps := 1000000) (disch := first | omega | assumption | (simp only [rL, Nat.reduceAdd]; done) | (simp only [rL, Nat.reduceAdd]; omega)) only [↓rD, rU, ev, ofConst, ofCell, ↓reduceIte, Nat.reduceEqDiff, Nat.reduceAdd, Nat.reduceSub, Nat.reduceMul, Nat.reduceLeDiff, Nat.reduceLT, Int.reduceNeg, Int.reduceToNat, Int.reduceAdd, Int.reduceSub, Int.reduceMul, Int.reduceLT, Int.reduceLE, Int.reduceEq, rX, dg_cells, dg_fold, List.drop_succ_cons, hx]
  refine newK_intro fun l6 n6 => ?_
  simp (dsimp := false) (implicitDefEqProofs := false) (maxSteps := 1000000) (disch := first | omega | assumption | (simp only [rL, Nat.reduceAdd]; done) | (simp only [rL, Nat.reduceAdd]; omega)) only [↓rD, rU, ev, ofConst, ofCell, ↓reduceIte, Nat.reduceEqDiff, Nat.reduceAdd, Nat.reduceSub, Nat.reduceMul, Nat.reduceLeDiff, Nat.reduceLT, Int.reduceNeg, Int.reduceToNat, Int.reduceAdd, Int.reduceSub, Int.reduceMul, Int.reduceLT, Int.reduceLE, Int.reduceEq, rX, dg_cells, dg_fold, List.drop_succ_cons, hx]
  refine call_intro (inPath_spec n i x ds o _ hx hd hl) ?_
  rintro r s1 h
  by_cases hp : pathOk n i = true
  · rw [if_pos hp] at h
    obtain ⟨l, nl, rfl, h⟩ := h
    obtain ⟨dl6, el⟩ := Hp.set_none nl
    obtain ⟨u1, _⟩ := upF_ok _ n.toNat i.toNat x ds rfl hd
    rw [if_pos hp]
    generalize upF n.toNat i.toNat x ds = u at *
    obtain ⟨ub, ud, ut, ul⟩ := u
    simp only at u1 h ⊢
    simp (dsimp := false) (implicitDefEqProofs := false) (maxSteps := 1000000) (disch := first | omega | assumption | (simp only [rL, Nat.reduceAdd]; done) | (simp only [rL, Nat.reduceAdd]; omega)) only [↓rD, rU, ev, ofConst, ofCell, ↓reduceIte, Nat.reduceEqDiff, Nat.reduceAdd, Nat.reduceSub, Nat.reduceMul, Nat.reduceLeDiff, Nat.reduceLT, Int.reduceNeg, Int.reduceToNat, Int.reduceAdd, Int.reduceSub, Int.reduceMul, Int.reduceLT, Int.reduceLE, Int.reduceEq, rX, dg_cells, dg_fold, List.drop_succ_cons, List.getElem?_cons_zero, List.getElem?_cons_succ]
    refine newK_intro fun l12 n12 => ?_
    obtain ⟨d12, e12, h⟩ := h.new (ob := dc ub) n12
    obtain ⟨od, ot, tso, q1, q2⟩ := h
    have hl := q2.sub _ _ (Hp.set_same _ _ _)
    simp (dsimp := false) (implicitDefEqProofs := false) (maxSteps := 1000000) (disch := first | omega | assumption | (simp only [rL, Nat.reduceAdd]; done) | (simp only [rL, Nat.reduceAdd]; omega)) only [↓rD, rU, ev, ofConst, ofCell, ↓reduceIte, Nat.reduceEqDiff, Nat.reduceAdd, Nat.reduceSub, Nat.reduceMul, Nat.reduceLeDiff, Nat.reduceLT, Int.reduceNeg, Int.reduceToNat, Int.reduceAdd, Int.reduceSub, Int.reduceMul, Int.reduceLT, Int.reduceLE, Int.reduceEq, rX, dg_cells, dg_fold, List.drop_succ_cons, u1]
    have hr' : s1.read l = some [.sl (ud.map dg) od, .sl (TX tso) ot, .v (.bool ul)] := by
      have := Hp.read_of hl
      rwa [Hp.read_set_ne (Ne.symm d12)] at this
    simp (dsimp := false) (implicitDefEqProofs := false) (maxSteps := 1000000) (disch := first | omega | assumption | (simp only [rL, Nat.reduceAdd]; done) | (simp only [rL, Nat.reduceAdd]; omega)) only [↓rD, rU, ev, ofConst, ofCell, ↓reduceIte, Nat.reduceEqDiff, Nat.reduceAdd, Nat.reduceSub, Nat.reduceMul, Nat.reduceLeDiff, Nat.reduceLT, Int.reduceNeg, Int.reduceToNat, Int.reduceAdd, Int.reduceSub, Int.reduceMul, Int.reduceLT, Int.reduceLE, Int.reduceEq, rX, dg_cells, dg_fold, List.drop_succ_cons, hr']
    exact ⟨_, Hp.sub_refl, tso, ot, rfl, q2.base (Hp.sub_new (Hp.sub_new (Hp.sub_new Hp.sub_refl n6) (Hp.set_none e12).2) el), q1⟩
  · rw [if_neg hp] at h
    obtain ⟨rfl, rfl⟩ := h
    rw [if_neg hp]
    simp (dsimp := false) (implicitDefEqProofs := false) (maxSteps := 1000000) (disch := first | omega | assumption | (simp only [rL, Nat.reduceAdd]; done) | (simp only [rL, Nat.reduceAdd]; omega)) only [↓rD, rU, ev, ofConst, ofCell, ↓reduceIte, Nat.reduceEqDiff, Nat.reduceAdd, Nat.reduceSub, Nat.reduceMul, Nat.reduceLeDiff, Nat.reduceLT, Int.reduceNeg, Int.reduceToNat, Int.reduceAdd, Int.reduceSub, Int.reduceMul, Int.reduceLT, Int.reduceLE, Int.reduceEq, rX, dg_cells, dg_fold, List.drop_succ_cons, List.getElem?_cons_zero, List.getElem?_cons_succ, zd_length]
    refine newK_intro fun l12 n12 => ?_
    obtain ⟨_, e12⟩ := Hp.set_none n12
    simp (dsimp := false) (implicitDefEqProofs := false) (maxSteps := 1000000) (disch := first | omega | assumption | (simp only [rL, Nat.reduceAdd]; done) | (simp only [rL, Nat.reduceAdd]; omega)) only [↓rD, rU, ev, ofConst, ofCell, ↓reduceIte, Nat.reduceEqDiff, Nat.reduceAdd, Nat.reduceSub, Nat.reduceMul, Nat.reduceLeDiff, Nat.reduceLT, Int.reduceNeg, Int.reduceToNat, Int.reduceAdd, Int.reduceSub, Int.reduceMul, Int.reduceLT, Int.reduceLE, Int.reduceEq, rX, dg_cells, dg_fold, List.drop_succ_cons, zd_length, Bool.not_false]
    exact ⟨_, Hp.sub_refl, [], .nil, rfl, Owned.nil (Hp.sub_new (Hp.sub_new Hp.sub_refl n6) e12), rfl⟩
end Go.Proofs.YtnnjjmiahcnbaaaGreat
set_option maxRecDepth 100000
namespace Go.Proofs.YtnnjjmiahcnbaaaGreat
open Go Go.Av

def pathD (l : List (List UInt8)) (i : Nat) : List (List UInt8) :=
  if h : l.length < 2 then []
  else if i < half l.length then pathD (l.take (half l.length)) i ++ [rootD (l.drop (half l.length))]
  else pathD (l.drop (half l.length)) (i - half l.length) ++ [rootD (l.take (half l.length))]
termination_by l.length
decreasing_by
  · have := half_lt l.length (by omega); simp; omega
  · have := half_pos l.length; simp; omega
theorem pathD_leaf {l : List (List UInt8)} {i : Nat} (h : l.length < 2) : pathD l i = [] := by rw [pathD, dif_pos h]
theorem pathD_left {l : List (List UInt8)} {i : Nat} (h : ¬ l.length < 2) (hi : i < half l.length) : pathD l i = pathD (l.take (half l.length)) i ++ [rootD (l.drop (half l.length))] := by rw [pathD, dif_neg h, if_pos hi]
theorem pathD_right {l : List (List UInt8)} {i : Nat} (h : ¬ l.length < 2) (hi : ¬ i < half l.length) : pathD l i = pathD (l.drop (half l.length)) (i - half l.length) ++ [rootD (l.take (half l.length))] := by rw [pathD, dif_neg h, if_neg hi]
theorem pathD_ok : ∀ (N : Nat) (l : List (List UInt8)) (i : Nat), l.length = N → Digs (pathD l i) ∧ (pathD l i).length ≤ l.length := by
  intro N
  induction N using Nat.strongRecOn with
  | _ N ih =>
  intro l i hN
  by_cases h : l.length < 2
  · rw [pathD_leaf h]; exact ⟨fun d hd => by simp at hd, by simp⟩
  · have hlt := half_lt l.length (by omega)
    have hpos := half_pos l.length
    by_cases hi : i < half l.length
    · rw [pathD_left h hi]
      obtain ⟨a, b⟩ := ih (half l.length) (by omega) (l.take (half l.length)) i (by simp; omega)
      refine ⟨fun d hd => ?_, by simp at b ⊢; omega⟩
      rcases List.mem_append.1 hd with hd | hd
      · exact a d hd
      · simp at hd; subst hd; exact rootD_length _
    · rw [pathD_right h hi]
      obtain ⟨a, b⟩ := ih (l.length - half l.length) (by omega) (l.drop (half l.length)) (i - half l.length) (by simp)
      refine ⟨fun d hd => ?_, by simp at b ⊢; omega⟩
      rcases List.mem_append.1 hd with hd | hd
      · exact a d hd
      · simp at hd; subst hd; exact rootD_length _

theorem mapd_snoc {l : List (List UInt8)} {d : List UInt8} : l.map dg ++ [dg d] = (l ++ [d]).map dg := by simp

theorem app_dig {s s0 : Hp} {xs : List (List UInt8)} {d : List UInt8} {o o2 : Own} {C : AV → Hp → Prop} {de : Dep C} (h : Owned s0 s 32 (xs.map dg) o) (h1 : Digs xs) (h2 : d.length = 32) (h3 : xs.length ≤ 1099511627776)
    (hk : ∀ o' s', Owned s0 s' 32 ((xs ++ [d]).map dg) o' → C (.sl ((xs ++ [d]).map dg) o') s') : appK 32 32 s (.sl (xs.map dg) o) (.sl [dg d] o2) (hid2 C de) := by
  refine app_own h h1.all (by simp [allLen, dg_cells, h2]) (by simp; omega) (by simp; omega) ?_
  rw [mapd_snoc]; exact hk

theorem path_spec : ∀ (N : Nat) (l : List (List UInt8)) (i : Nat) (o : Own) (s : Hp), l.length = N → 1 ≤ l.length → l.length ≤ 1099511627776 → i < l.length → Digs l →
    AC Tryz.prog 97 [.sl (l.map dg) o, .v (.int .i64 i)] s fun r s' => ∃ o', Owned s s' 32 ((pathD l i).map dg) o' ∧ r = .sl ((pathD l i).map dg) o' := by
  intro N
  induction N using Nat.strongRecOn with
  | _ N ih =>
  intro l i o s hN h1 hle hi hd
  refine AC_run hm prep97 (by simp) ?_
  simp (dsimp := false) (implicitDefEqProofs := false) (maxSteps := 1000000) (disch := first | omega | assumption | (simp only [rL, Nat.reduceAdd]; done) | (simp only [rL, Nat.reduceAdd]; omega)) only [↓rD, rU, ev, ofConst, ofCell, ↓reduceIte, Nat.reduceEqDiff, Nat.reduceAdd, Nat.reduceSub, Nat.reduceMul, Nat.reduceLeDiff, Nat.reduceLT, Int.reduceNeg, Int.reduceToNat, Int.reduceAdd, Int.reduceSub, Int.reduceMul, Int.reduceLT, Int.reduceLE, Int.reduceEq, rX, dg_cells, dg_fold, List.drop_succ_cons]
  by_cases h2 : l.length < 2
  · have e1 : ((l.length : Nat) : Int) = 1 := by omega
    simp (dsimp := false) (implicitDefEqProofs := false) (maxSteps := 1000000) (disch := first | omega | assumption | (simp only [rL, Nat.reduceAdd]; done) | (simp only [rL, Nat.reduceAdd]; omega)) only [↓rD, rU, ev, ofConst, ofCell, ↓reduceIte, Nat.reduceEqDiff, Nat.reduceAdd, Nat.reduceSub, Nat.reduceMul, Nat.reduceLeDiff, Nat.reduceLT, Int.reduceNeg, Int.reduceToNat, Int.reduceAdd, Int.reduceSub, Int.reduceMul, Int.reduceLT, Int.reduceLE, Int.reduceEq, rX, dg_cells, dg_fold, List.drop_succ_cons, e1]
    rw [pathD_leaf h2]
    exact ⟨s, Hp.sub_refl, .nil, Owned.nil Hp.sub_refl, rfl⟩
  · have e1 : ¬ ((l.length : Nat) : Int) = 1 := by omega
    simp (dsimp := false) (implicitDefEqProofs := false) (maxSteps := 1000000) (disch := first | omega | assumption | (simp only [rL, Nat.reduceAdd]; done) | (simp only [rL, Nat.reduceAdd]; omega)) only [↓rD, rU, ev, ofConst, ofCell, ↓reduceIte, Nat.reduceEqDiff, Nat.reduceAdd, Nat.reduceSub, Nat.reduceMul, Nat.reduceLeDiff, Nat.reduceLT, Int.reduceNeg, Int.reduceToNat, Int.reduceAdd, Int.reduceSub, Int.reduceMul, Int.reduceLT, Int.reduceLE, Int.reduceEq, rX, dg_cells, dg_fold, List.drop_succ_cons, e1]
    refine call_intro (half_spec l.length (by omega) (by omega) _) ?_
    rintro _ _ ⟨rfl, rfl⟩
    have hlt := half_lt l.length (by omega)
    have hpos := half_pos l.length
    have hall := hd.all
    have hle' : ((half l.length : Nat) : Int) ≤ ((l.map dg).length : Nat) := by rw [List.length_map]; omega
    have hr1 := rootD_length (l.take (half l.length))
    have hr2 := rootD_length (l.drop (half l.length))
    by_cases hik : i < half l.length
    · have hik' : (i : Int) < (half l.length : Nat) := by omega
      rw [pathD_left h2 hik]
      generalize hk : half l.length = k at *
      simp (dsimp := false) (implicitDefEqProofs := false) (maxSteps := 1000000) (disch := first | omega | assumption | (simp only [rL, Nat.reduceAdd]; done) | (simp only [rL, Nat.reduceAdd]; omega)) only [↓rD, rU, ev, ofConst, ofCell, ↓reduceIte, Nat.reduceEqDiff, Nat.reduceAdd, Nat.reduceSub, Nat.reduceMul, Nat.reduceLeDiff, Nat.reduceLT, Int.reduceNeg, Int.reduceToNat, Int.reduceAdd, Int.reduceSub, Int.reduceMul, Int.reduceLT, Int.reduceLE, Int.reduceEq, rX, dg_cells, dg_fold, List.drop_succ_cons, hik', mapd_take, mapd_drop]
      refine call_intro (ih _ (by rw [← hN, List.length_take]; omega) (l.take k) i .any _ rfl (by rw [List.length_take]; omega) (by rw [List.length_take]; omega) (by rw [List.length_take]; omega) (hd.take k)) ?_
      rintro _ s1 ⟨o1, q1, rfl⟩
      simp (dsimp := false) (implicitDefEqProofs := false) (maxSteps := 1000000) (disch := first | omega | assumption | (simp only [rL, Nat.reduceAdd]; done) | (simp only [rL, Nat.reduceAdd]; omega)) only [↓rD, rU, ev, ofConst, ofCell, ↓reduceIte, Nat.reduceEqDiff, Nat.reduceAdd, Nat.reduceSub, Nat.reduceMul, Nat.reduceLeDiff, Nat.reduceLT, Int.reduceNeg, Int.reduceToNat, Int.reduceAdd, Int.reduceSub, Int.reduceMul, Int.reduceLT, Int.reduceLE, Int.reduceEq, rX, dg_cells, dg_fold, List.drop_succ_cons, hik', mapd_take, mapd_drop]
      refine call_intro (root_spec _ (l.drop k) .any _ rfl (by rw [List.length_drop]; omega) (hd.drop k)) ?_
      rintro _ _ ⟨rfl, rfl⟩
      obtain ⟨p1, p2⟩ := pathD_ok _ (l.take k) i rfl
      rw [List.length_take] at p2
      generalize rootD (l.drop k) = q at *
      generalize pathD (l.take k) i = p at *
      simp (dsimp := false) (implicitDefEqProofs := false) (maxSteps := 1000000) (disch := first | omega | assumption | (simp only [rL, Nat.reduceAdd]; done) | (simp only [rL, Nat.reduceAdd]; omega)) only [↓rD, rU, ev, ofConst, ofCell, ↓reduceIte, Nat.reduceEqDiff, Nat.reduceAdd, Nat.reduceSub, Nat.reduceMul, Nat.reduceLeDiff, Nat.reduceLT, Int.reduceNeg, Int.reduceToNat, Int.reduceAdd, Int.reduceSub, Int.reduceMul, Int.reduceLT, Int.reduceLE, Int.reduceEq, rX, dg_cells, dg_fold, List.drop_succ_cons]
      refine bsl_own Hp.sub_refl (by simp [allLen, dg_cells, hr2]) fun o2 s2 q2 => ?_
      simp (dsimp := false) (implicitDefEqProofs := false) (maxSteps := 1000000) (disch := first | omega | assumption | (simp only [rL, Nat.reduceAdd]; done) | (simp only [rL, Nat.reduceAdd]; omega)) only [↓rD, rU, ev, ofConst, ofCell, ↓reduceIte, Nat.reduceEqDiff, Nat.reduceAdd, Nat.reduceSub, Nat.reduceMul, Nat.reduceLeDiff, Nat.reduceLT, Int.reduceNeg, Int.reduceToNat, Int.reduceAdd, Int.reduceSub, Int.reduceMul, Int.reduceLT, Int.reduceLE, Int.reduceEq, rX, dg_cells, dg_fold, List.drop_succ_cons]
      refine app_dig (q1.mono q2.sub) p1 hr2 (by omega) fun o3 s3 q3 => ?_
      simp (dsimp := false) (implicitDefEqProofs := false) (maxSteps := 1000000) (disch := first | omega | assumption | (simp only [rL, Nat.reduceAdd]; done) | (simp only [rL, Nat.reduceAdd]; omega)) only [↓rD, rU, ev, ofConst, ofCell, ↓reduceIte, Nat.reduceEqDiff, Nat.reduceAdd, Nat.reduceSub, Nat.reduceMul, Nat.reduceLeDiff, Nat.reduceLT, Int.reduceNeg, Int.reduceToNat, Int.reduceAdd, Int.reduceSub, Int.reduceMul, Int.reduceLT, Int.reduceLE, Int.reduceEq, rX, dg_cells, dg_fold, List.drop_succ_cons]
      exact ⟨s3, Hp.sub_refl, o3, q3, rfl⟩
    · have hik' : ¬ (i : Int) < (half l.length : Nat) := by omega
      rw [pathD_right h2 hik]
      generalize hk : half l.length = k at *
      have ei : (i : Int) - (k : Nat) = ((i - k : Nat) : Int) := by omega
      simp (dsimp := false) (implicitDefEqProofs := false) (maxSteps := 1000000) (disch := first | omega | assumption | (simp only [rL, Nat.reduceAdd]; done) | (simp only [rL, Nat.reduceAdd]; omega)) only [↓rD, rU, ev, ofConst, ofCell, ↓reduceIte, Nat.reduceEqDiff, Nat.reduceAdd, Nat.reduceSub, Nat.reduceMul, Nat.reduceLeDiff, Nat.reduceLT, Int.reduceNeg, Int.reduceToNat, Int.reduceAdd, Int.reduceSub, Int.reduceMul, Int.reduceLT, Int.reduceLE, Int.reduceEq, rX, dg_cells, dg_fold, List.drop_succ_cons, hik', mapd_take, mapd_drop, ei]
      refine call_intro (ih _ (by rw [← hN, List.length_drop]; omega) (l.drop k) (i - k) .any _ rfl (by rw [List.length_drop]; omega) (by rw [List.length_drop]; omega) (by rw [List.length_drop]; omega) (hd.drop k)) ?_
      rintro _ s1 ⟨o1, q1, rfl⟩
      simp (dsimp := false) (implicitDefEqProofs := false) (maxSteps := 1000000) (disch := first | omega | assumption | (simp only [rL, Nat.reduceAdd]; done) | (simp only [rL, Nat.reduceAdd]; omega)) only [↓rD, rU, ev, ofConst, ofCell, ↓reduceIte, Nat.reduceEqDiff, Nat.reduceAdd, Nat.reduceSub, Nat.reduceMul, Nat.reduceLeDiff, Nat.reduceLT, Int.reduceNeg, Int.reduceToNat, Int.reduceAdd, Int.reduceSub, Int.reduceMul, Int.reduceLT, Int.reduceLE, Int.reduceEq, rX, dg_cells, dg_fold, List.drop_succ_cons, hik', mapd_take, mapd_drop]
      refine call_intro (root_spec _ (l.take k) .any _ rfl (by rw [List.length_take]; omega) (hd.take k)) ?_
      rintro _ _ ⟨rfl, rfl⟩
      obtain ⟨p1, p2⟩ := pathD_ok _ (l.drop k) (i - k) rfl
      rw [List.length_drop] at p2
      generalize rootD (l.take k) = q at *
      generalize pathD (l.drop k) (i - k) = p at *
      simp (dsimp := false) (implicitDefEqProofs := false) (maxSteps := 1000000) (disch := first | omega | assumption | (simp only [rL, Nat.reduceAdd]; done) | (simp only [rL, Nat.reduceAdd]; omega)) only [↓rD, rU, ev, ofConst, ofCell, ↓reduceIte, Nat.reduceEqDiff, Nat.reduceAdd, Nat.reduceSub, Nat.reduceMul, Nat.reduceLeDiff, Nat.reduceLT, Int.reduceNeg, Int.reduceToNat, Int.reduceAdd, Int.reduceSub, Int.reduceMul, Int.reduceLT, Int.reduceLE, Int.reduceEq, rX, dg_cells, dg_fold, List.drop_succ_cons]
      refine bsl_own Hp.sub_refl (by simp [allLen, dg_cells, hr1]) fun o2 s2 q2 => ?_
      simp (dsimp := false) (implicitDefEqProofs := false) (maxSteps := 1000000) (disch := first | omega | assumption | (simp only [rL, Nat.reduceAdd]; done) | (simp only [rL, Nat.reduceAdd]; omega)) only [↓rD, rU, ev, ofConst, ofCell, ↓reduceIte, Nat.reduceEqDiff, Nat.reduceAdd, Nat.reduceSub, Nat.reduceMul, Nat.reduceLeDiff, Nat.reduceLT, Int.reduceNeg, Int.reduceToNat, Int.reduceAdd, Int.reduceSub, Int.reduceMul, Int.reduceLT, Int.reduceLE, Int.reduceEq, rX, dg_cells, dg_fold, List.drop_succ_cons]
      refine app_dig (q1.mono q2.sub) p1 hr1 (by omega) fun o3 s3 q3 => ?_
      simp (dsimp := false) (implicitDefEqProofs := false) (maxSteps := 1000000) (disch := first | omega | assumption | (simp only [rL, Nat.reduceAdd]; done) | (simp only [rL, Nat.reduceAdd]; omega)) only [↓rD, rU, ev, ofConst, ofCell, ↓reduceIte, Nat.reduceEqDiff, Nat.reduceAdd, Nat.reduceSub, Nat.reduceMul, Nat.reduceLeDiff, Nat.reduceLT, Int.reduceNeg, Int.reduceToNat, Int.reduceAdd, Int.reduceSub, Int.reduceMul, Int.reduceLT, Int.reduceLE, Int.reduceEq, rX, dg_cells, dg_fold, List.drop_succ_cons]
      exact ⟨s3, Hp.sub_refl, o3, q3, rfl⟩

/-- for places that there are -/
theorem Path_spec (l : List (List UInt8)) (i : Nat) (o : Own) (s : Hp) (hle : l.length ≤ 1099511627776) (hi : i < l.length) (hd : Digs l) :
    AC Tryz.prog 63 [.sl (l.map dg) o, .v (.int .i64 i)] s fun r s' => ∃ o', Owned s s' 32 ((pathD l i).map dg) o' ∧ r = .tup [.sl ((pathD l i).map dg) o', .v (.int .i64 0)] := by
  refine AC_run hm prep63 (by simp) ?_
  have c1 : ¬ (i : Int) < 0 := by omega
  have c2 : ¬ ((l.length : Nat) : Int) ≤ (i : Int) := by omega
  simp (dsimp := false) (implicitDefEqProofs := false) (maxSteps := 1000000) (disch := first | omega | assumption | (simp only [rL, Nat.reduceAdd]; done) | (simp only [rL, Nat.reduceAdd]; omega)) only [↓rD, rU, ev, ofConst, ofCell, ↓reduceIte, Nat.reduceEqDiff, Nat.reduceAdd, Nat.reduceSub, Nat.reduceMul, Nat.reduceLeDiff, Nat.reduceLT, Int.reduceNeg, Int.reduceToNat, Int.reduceAdd, Int.reduceSub, Int.reduceMul, Int.reduceLT, Int.reduceLE, Int.reduceEq, rX, dg_cells, dg_fold, List.drop_succ_cons, c1, c2]
  refine call_intro (path_spec _ l i o _ rfl (by omega) hle hi hd) ?_
  rintro _ s1 ⟨o1, q1, rfl⟩
  simp (dsimp := false) (implicitDefEqProofs := false) (maxSteps := 1000000) (disch := first | omega | assumption | (simp only [rL, Nat.reduceAdd]; done) | (simp only [rL, Nat.reduceAdd]; omega)) only [↓rD, rU, ev, ofConst, ofCell, ↓reduceIte, Nat.reduceEqDiff, Nat.reduceAdd, Nat.reduceSub, Nat.reduceMul, Nat.reduceLeDiff, Nat.reduceLT, Int.reduceNeg, Int.reduceToNat, Int.reduceAdd, Int.reduceSub, Int.reduceMul, Int.reduceLT, Int.reduceLE, Int.reduceEq, rX, dg_cells, dg_fold, List.drop_succ_cons]
  exact ⟨s1, Hp.sub_refl, o1, q1, rfl⟩
end Go.Proofs.YtnnjjmiahcnbaaaGreat
/-
  The rest of a growth.
-/
set_option maxRecDepth 100000
namespace Go.Proofs.YtnnjjmiahcnbaaaGreat
open Go Go.Av

def restD (l : List (List UInt8)) (m : Nat) (own : Bool) : List (List UInt8) :=
  if h : l.length < 2 ∨ m = l.length then (if own = true then [] else [rootD l])
  else if m ≤ half l.length then restD (l.take (half l.length)) m own ++ [rootD (l.drop (half l.length))]
  else restD (l.drop (half l.length)) (m - half l.length) false ++ [rootD (l.take (half l.length))]
termination_by l.length
decreasing_by
  · have := half_lt l.length (by omega); simp; omega
  · have := half_pos l.length; simp; omega
theorem restD_own {l : List (List UInt8)} {m : Nat} (h : m = l.length) : restD l m true = [] := by rw [restD, dif_pos (.inr h)]; rfl
theorem restD_all {l : List (List UInt8)} {m : Nat} (h : m = l.length) : restD l m false = [rootD l] := by rw [restD, dif_pos (.inr h)]; rfl
theorem restD_left {l : List (List UInt8)} {m : Nat} {own : Bool} (h : ¬ (l.length < 2 ∨ m = l.length)) (hi : m ≤ half l.length) : restD l m own = restD (l.take (half l.length)) m own ++ [rootD (l.drop (half l.length))] := by rw [restD, dif_neg h, if_pos hi]
theorem restD_right {l : List (List UInt8)} {m : Nat} {own : Bool} (h : ¬ (l.length < 2 ∨ m = l.length)) (hi : ¬ m ≤ half l.length) : restD l m own = restD (l.drop (half l.length)) (m - half l.length) false ++ [rootD (l.take (half l.length))] := by rw [restD, dif_neg h, if_neg hi]
theorem restD_ok : ∀ (N : Nat) (l : List (List UInt8)) (m : Nat) (own : Bool), l.length = N → Digs (restD l m own) ∧ (restD l m own).length ≤ l.length + 1 := by
  intro N
  induction N using Nat.strongRecOn with
  | _ N ih =>
  intro l m own hN
  by_cases h : l.length < 2 ∨ m = l.length
  · rw [restD, dif_pos h]
    cases own
    · exact ⟨fun d hd => by simp at hd; subst hd; exact rootD_length _, by simp⟩
    · exact ⟨fun d hd => by simp at hd, by simp⟩
  · have hlt := half_lt l.length (by omega)
    have hpos := half_pos l.length
    by_cases hi : m ≤ half l.length
    · rw [restD_left h hi]
      obtain ⟨a, b⟩ := ih (half l.length) (by omega) (l.take (half l.length)) m own (by simp; omega)
      refine ⟨fun d hd => ?_, by simp at b ⊢; omega⟩
      rcases List.mem_append.1 hd with hd | hd
      · exact a d hd
      · simp at hd; subst hd; exact rootD_length _
    · rw [restD_right h hi]
      obtain ⟨a, b⟩ := ih (l.length - half l.length) (by omega) (l.drop (half l.length)) (m - half l.length) false (by simp)
      refine ⟨fun d hd => ?_, by simp at b ⊢; omega⟩
      rcases List.mem_append.1 hd with hd | hd
      · exact a d hd
      · simp at hd; subst hd; exact rootD_length _

end Go.Proofs.YtnnjjmiahcnbaaaGreat
set_option maxRecDepth 100000
set_option maxHeartbeats 1000000
namespace Go.Proofs.YtnnjjmiahcnbaaaGreat
open Go Go.Av

structure BF where
  x : List UInt8
  y : List UInt8
  ds : List (List UInt8)
  ts : List (List UInt8)
  lk : Bool

def bothF (a : List UInt8) (m n : Nat) (own : Bool) (ds : List (List UInt8)) : BF :=
  if h : m = n ∧ own = true then ⟨a, a, ds, [], false⟩
  else if h2 : (takeF ds false).2.2 = true ∨ m = n ∨ n < 2 then ⟨(takeF ds false).1, (takeF ds false).1, (takeF ds false).2.1, [], (takeF ds false).2.2⟩
  else if m ≤ half n then
    let u := bothF a m (half n) own (takeF ds false).2.1
    ⟨u.x, sha256 (nodeB u.y (takeF ds false).1), u.ds, u.ts ++ [nodeB u.y (takeF ds false).1], u.lk⟩
  else
    let u := bothF a (m - half n) (n - half n) false (takeF ds false).2.1
    ⟨sha256 (nodeB (takeF ds false).1 u.x), sha256 (nodeB (takeF ds false).1 u.y), u.ds, u.ts ++ [nodeB (takeF ds false).1 u.x, nodeB (takeF ds false).1 u.y], u.lk⟩
termination_by n
decreasing_by
  · exact half_lt n (by omega)
  · have := half_pos n; omega

theorem bothF_own {a : List UInt8} {n : Nat} {ds : List (List UInt8)} : bothF a n n true ds = ⟨a, a, ds, [], false⟩ := by rw [bothF, dif_pos ⟨rfl, rfl⟩]
theorem bothF_end {a : List UInt8} {m n : Nat} {own : Bool} {ds d1 : List (List UInt8)} {other : List UInt8} {lk : Bool} (h : ¬ (m = n ∧ own = true)) (ht : takeF ds false = (other, d1, lk)) (h2 : lk = true ∨ m = n) : bothF a m n own ds = ⟨other, other, d1, [], lk⟩ := by
  rw [bothF, dif_neg h, ht, dif_pos (by rcases h2 with h2 | h2; exact .inl h2; exact .inr (.inl h2))]
theorem bothF_left {a : List UInt8} {m n : Nat} {own : Bool} {ds d1 : List (List UInt8)} {other : List UInt8} (h : m ≠ n) (hn : 2 ≤ n) (ht : takeF ds false = (other, d1, false)) (hk : m ≤ half n) :
    bothF a m n own ds = ⟨(bothF a m (half n) own d1).x, sha256 (nodeB (bothF a m (half n) own d1).y other), (bothF a m (half n) own d1).ds, (bothF a m (half n) own d1).ts ++ [nodeB (bothF a m (half n) own d1).y other], (bothF a m (half n) own d1).lk⟩ := by
  conv => lhs; rw [bothF, dif_neg (fun hh => h hh.1), ht, dif_neg (by simp; omega), if_pos hk]
theorem bothF_right {a : List UInt8} {m n : Nat} {own : Bool} {ds d1 : List (List UInt8)} {other : List UInt8} (h : m ≠ n) (hn : 2 ≤ n) (ht : takeF ds false = (other, d1, false)) (hk : ¬ m ≤ half n) :
    bothF a m n own ds = ⟨sha256 (nodeB other (bothF a (m - half n) (n - half n) false d1).x), sha256 (nodeB other (bothF a (m - half n) (n - half n) false d1).y), (bothF a (m - half n) (n - half n) false d1).ds,
      (bothF a (m - half n) (n - half n) false d1).ts ++ [nodeB other (bothF a (m - half n) (n - half n) false d1).x, nodeB other (bothF a (m - half n) (n - half n) false d1).y], (bothF a (m - half n) (n - half n) false d1).lk⟩ := by
  conv => lhs; rw [bothF, dif_neg (fun hh => h hh.1), ht, dif_neg (by simp; omega), if_neg hk]

theorem bothF_ok : ∀ (N : Nat) (a : List UInt8) (m n : Nat) (own : Bool) (ds : List (List UInt8)), n = N → 1 ≤ m → m ≤ n → a.length = 32 → Digs ds →
    (bothF a m n own ds).x.length = 32 ∧ (bothF a m n own ds).y.length = 32 ∧ Digs (bothF a m n own ds).ds ∧ (bothF a m n own ds).ds.length ≤ ds.length ∧ (bothF a m n own ds).ts.length + 2 * (bothF a m n own ds).ds.length ≤ 2 * ds.length := by
  intro N
  induction N using Nat.strongRecOn with
  | _ N ih =>
  intro a m n own ds hN h1 hmn ha hd
  obtain ⟨t1, t2, t3, t4⟩ := takeF_digs (lk := false) hd
  by_cases h : m = n ∧ own = true
  · obtain ⟨rfl, rfl⟩ := h
    rw [bothF_own]; exact ⟨ha, ha, hd, Nat.le_refl _, by simp⟩
  · generalize htk : takeF ds false = tk at *
    obtain ⟨other, d1, lk⟩ := tk
    simp only at t1 t2 t3 t4
    by_cases h2 : lk = true ∨ m = n
    · rw [bothF_end h htk h2]
      exact ⟨t1, t1, t2, t3, by simp; omega⟩
    · have hlk : lk = false := by cases lk <;> simp_all
      subst hlk
      have hmn' : m ≠ n := by omega
      have t5 := t4 rfl
      have hlt := half_lt n (by omega)
      have hpos := half_pos n
      by_cases hk : m ≤ half n
      · rw [bothF_left hmn' (by omega) htk hk]
        obtain ⟨u1, u2, u3, u4, u5⟩ := ih (half n) (by omega) a m (half n) own d1 rfl h1 hk ha t2
        exact ⟨u1, sha256_length _, u3, by simp only; omega, by simp only [List.length_append, List.length_cons, List.length_nil]; omega⟩
      · rw [bothF_right hmn' (by omega) htk hk]
        obtain ⟨u1, u2, u3, u4, u5⟩ := ih (n - half n) (by omega) a (m - half n) (n - half n) false d1 rfl (by omega) (by omega) ha t2
        exact ⟨sha256_length _, sha256_length _, u3, by simp only; omega, by simp only [List.length_append, List.length_cons, List.length_nil]; omega⟩

theorem both_spec : ∀ (N : Nat) (a : List UInt8) (m n : Nat) (own : Bool) (ds ts : List (List UInt8)) (s0 s : Hp) (l : Nat), n = N → 1 ≤ m → m ≤ n → n ≤ 1099511627776 → a.length = 32 → Digs ds → ts.length + 2 * ds.length ≤ 900000 → PS s0 l ds ts false s →
    AC Tryz.prog 50 [.ptr l 0, dg a, .v (.int .i64 m), .v (.int .i64 n), .v (.bool own)] s fun r s' => r = .tup [dg (bothF a m n own ds).x, dg (bothF a m n own ds).y] ∧ PS s0 l (bothF a m n own ds).ds (ts ++ (bothF a m n own ds).ts) (bothF a m n own ds).lk s' := by
  intro N
  induction N using Nat.strongRecOn with
  | _ N ih =>
  intro a m n own ds ts s0 s l hN h1 hmn hn ha hd hts h
  refine AC_run hm prep50 (by simp) ?_
  simp (dsimp := false) (implicitDefEqProofs := false) (maxSteps := 1000000) (disch := first | omega | assumption | (simp only [rL, Nat.reduceAdd]; done) | (simp only [rL, Nat.reduceAdd]; omega)) only [↓rD, rU, ev, ofConst, ofCell, ↓reduceIte, Nat.reduceEqDiff, Nat.reduceAdd, Nat.reduceSub, Nat.reduceMul, Nat.reduceLeDiff, Nat.reduceLT, Int.reduceNeg, Int.reduceToNat, Int.reduceAdd, Int.reduceSub, Int.reduceMul, Int.reduceLT, Int.reduceLE, Int.reduceEq, rX, dg_cells, dg_fold, List.drop_succ_cons, ha]
  refine newK_intro fun l6 n6 => ?_
  obtain ⟨d6, e6, h⟩ := h.new (ob := dc a) n6
  simp (dsimp := false) (implicitDefEqProofs := false) (maxSteps := 1000000) (disch := first | omega | assumption | (simp only [rL, Nat.reduceAdd]; done) | (simp only [rL, Nat.reduceAdd]; omega)) only [↓rD, rU, ev, ofConst, ofCell, ↓reduceIte, Nat.reduceEqDiff, Nat.reduceAdd, Nat.reduceSub, Nat.reduceMul, Nat.reduceLeDiff, Nat.reduceLT, Int.reduceNeg, Int.reduceToNat, Int.reduceAdd, Int.reduceSub, Int.reduceMul, Int.reduceLT, Int.reduceLE, Int.reduceEq, rX, dg_cells, dg_fold, List.drop_succ_cons, ha]
  refine newK_intro fun l10 n10 => ?_
  obtain ⟨d106, _⟩ := Hp.set_none n10
  obtain ⟨d10, e10, h⟩ := h.new (ob := zc) n10
  simp (dsimp := false) (implicitDefEqProofs := false) (maxSteps := 1000000) (disch := first | omega | assumption | (simp only [rL, Nat.reduceAdd]; done) | (simp only [rL, Nat.reduceAdd]; omega)) only [↓rD, rU, ev, ofConst, ofCell, ↓reduceIte, Nat.reduceEqDiff, Nat.reduceAdd, Nat.reduceSub, Nat.reduceMul, Nat.reduceLeDiff, Nat.reduceLT, Int.reduceNeg, Int.reduceToNat, Int.reduceAdd, Int.reduceSub, Int.reduceMul, Int.reduceLT, Int.reduceLE, Int.reduceEq, rX, dg_cells, dg_fold, List.drop_succ_cons]
  refine newK_intro fun l11 n11 => ?_
  obtain ⟨d1110, n11'⟩ := Hp.set_none n11
  obtain ⟨d116, _⟩ := Hp.set_none n11'
  obtain ⟨d11, e11, h⟩ := h.new (ob := zc) n11
  have hbase : s0.sub (((s0.set l6 (dc a)).set l10 zc).set l11 zc) := Hp.sub_new (Hp.sub_new (Hp.sub_new Hp.sub_refl e6) (Hp.set_none e10).2) (Hp.set_none (Hp.set_none e11).2).2
  have e10' := (Hp.set_none e10).2
  have e11' := (Hp.set_none (Hp.set_none e11).2).2
  simp (dsimp := false) (implicitDefEqProofs := false) (maxSteps := 1000000) (disch := first | omega | assumption | (simp only [rL, Nat.reduceAdd]; done) | (simp only [rL, Nat.reduceAdd]; omega)) only [↓rD, rU, ev, ofConst, ofCell, ↓reduceIte, Nat.reduceEqDiff, Nat.reduceAdd, Nat.reduceSub, Nat.reduceMul, Nat.reduceLeDiff, Nat.reduceLT, Int.reduceNeg, Int.reduceToNat, Int.reduceAdd, Int.reduceSub, Int.reduceMul, Int.reduceLT, Int.reduceLE, Int.reduceEq, rX, dg_cells, dg_fold, List.drop_succ_cons]
  by_cases hown : m = n ∧ own = true
  · obtain ⟨rfl, rfl⟩ := hown
    simp (dsimp := false) (implicitDefEqProofs := false) (maxSteps := 1000000) (disch := first | omega | assumption | (simp only [rL, Nat.reduceAdd]; done) | (simp only [rL, Nat.reduceAdd]; omega)) only [↓rD, rU, ev, ofConst, ofCell, ↓reduceIte, Nat.reduceEqDiff, Nat.reduceAdd, Nat.reduceSub, Nat.reduceMul, Nat.reduceLeDiff, Nat.reduceLT, Int.reduceNeg, Int.reduceToNat, Int.reduceAdd, Int.reduceSub, Int.reduceMul, Int.reduceLT, Int.reduceLE, Int.reduceEq, rX, dg_cells, dg_fold, List.drop_succ_cons, d106, d116, d1110, Ne.symm d106, Ne.symm d116, Ne.symm d1110, ha]
    have h9 := (h.set (l2 := l10) (ob := dc a) (ob' := zc) d10 (by rw [Hp.set_ne _ _ (Ne.symm d1110)]; exact Hp.set_same _ _ _)).set (l2 := l11) (ob := dc a) (ob' := zc) d11 (by rw [Hp.set_ne _ _ d1110]; exact Hp.set_same _ _ _)
    simp only [Hp.set_in1 d1110, Hp.set_set] at h9
    refine ⟨_, Hp.sub_refl, ?_⟩
    rw [bothF_own]
    refine ⟨rfl, ?_⟩
    simp only [List.append_nil]
    exact h9.base (Hp.sub_new (Hp.sub_new (Hp.sub_new Hp.sub_refl e6) e10') e11')
  · obtain ⟨t1, t2, t3, t4⟩ := takeF_digs (lk := false) hd
    have htake := take_spec _ _ l ds ts false hd (by omega) h
    generalize htk : takeF ds false = tk at *
    obtain ⟨other, ds1, lk1⟩ := tk
    simp only at t1 t2 t3 t4 htake
    -- where the sum that was taken is told twice
    have fin : ∀ (s1 : Hp) (l12 : Nat) (lk : Bool), PS (((s0.set l6 (dc a)).set l10 zc).set l11 zc) l ds1 ts lk s1 → s1 l12 = none → bothF a m n own ds = ⟨other, other, ds1, [], lk⟩ →
        s1 l10 = some zc ∧ s1 l11 = some zc ∧ l12 ≠ l10 ∧ l12 ≠ l11 ∧ PS s0 l (bothF a m n own ds).ds (ts ++ (bothF a m n own ds).ts) (bothF a m n own ds).lk (((s1.set l12 (dc other)).set l10 (dc other)).set l11 (dc other)) := by
      intro s1 l12 lk h n12 hb
      have g10 : s1 l10 = some zc := h.get d10 (by rw [Hp.set_ne _ _ (Ne.symm d1110)]; exact Hp.set_same _ _ _)
      have g11 : s1 l11 = some zc := h.get d11 (Hp.set_same _ _ _)
      have d1210 : l12 ≠ l10 := by rintro rfl; rw [n12] at g10; cases g10
      have d1211 : l12 ≠ l11 := by rintro rfl; rw [n12] at g11; cases g11
      obtain ⟨d12, e12, h⟩ := h.new (ob := dc other) n12
      have e12' := (Hp.set_none (Hp.set_none (Hp.set_none e12).2).2).2
      have h9 := (h.set (l2 := l10) (ob := dc other) (ob' := zc) d10 (by rw [Hp.set_ne _ _ (Ne.symm d1210), Hp.set_ne _ _ (Ne.symm d1110)]; exact Hp.set_same _ _ _)).set (l2 := l11) (ob := dc other) (ob' := zc) d11 (by rw [Hp.set_ne _ _ d1110, Hp.set_ne _ _ (Ne.symm d1211)]; exact Hp.set_same _ _ _)
      rw [hb]
      simp only [List.append_nil]
      exact ⟨g10, g11, d1210, d1211, h9.base (Hp.sub_new (Hp.sub_new (Hp.sub_new hbase e12') e10') e11')⟩
    by_cases hmn2 : m = n
    · have hof : own = false := by cases own <;> simp_all
      subst hof
      subst hmn2
      simp (dsimp := false) (implicitDefEqProofs := false) (maxSteps := 1000000) (disch := first | omega | assumption | (simp only [rL, Nat.reduceAdd]; done) | (simp only [rL, Nat.reduceAdd]; omega)) only [↓rD, rU, ev, ofConst, ofCell, ↓reduceIte, Nat.reduceEqDiff, Nat.reduceAdd, Nat.reduceSub, Nat.reduceMul, Nat.reduceLeDiff, Nat.reduceLT, Int.reduceNeg, Int.reduceToNat, Int.reduceAdd, Int.reduceSub, Int.reduceMul, Int.reduceLT, Int.reduceLE, Int.reduceEq, rX, dg_cells, dg_fold, List.drop_succ_cons]
      refine call_intro htake ?_
      rintro _ s1 ⟨rfl, h⟩
      simp (dsimp := false) (implicitDefEqProofs := false) (maxSteps := 1000000) (disch := first | omega | assumption | (simp only [rL, Nat.reduceAdd]; done) | (simp only [rL, Nat.reduceAdd]; omega)) only [↓rD, rU, ev, ofConst, ofCell, ↓reduceIte, Nat.reduceEqDiff, Nat.reduceAdd, Nat.reduceSub, Nat.reduceMul, Nat.reduceLeDiff, Nat.reduceLT, Int.reduceNeg, Int.reduceToNat, Int.reduceAdd, Int.reduceSub, Int.reduceMul, Int.reduceLT, Int.reduceLE, Int.reduceEq, rX, dg_cells, dg_fold, List.drop_succ_cons, t1]
      refine newK_intro fun l12 n12 => ?_
      obtain ⟨g10, g11, d1210, d1211, hfin⟩ := fin s1 l12 lk1 h n12 (bothF_end hown htk (.inr rfl))
      obtain ⟨ra, rb, hr⟩ := h.read
      have d12 : l12 ≠ l := (h.new (ob := zc) n12).1
      unfold zc at g10 g11
      cases lk1
      · simp (dsimp := false) (implicitDefEqProofs := false) (maxSteps := 1000000) (disch := first | omega | assumption | (simp only [rL, Nat.reduceAdd]; done) | (simp only [rL, Nat.reduceAdd]; omega)) only [↓rD, rU, ev, ofConst, ofCell, ↓reduceIte, Nat.reduceEqDiff, Nat.reduceAdd, Nat.reduceSub, Nat.reduceMul, Nat.reduceLeDiff, Nat.reduceLT, Int.reduceNeg, Int.reduceToNat, Int.reduceAdd, Int.reduceSub, Int.reduceMul, Int.reduceLT, Int.reduceLE, Int.reduceEq, rX, dg_cells, dg_fold, List.drop_succ_cons, t1, Ne.symm d12, hr, Hp.stA_of g10, Hp.stA_of g11, Ne.symm d1210, Ne.symm d1211, d1210, d1211, d1110, Ne.symm d1110]
        exact ⟨_, Hp.sub_refl, by rw [bothF_end hown htk (.inr rfl)], hfin⟩
      · simp (dsimp := false) (implicitDefEqProofs := false) (maxSteps := 1000000) (disch := first | omega | assumption | (simp only [rL, Nat.reduceAdd]; done) | (simp only [rL, Nat.reduceAdd]; omega)) only [↓rD, rU, ev, ofConst, ofCell, ↓reduceIte, Nat.reduceEqDiff, Nat.reduceAdd, Nat.reduceSub, Nat.reduceMul, Nat.reduceLeDiff, Nat.reduceLT, Int.reduceNeg, Int.reduceToNat, Int.reduceAdd, Int.reduceSub, Int.reduceMul, Int.reduceLT, Int.reduceLE, Int.reduceEq, rX, dg_cells, dg_fold, List.drop_succ_cons, t1, Ne.symm d12, hr, Hp.stA_of g10, Hp.stA_of g11, Ne.symm d1210, Ne.symm d1211, d1210, d1211, d1110, Ne.symm d1110]
        exact ⟨_, Hp.sub_refl, by rw [bothF_end hown htk (.inr rfl)], hfin⟩
    · have hmn3 : ¬ (m : Int) = (n : Nat) := by omega
      simp (dsimp := false) (implicitDefEqProofs := false) (maxSteps := 1000000) (disch := first | omega | assumption | (simp only [rL, Nat.reduceAdd]; done) | (simp only [rL, Nat.reduceAdd]; omega)) only [↓rD, rU, ev, ofConst, ofCell, ↓reduceIte, Nat.reduceEqDiff, Nat.reduceAdd, Nat.reduceSub, Nat.reduceMul, Nat.reduceLeDiff, Nat.reduceLT, Int.reduceNeg, Int.reduceToNat, Int.reduceAdd, Int.reduceSub, Int.reduceMul, Int.reduceLT, Int.reduceLE, Int.reduceEq, rX, dg_cells, dg_fold, List.drop_succ_cons, hmn3]
      refine call_intro htake ?_
      rintro _ s1 ⟨rfl, h⟩
      simp (dsimp := false) (implicitDefEqProofs := false) (maxSteps := 1000000) (disch := first | omega | assumption | (simp only [rL, Nat.reduceAdd]; done) | (simp only [rL, Nat.reduceAdd]; omega)) only [↓rD, rU, ev, ofConst, ofCell, ↓reduceIte, Nat.reduceEqDiff, Nat.reduceAdd, Nat.reduceSub, Nat.reduceMul, Nat.reduceLeDiff, Nat.reduceLT, Int.reduceNeg, Int.reduceToNat, Int.reduceAdd, Int.reduceSub, Int.reduceMul, Int.reduceLT, Int.reduceLE, Int.reduceEq, rX, dg_cells, dg_fold, List.drop_succ_cons, t1]
      refine newK_intro fun l12 n12 => ?_
      obtain ⟨ra, rb, hr⟩ := h.read
      have d12 : l12 ≠ l := (h.new (ob := zc) n12).1
      cases lk1
      · simp (dsimp := false) (implicitDefEqProofs := false) (maxSteps := 1000000) (disch := first | omega | assumption | (simp only [rL, Nat.reduceAdd]; done) | (simp only [rL, Nat.reduceAdd]; omega)) only [↓rD, rU, ev, ofConst, ofCell, ↓reduceIte, Nat.reduceEqDiff, Nat.reduceAdd, Nat.reduceSub, Nat.reduceMul, Nat.reduceLeDiff, Nat.reduceLT, Int.reduceNeg, Int.reduceToNat, Int.reduceAdd, Int.reduceSub, Int.reduceMul, Int.reduceLT, Int.reduceLE, Int.reduceEq, rX, dg_cells, dg_fold, List.drop_succ_cons, t1, Ne.symm d12, hr, hmn3]
        refine call_intro (half_spec n (by omega) (by omega) _) ?_
        rintro _ _ ⟨rfl, rfl⟩
        have hlt := half_lt n (by omega)
        have hpos := half_pos n
        have t5 := t4 rfl
        have g6 : s1 l6 = some (dc a) := h.get d6 (by rw [Hp.set_ne _ _ (Ne.symm d116), Hp.set_ne _ _ (Ne.symm d106)]; exact Hp.set_same _ _ _)
        have d126 : l12 ≠ l6 := by rintro rfl; rw [n12] at g6; cases g6
        have g10 : s1 l10 = some zc := h.get d10 (by rw [Hp.set_ne _ _ (Ne.symm d1110)]; exact Hp.set_same _ _ _)
        have g11 : s1 l11 = some zc := h.get d11 (Hp.set_same _ _ _)
        have d1210 : l12 ≠ l10 := by rintro rfl; rw [n12] at g10; cases g10
        have d1211 : l12 ≠ l11 := by rintro rfl; rw [n12] at g11; cases g11
        obtain ⟨_, e12, h⟩ := h.new (ob := dc other) n12
        have e12' := (Hp.set_none (Hp.set_none (Hp.set_none e12).2).2).2
        have hb2 : s0.sub ((((s0.set l6 (dc a)).set l10 zc).set l11 zc).set l12 (dc other)) := Hp.sub_new hbase e12'
        unfold dc at g6
        by_cases hk : m ≤ half n
        · have hk' : (m : Int) ≤ (half n : Nat) := by omega
          simp (dsimp := false) (implicitDefEqProofs := false) (maxSteps := 1000000) (disch := first | omega | assumption | (simp only [rL, Nat.reduceAdd]; done) | (simp only [rL, Nat.reduceAdd]; omega)) only [↓rD, rU, ev, ofConst, ofCell, ↓reduceIte, Nat.reduceEqDiff, Nat.reduceAdd, Nat.reduceSub, Nat.reduceMul, Nat.reduceLeDiff, Nat.reduceLT, Int.reduceNeg, Int.reduceToNat, Int.reduceAdd, Int.reduceSub, Int.reduceMul, Int.reduceLT, Int.reduceLE, Int.reduceEq, rX, dg_cells, dg_fold, List.drop_succ_cons, hk', Hp.read_of g6, Ne.symm d126, ha]
          obtain ⟨u1, u2, u3, u4, u5⟩ := bothF_ok _ a m (half n) own ds1 rfl h1 hk ha t2
          refine call_intro (ih (half n) (by omega) a m (half n) own ds1 ts _ _ l rfl h1 hk (by omega) ha t2 (by omega) h) ?_
          rintro _ s2 ⟨rfl, h⟩
          have hu := bothF_left (a := a) (own := own) hmn2 (by omega) htk hk
          generalize bothF a m (half n) own ds1 = u at *
          obtain ⟨ux, uy, ud, ut, ul⟩ := u
          simp only at u1 u2 u3 u4 u5 h hu ⊢
          simp (dsimp := false) (implicitDefEqProofs := false) (maxSteps := 1000000) (disch := first | omega | assumption | (simp only [rL, Nat.reduceAdd]; done) | (simp only [rL, Nat.reduceAdd]; omega)) only [↓rD, rU, ev, ofConst, ofCell, ↓reduceIte, Nat.reduceEqDiff, Nat.reduceAdd, Nat.reduceSub, Nat.reduceMul, Nat.reduceLeDiff, Nat.reduceLT, Int.reduceNeg, Int.reduceToNat, Int.reduceAdd, Int.reduceSub, Int.reduceMul, Int.reduceLT, Int.reduceLE, Int.reduceEq, rX, dg_cells, dg_fold, List.drop_succ_cons, List.getElem?_cons_zero, List.getElem?_cons_succ]
          refine newK_intro fun lA nA => ?_
          have g10 : s2 l10 = some zc := h.get d10 (by rw [Hp.set_ne _ _ (Ne.symm d1210), Hp.set_ne _ _ (Ne.symm d1110)]; exact Hp.set_same _ _ _)
          have g11 : s2 l11 = some zc := h.get d11 (by rw [Hp.set_ne _ _ (Ne.symm d1211)]; exact Hp.set_same _ _ _)
          have g12 : s2 l12 = some (dc other) := h.get d12 (Hp.set_same _ _ _)
          have dA10 : lA ≠ l10 := by rintro rfl; rw [nA] at g10; cases g10
          have dA11 : lA ≠ l11 := by rintro rfl; rw [nA] at g11; cases g11
          have dA12 : lA ≠ l12 := by rintro rfl; rw [nA] at g12; cases g12
          obtain ⟨dA, eA, h⟩ := h.new (ob := dc ux) nA
          have eA' := Hp.sub_none hb2 eA
          simp (dsimp := false) (implicitDefEqProofs := false) (maxSteps := 1000000) (disch := first | omega | assumption | (simp only [rL, Nat.reduceAdd]; done) | (simp only [rL, Nat.reduceAdd]; omega)) only [↓rD, rU, ev, ofConst, ofCell, ↓reduceIte, Nat.reduceEqDiff, Nat.reduceAdd, Nat.reduceSub, Nat.reduceMul, Nat.reduceLeDiff, Nat.reduceLT, Int.reduceNeg, Int.reduceToNat, Int.reduceAdd, Int.reduceSub, Int.reduceMul, Int.reduceLT, Int.reduceLE, Int.reduceEq, rX, dg_cells, dg_fold, List.drop_succ_cons, u1, u2]
          refine newK_intro fun lB nB => ?_
          obtain ⟨dBA, nB'⟩ := Hp.set_none nB
          have dB10 : lB ≠ l10 := by rintro rfl; rw [nB'] at g10; cases g10
          have dB11 : lB ≠ l11 := by rintro rfl; rw [nB'] at g11; cases g11
          have dB12 : lB ≠ l12 := by rintro rfl; rw [nB'] at g12; cases g12
          have nB'' : (s2.set lA (dc ux)) lB = none := by rw [Hp.set_ne _ _ dBA]; exact nB'
          obtain ⟨dB, eB, h⟩ := h.new (ob := dc uy) nB''
          have eB' := Hp.sub_none hb2 (Hp.set_none eB).2
          have hb3 : s0.sub ((((((s0.set l6 (dc a)).set l10 zc).set l11 zc).set l12 (dc other)).set lA (dc ux)).set lB (dc uy)) := Hp.sub_new (Hp.sub_new hb2 eA') eB'
          unfold dc at g12
          simp (dsimp := false) (implicitDefEqProofs := false) (maxSteps := 1000000) (disch := first | omega | assumption | (simp only [rL, Nat.reduceAdd]; done) | (simp only [rL, Nat.reduceAdd]; omega)) only [↓rD, rU, ev, ofConst, ofCell, ↓reduceIte, Nat.reduceEqDiff, Nat.reduceAdd, Nat.reduceSub, Nat.reduceMul, Nat.reduceLeDiff, Nat.reduceLT, Int.reduceNeg, Int.reduceToNat, Int.reduceAdd, Int.reduceSub, Int.reduceMul, Int.reduceLT, Int.reduceLE, Int.reduceEq, rX, dg_cells, dg_fold, List.drop_succ_cons, u1, u2, dBA, Ne.symm dBA, Hp.read_of g12, Ne.symm dA12, Ne.symm dB12, t1]
          refine call_intro (node_spec uy other u2 t1 _) ?_
          rintro _ s3 ⟨o3, k3, rfl⟩
          obtain ⟨od, ot, tso, q1, q2⟩ := h
          have h : PS ((((((s0.set l6 (dc a)).set l10 zc).set l11 zc).set l12 (dc other)).set lA (dc ux)).set lB (dc uy)) l ud (ts ++ ut) ul s3 := ⟨od, ot, tso, q1, q2.mono k3.sub⟩
          have gA : s3 lA = some (dc ux) := h.get dA (by rw [Hp.set_ne _ _ (Ne.symm dBA)]; exact Hp.set_same _ _ _)
          unfold dc at gA
          simp (dsimp := false) (implicitDefEqProofs := false) (maxSteps := 1000000) (disch := first | omega | assumption | (simp only [rL, Nat.reduceAdd]; done) | (simp only [rL, Nat.reduceAdd]; omega)) only [↓rD, rU, ev, ofConst, ofCell, ↓reduceIte, Nat.reduceEqDiff, Nat.reduceAdd, Nat.reduceSub, Nat.reduceMul, Nat.reduceLeDiff, Nat.reduceLT, Int.reduceNeg, Int.reduceToNat, Int.reduceAdd, Int.reduceSub, Int.reduceMul, Int.reduceLT, Int.reduceLE, Int.reduceEq, rX, dg_cells, dg_fold, List.drop_succ_cons, u1, u2, Hp.read_of gA]
          refine call_intro (phash_spec _ s3 l ud (ts ++ ut) ul h (nodeB uy other) o3 (by rw [nodeB_length uy other u2 t1]; omega) (by simp only [List.length_append]; omega)) ?_
          rintro _ s4 ⟨rfl, h⟩
          have gA : s4 lA = some (dc ux) := h.get dA (by rw [Hp.set_ne _ _ (Ne.symm dBA)]; exact Hp.set_same _ _ _)
          have b10 : ((((((s0.set l6 (dc a)).set l10 zc).set l11 zc).set l12 (dc other)).set lA (dc ux)).set lB (dc uy)) l10 = some zc := by
            rw [Hp.set_ne _ _ (Ne.symm dB10), Hp.set_ne _ _ (Ne.symm dA10), Hp.set_ne _ _ (Ne.symm d1210), Hp.set_ne _ _ (Ne.symm d1110)]; exact Hp.set_same _ _ _
          have b11 : ((((((s0.set l6 (dc a)).set l10 zc).set l11 zc).set l12 (dc other)).set lA (dc ux)).set lB (dc uy)) l11 = some zc := by
            rw [Hp.set_ne _ _ (Ne.symm dB11), Hp.set_ne _ _ (Ne.symm dA11), Hp.set_ne _ _ (Ne.symm d1211)]; exact Hp.set_same _ _ _
          have g10 : s4 l10 = some zc := h.get d10 b10
          have g11 : s4 l11 = some zc := h.get d11 b11
          have hq := sha256_length (nodeB uy other)
          generalize hge : sha256 (nodeB uy other) = e at *
          unfold zc at g10 g11
          unfold dc at gA
          simp (dsimp := false) (implicitDefEqProofs := false) (maxSteps := 1000000) (disch := first | omega | assumption | (simp only [rL, Nat.reduceAdd]; done) | (simp only [rL, Nat.reduceAdd]; omega)) only [↓rD, rU, ev, ofConst, ofCell, ↓reduceIte, Nat.reduceEqDiff, Nat.reduceAdd, Nat.reduceSub, Nat.reduceMul, Nat.reduceLeDiff, Nat.reduceLT, Int.reduceNeg, Int.reduceToNat, Int.reduceAdd, Int.reduceSub, Int.reduceMul, Int.reduceLT, Int.reduceLE, Int.reduceEq, rX, dg_cells, dg_fold, List.drop_succ_cons, u1, u2, Hp.read_of gA, Hp.stA_of g10, Hp.stA_of g11, d1110, Ne.symm d1110, hq, Hp.read_of g10, Hp.read_of g11]
          have h9 := (h.set (l2 := l10) (ob := dc ux) (ob' := zc) d10 b10).set (l2 := l11) (ob := dc e) (ob' := zc) d11 (by rw [Hp.set_ne _ _ d1110]; exact b11)
          rw [List.append_assoc] at h9
          refine ⟨_, Hp.sub_refl, ?_⟩
          rw [hu]
          exact ⟨rfl, h9.base (Hp.sub_new (Hp.sub_new hb3 e10') e11')⟩
        · have hk' : ¬ (m : Int) ≤ (half n : Nat) := by omega
          have em : (m : Int) - (half n : Nat) = ((m - half n : Nat) : Int) := by omega
          have en : (n : Int) - (half n : Nat) = ((n - half n : Nat) : Int) := by omega
          simp (dsimp := false) (implicitDefEqProofs := false) (maxSteps := 1000000) (disch := first | omega | assumption | (simp only [rL, Nat.reduceAdd]; done) | (simp only [rL, Nat.reduceAdd]; omega)) only [↓rD, rU, ev, ofConst, ofCell, ↓reduceIte, Nat.reduceEqDiff, Nat.reduceAdd, Nat.reduceSub, Nat.reduceMul, Nat.reduceLeDiff, Nat.reduceLT, Int.reduceNeg, Int.reduceToNat, Int.reduceAdd, Int.reduceSub, Int.reduceMul, Int.reduceLT, Int.reduceLE, Int.reduceEq, rX, dg_cells, dg_fold, List.drop_succ_cons, hk', Hp.read_of g6, Ne.symm d126, ha, em, en]
          obtain ⟨u1, u2, u3, u4, u5⟩ := bothF_ok _ a (m - half n) (n - half n) false ds1 rfl (by omega) (by omega) ha t2
          refine call_intro (ih (n - half n) (by omega) a (m - half n) (n - half n) false ds1 ts _ _ l rfl (by omega) (by omega) (by omega) ha t2 (by omega) h) ?_
          rintro _ s2 ⟨rfl, h⟩
          have hu := bothF_right (a := a) (own := own) hmn2 (by omega) htk hk
          generalize bothF a (m - half n) (n - half n) false ds1 = u at *
          obtain ⟨ux, uy, ud, ut, ul⟩ := u
          simp only at u1 u2 u3 u4 u5 h hu ⊢
          simp (dsimp := false) (implicitDefEqProofs := false) (maxSteps := 1000000) (disch := first | omega | assumption | (simp only [rL, Nat.reduceAdd]; done) | (simp only [rL, Nat.reduceAdd]; omega)) only [↓rD, rU, ev, ofConst, ofCell, ↓reduceIte, Nat.reduceEqDiff, Nat.reduceAdd, Nat.reduceSub, Nat.reduceMul, Nat.reduceLeDiff, Nat.reduceLT, Int.reduceNeg, Int.reduceToNat, Int.reduceAdd, Int.reduceSub, Int.reduceMul, Int.reduceLT, Int.reduceLE, Int.reduceEq, rX, dg_cells, dg_fold, List.drop_succ_cons, List.getElem?_cons_zero, List.getElem?_cons_succ]
          refine newK_intro fun lA nA => ?_
          have g10 : s2 l10 = some zc := h.get d10 (by rw [Hp.set_ne _ _ (Ne.symm d1210), Hp.set_ne _ _ (Ne.symm d1110)]; exact Hp.set_same _ _ _)
          have g11 : s2 l11 = some zc := h.get d11 (by rw [Hp.set_ne _ _ (Ne.symm d1211)]; exact Hp.set_same _ _ _)
          have g12 : s2 l12 = some (dc other) := h.get d12 (Hp.set_same _ _ _)
          have dA10 : lA ≠ l10 := by rintro rfl; rw [nA] at g10; cases g10
          have dA11 : lA ≠ l11 := by rintro rfl; rw [nA] at g11; cases g11
          have dA12 : lA ≠ l12 := by rintro rfl; rw [nA] at g12; cases g12
          obtain ⟨dA, eA, h⟩ := h.new (ob := dc ux) nA
          have eA' := Hp.sub_none hb2 eA
          simp (dsimp := false) (implicitDefEqProofs := false) (maxSteps := 1000000) (disch := first | omega | assumption | (simp only [rL, Nat.reduceAdd]; done) | (simp only [rL, Nat.reduceAdd]; omega)) only [↓rD, rU, ev, ofConst, ofCell, ↓reduceIte, Nat.reduceEqDiff, Nat.reduceAdd, Nat.reduceSub, Nat.reduceMul, Nat.reduceLeDiff, Nat.reduceLT, Int.reduceNeg, Int.reduceToNat, Int.reduceAdd, Int.reduceSub, Int.reduceMul, Int.reduceLT, Int.reduceLE, Int.reduceEq, rX, dg_cells, dg_fold, List.drop_succ_cons, u1, u2]
          refine newK_intro fun lB nB => ?_
          obtain ⟨dBA, nB'⟩ := Hp.set_none nB
          have dB10 : lB ≠ l10 := by rintro rfl; rw [nB'] at g10; cases g10
          have dB11 : lB ≠ l11 := by rintro rfl; rw [nB'] at g11; cases g11
          have dB12 : lB ≠ l12 := by rintro rfl; rw [nB'] at g12; cases g12
          have nB'' : (s2.set lA (dc ux)) lB = none := by rw [Hp.set_ne _ _ dBA]; exact nB'
          obtain ⟨dB, eB, h⟩ := h.new (ob := dc uy) nB''
          have eB' := Hp.sub_none hb2 (Hp.set_none eB).2
          have hb3 : s0.sub ((((((s0.set l6 (dc a)).set l10 zc).set l11 zc).set l12 (dc other)).set lA (dc ux)).set lB (dc uy)) := Hp.sub_new (Hp.sub_new hb2 eA') eB'
          unfold dc at g12
          simp (dsimp := false) (implicitDefEqProofs := false) (maxSteps := 1000000) (disch := first | omega | assumption | (simp only [rL, Nat.reduceAdd]; done) | (simp only [rL, Nat.reduceAdd]; omega)) only [↓rD, rU, ev, ofConst, ofCell, ↓reduceIte, Nat.reduceEqDiff, Nat.reduceAdd, Nat.reduceSub, Nat.reduceMul, Nat.reduceLeDiff, Nat.reduceLT, Int.reduceNeg, Int.reduceToNat, Int.reduceAdd, Int.reduceSub, Int.reduceMul, Int.reduceLT, Int.reduceLE, Int.reduceEq, rX, dg_cells, dg_fold, List.drop_succ_cons, u1, u2, dBA, Ne.symm dBA, Hp.read_of g12, Ne.symm dA12, Ne.symm dB12, t1]
          refine call_intro (node_spec other ux t1 u1 _) ?_
          rintro _ s3 ⟨o3, k3, rfl⟩
          obtain ⟨od, ot, tso, q1, q2⟩ := h
          have h : PS ((((((s0.set l6 (dc a)).set l10 zc).set l11 zc).set l12 (dc other)).set lA (dc ux)).set lB (dc uy)) l ud (ts ++ ut) ul s3 := ⟨od, ot, tso, q1, q2.mono k3.sub⟩
          have b12 : ((((((s0.set l6 (dc a)).set l10 zc).set l11 zc).set l12 (dc other)).set lA (dc ux)).set lB (dc uy)) l12 = some (dc other) := by
            rw [Hp.set_ne _ _ (Ne.symm dB12), Hp.set_ne _ _ (Ne.symm dA12)]; exact Hp.set_same _ _ _
          have b10 : ((((((s0.set l6 (dc a)).set l10 zc).set l11 zc).set l12 (dc other)).set lA (dc ux)).set lB (dc uy)) l10 = some zc := by
            rw [Hp.set_ne _ _ (Ne.symm dB10), Hp.set_ne _ _ (Ne.symm dA10), Hp.set_ne _ _ (Ne.symm d1210), Hp.set_ne _ _ (Ne.symm d1110)]; exact Hp.set_same _ _ _
          have b11 : ((((((s0.set l6 (dc a)).set l10 zc).set l11 zc).set l12 (dc other)).set lA (dc ux)).set lB (dc uy)) l11 = some zc := by
            rw [Hp.set_ne _ _ (Ne.symm dB11), Hp.set_ne _ _ (Ne.symm dA11), Hp.set_ne _ _ (Ne.symm d1211)]; exact Hp.set_same _ _ _
          have gB : s3 lB = some (dc uy) := h.get dB (Hp.set_same _ _ _)
          have gC : s3 l12 = some (dc other) := h.get d12 b12
          unfold dc at gB gC
          simp (dsimp := false) (implicitDefEqProofs := false) (maxSteps := 1000000) (disch := first | omega | assumption | (simp only [rL, Nat.reduceAdd]; done) | (simp only [rL, Nat.reduceAdd]; omega)) only [↓rD, rU, ev, ofConst, ofCell, ↓reduceIte, Nat.reduceEqDiff, Nat.reduceAdd, Nat.reduceSub, Nat.reduceMul, Nat.reduceLeDiff, Nat.reduceLT, Int.reduceNeg, Int.reduceToNat, Int.reduceAdd, Int.reduceSub, Int.reduceMul, Int.reduceLT, Int.reduceLE, Int.reduceEq, rX, dg_cells, dg_fold, List.drop_succ_cons, u1, u2, t1, Hp.read_of gB, Hp.read_of gC]
          refine call_intro (phash_spec _ s3 l ud (ts ++ ut) ul h (nodeB other ux) o3 (by rw [nodeB_length other ux t1 u1]; omega) (by simp only [List.length_append]; omega)) ?_
          rintro _ s4 ⟨rfl, h⟩
          have gB : s4 lB = some (dc uy) := h.get dB (Hp.set_same _ _ _)
          have gC : s4 l12 = some (dc other) := h.get d12 b12
          have hq := sha256_length (nodeB other ux)
          generalize hge : sha256 (nodeB other ux) = e at *
          unfold dc at gB gC
          simp (dsimp := false) (implicitDefEqProofs := false) (maxSteps := 1000000) (disch := first | omega | assumption | (simp only [rL, Nat.reduceAdd]; done) | (simp only [rL, Nat.reduceAdd]; omega)) only [↓rD, rU, ev, ofConst, ofCell, ↓reduceIte, Nat.reduceEqDiff, Nat.reduceAdd, Nat.reduceSub, Nat.reduceMul, Nat.reduceLeDiff, Nat.reduceLT, Int.reduceNeg, Int.reduceToNat, Int.reduceAdd, Int.reduceSub, Int.reduceMul, Int.reduceLT, Int.reduceLE, Int.reduceEq, rX, dg_cells, dg_fold, List.drop_succ_cons, u1, u2, t1, Hp.read_of gB, Hp.read_of gC]
          refine call_intro (node_spec other uy t1 u2 _) ?_
          rintro _ s5 ⟨o5, k5, rfl⟩
          obtain ⟨od', ot', tso', q1', q2'⟩ := h
          have h : PS ((((((s0.set l6 (dc a)).set l10 zc).set l11 zc).set l12 (dc other)).set lA (dc ux)).set lB (dc uy)) l ud (ts ++ ut ++ [nodeB other ux]) ul s5 := ⟨od', ot', tso', q1', q2'.mono k5.sub⟩
          simp (dsimp := false) (implicitDefEqProofs := false) (maxSteps := 1000000) (disch := first | omega | assumption | (simp only [rL, Nat.reduceAdd]; done) | (simp only [rL, Nat.reduceAdd]; omega)) only [↓rD, rU, ev, ofConst, ofCell, ↓reduceIte, Nat.reduceEqDiff, Nat.reduceAdd, Nat.reduceSub, Nat.reduceMul, Nat.reduceLeDiff, Nat.reduceLT, Int.reduceNeg, Int.reduceToNat, Int.reduceAdd, Int.reduceSub, Int.reduceMul, Int.reduceLT, Int.reduceLE, Int.reduceEq, rX, dg_cells, dg_fold, List.drop_succ_cons]
          refine call_intro (phash_spec _ s5 l ud _ ul h (nodeB other uy) o5 (by rw [nodeB_length other uy t1 u2]; omega) (by simp only [List.length_append, List.length_cons, List.length_nil]; omega)) ?_
          rintro _ s6 ⟨rfl, h⟩
          have g10 : s6 l10 = some zc := h.get d10 b10
          have g11 : s6 l11 = some zc := h.get d11 b11
          have hq2 := sha256_length (nodeB other uy)
          generalize hge2 : sha256 (nodeB other uy) = e2 at *
          unfold zc at g10 g11
          simp (dsimp := false) (implicitDefEqProofs := false) (maxSteps := 1000000) (disch := first | omega | assumption | (simp only [rL, Nat.reduceAdd]; done) | (simp only [rL, Nat.reduceAdd]; omega)) only [↓rD, rU, ev, ofConst, ofCell, ↓reduceIte, Nat.reduceEqDiff, Nat.reduceAdd, Nat.reduceSub, Nat.reduceMul, Nat.reduceLeDiff, Nat.reduceLT, Int.reduceNeg, Int.reduceToNat, Int.reduceAdd, Int.reduceSub, Int.reduceMul, Int.reduceLT, Int.reduceLE, Int.reduceEq, rX, dg_cells, dg_fold, List.drop_succ_cons, u1, u2, Hp.stA_of g10, Hp.stA_of g11, d1110, Ne.symm d1110, hq, hq2, Hp.read_of g10, Hp.read_of g11]
          have h9 := (h.set (l2 := l10) (ob := dc e) (ob' := zc) d10 b10).set (l2 := l11) (ob := dc e2) (ob' := zc) d11 (by rw [Hp.set_ne _ _ d1110]; exact b11)
          rw [List.append_assoc, List.append_assoc] at h9
          refine ⟨_, Hp.sub_refl, ?_⟩
          rw [hu]
          exact ⟨rfl, h9.base (Hp.sub_new (Hp.sub_new hb3 e10') e11')⟩
      · obtain ⟨g10, g11, d1210, d1211, hfin⟩ := fin s1 l12 true h n12 (bothF_end hown htk (.inl rfl))
        unfold zc at g10 g11
        simp (dsimp := false) (implicitDefEqProofs := false) (maxSteps := 1000000) (disch := first | omega | assumption | (simp only [rL, Nat.reduceAdd]; done) | (simp only [rL, Nat.reduceAdd]; omega)) only [↓rD, rU, ev, ofConst, ofCell, ↓reduceIte, Nat.reduceEqDiff, Nat.reduceAdd, Nat.reduceSub, Nat.reduceMul, Nat.reduceLeDiff, Nat.reduceLT, Int.reduceNeg, Int.reduceToNat, Int.reduceAdd, Int.reduceSub, Int.reduceMul, Int.reduceLT, Int.reduceLE, Int.reduceEq, rX, dg_cells, dg_fold, List.drop_succ_cons, t1, Ne.symm d12, hr, Hp.stA_of g10, Hp.stA_of g11, Ne.symm d1210, Ne.symm d1211, d1210, d1211, d1110, Ne.symm d1110]
        exact ⟨_, Hp.sub_refl, by rw [bothF_end hown htk (.inl rfl)], hfin⟩
end Go.Proofs.YtnnjjmiahcnbaaaGreat
