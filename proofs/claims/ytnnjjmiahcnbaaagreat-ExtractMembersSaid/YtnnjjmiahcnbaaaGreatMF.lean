/- Merged by program from smaller texts; what is proved stands in the last text of the claim. -/
import Derived.Test.YtnnjjmiahcnbaaaGreatME
import Derived.Test.YtnnjjmiahcnbaaaGreatMD
import Derived.Shelf.Spec.SlicesGrow
import Derived.Test.YtnnjjmiahcnbaaaGreatProg
set_option linter.all false
/-
  block.IsName, areCols, Right.
-/
set_option maxRecDepth 100000
namespace Go.Proofs.YtnnjjmiahcnbaaaGreat
open Go Go.Av
def runeOk (i : Nat) (c : Int) : Bool := (decide (97 ≤ c) && decide (c ≤ 122)) || (!decide (i = 0) && ((decide (48 ≤ c) && decide (c ≤ 57)) || decide (c = 95)))
def nameGo (t : ByteArray) : Nat → Nat → Bool
  | 0, _ => true
  | n + 1, p => if p < t.size then runeOk p (Utf8.decode t p).1 && nameGo t n (p + (Utf8.decode t p).2) else true
def nameF (l : List UInt8) : Bool := nameGo ⟨l.toArray⟩ (l.length + 1) 0 && decide (1 ≤ l.length ∧ l.length ≤ 16)
theorem decode_step (l : List UInt8) (i : Nat) (h : i < l.length) : 1 ≤ (Utf8.decode ⟨l.toArray⟩ i).2 ∧ i + (Utf8.decode ⟨l.toArray⟩ i).2 ≤ l.length ∧ (Utf8.decode ⟨l.toArray⟩ i).1 ≤ 1114111 := by
  by_cases hb : l[i].toNat < 128
  · rw [decode_low l i h hb]; simp; omega
  · obtain ⟨_, h2, h3, h4, _⟩ := decode_high l i h (by omega)
    exact ⟨h3, h4, h2⟩
theorem lenTV {l : List UInt8} : lenTA (strV l) = some (.v (.int .i64 l.length)) := lenTA_str
theorem isname_spec (l : List UInt8) (hl : l.length ≤ 1000000) (s : Hp) :
    AC Tryz.prog 113 [strV l] s fun r s' => s' = s ∧ r = .v (.bool (nameF l)) := by
  refine AC_run hm prep113 (by simp) ?_
  have hr : ∀ (C : Nat → ByteArray → Prop) (d : Dep C), rngSK (strV l) s (hid2 C d) = newK s (hid1 (fun x => C x ⟨l.toArray⟩) ()) := fun C d => rngS_str
  simp (dsimp := false) (implicitDefEqProofs := false) (disch := first | omega | assumption | (simp only [rL, Nat.reduceAdd]; try omega)) only [↓rD, rU, ev, ofConst, ofCell, ↓reduceIte, Nat.reduceEqDiff, Nat.reduceAdd, Nat.reduceSub, Nat.reduceMul, Nat.reduceLeDiff, Nat.reduceLT, Int.reduceNeg, Int.reduceToNat, Int.reduceAdd, Int.reduceSub, Int.reduceMul, Int.reduceLT, Int.reduceLE, Int.reduceEq, rX, List.drop_succ_cons, ↓rF, rG, ne_eq, not_true_eq_false, not_false_eq_true, Int.reduceNe, List.getElem?_cons_zero, List.getElem?_cons_succ, ↓rK, rM, hr]
  refine newK_intro fun l7 n7 => ?_
  simp (dsimp := false) (implicitDefEqProofs := false) (disch := first | omega | assumption | (simp only [rL, Nat.reduceAdd]; try omega)) only [↓rD, rU, ev, ofConst, ofCell, ↓reduceIte, Nat.reduceEqDiff, Nat.reduceAdd, Nat.reduceSub, Nat.reduceMul, Nat.reduceLeDiff, Nat.reduceLT, Int.reduceNeg, Int.reduceToNat, Int.reduceAdd, Int.reduceSub, Int.reduceMul, Int.reduceLT, Int.reduceLE, Int.reduceEq, rX, List.drop_succ_cons, ↓rF, rG, ne_eq, not_true_eq_false, not_false_eq_true, Int.reduceNe, List.getElem?_cons_zero, List.getElem?_cons_succ, ↓rK, rM]
  refine loop_intro (fun f s' => ∃ n p : Nat, p ≤ l.length ∧ l.length < n + p ∧ nameGo ⟨l.toArray⟩ n p = nameGo ⟨l.toArray⟩ (l.length + 1) 0 ∧ s.sub s' ∧ s' l7 = some (.it ⟨l.toArray⟩ p) ∧ f 0 = strV l ∧ f 7 = .ptr l7 0)
    (fun _ s' => match s' l7 with | some (.it _ p) => l.length - p | _ => 0) ⟨l.length + 1, 0, by omega, by omega, rfl, Hp.sub_new Hp.sub_refl n7, Hp.set_same _ _ _, ?_⟩ ?_
  · simp (dsimp := false) (implicitDefEqProofs := false) (disch := first | omega | assumption | (simp only [rL, Nat.reduceAdd]; try omega)) only [↓rD, rU, ev, ofConst, ofCell, ↓reduceIte, Nat.reduceEqDiff, Nat.reduceAdd, Nat.reduceSub, Nat.reduceMul, Nat.reduceLeDiff, Nat.reduceLT, Int.reduceNeg, Int.reduceToNat, Int.reduceAdd, Int.reduceSub, Int.reduceMul, Int.reduceLT, Int.reduceLE, Int.reduceEq, rX, List.drop_succ_cons, ↓rF, rG, ne_eq, not_true_eq_false, not_false_eq_true, Int.reduceNe, List.getElem?_cons_zero, List.getElem?_cons_succ, ↓rK, rM]
  · rintro f s' ⟨n, p, hp, hn, he, hs, hi, f0, f7⟩
    simp (dsimp := false) (implicitDefEqProofs := false) (disch := first | omega | assumption | (simp only [rL, Nat.reduceAdd]; try omega)) only [↓rD, rU, ev, ofConst, ofCell, ↓reduceIte, Nat.reduceEqDiff, Nat.reduceAdd, Nat.reduceSub, Nat.reduceMul, Nat.reduceLeDiff, Nat.reduceLT, Int.reduceNeg, Int.reduceToNat, Int.reduceAdd, Int.reduceSub, Int.reduceMul, Int.reduceLT, Int.reduceLE, Int.reduceEq, rX, List.drop_succ_cons, ↓rF, rG, ne_eq, not_true_eq_false, not_false_eq_true, Int.reduceNe, List.getElem?_cons_zero, List.getElem?_cons_succ, ↓rK, rM, f7]
    by_cases hlt : p < l.length
    · obtain ⟨n, rfl⟩ : ∃ m, n = m + 1 := ⟨n - 1, by omega⟩
      obtain ⟨w1, w2, w3⟩ := decode_step l p hlt
      have hsz : (⟨l.toArray⟩ : ByteArray).size = l.length := size_str l
      rw [nameGo, if_pos (by rw [hsz]; exact hlt)] at he
      refine nxtS_some hi hlt ?_
      generalize (Utf8.decode ⟨l.toArray⟩ p).1 = c at *
      generalize (Utf8.decode ⟨l.toArray⟩ p).2 = w at *
      have hbad (hb : runeOk p c = false) : nameF l = false := by
        rw [hb, Bool.false_and] at he
        rw [nameF, ← he]; rfl
      have hgo (hb : runeOk p c = true) : (∃ n_1 p_1 : Nat, p_1 ≤ l.length ∧ l.length < n_1 + p_1 ∧ nameGo ⟨l.toArray⟩ n_1 p_1 = nameGo ⟨l.toArray⟩ (l.length + 1) 0 ∧ s.sub (s'.set l7 (.it ⟨l.toArray⟩ (p + w))) ∧ (s'.set l7 (.it ⟨l.toArray⟩ (p + w))) l7 = some (.it ⟨l.toArray⟩ p_1)) := by
        rw [hb, Bool.true_and] at he
        exact ⟨n, p + w, w2, by omega, he, Hp.sub_new hs n7, Hp.set_same _ _ _⟩
      have hp0 : ((p : Int) = 0) = (p = 0) := by simp
      have hm0 : (match s' l7 with | some (.it _ p) => l.length - p | _ => 0) = l.length - p := by rw [hi]
      have hm1 : (match (s'.set l7 (.it ⟨l.toArray⟩ (p + w))) l7 with | some (.it _ p) => l.length - p | _ => 0) = l.length - (p + w) := by rw [Hp.set_same]
      have hmm : l.length - (p + w) < l.length - p := by omega
      by_cases a1 : (97 : Int) ≤ (c : Int)
      · by_cases a2 : (c : Int) ≤ 122
        · have hb : runeOk p c = true := by simp [runeOk, a1, a2]
          simp (dsimp := false) (implicitDefEqProofs := false) (disch := first | omega | assumption | (simp only [rL, Nat.reduceAdd]; try omega)) only [↓rD, rU, ev, ofConst, ofCell, ↓reduceIte, Nat.reduceEqDiff, Nat.reduceAdd, Nat.reduceSub, Nat.reduceMul, Nat.reduceLeDiff, Nat.reduceLT, Int.reduceNeg, Int.reduceToNat, Int.reduceAdd, Int.reduceSub, Int.reduceMul, Int.reduceLT, Int.reduceLE, Int.reduceEq, rX, List.drop_succ_cons, ↓rF, rG, ne_eq, not_true_eq_false, not_false_eq_true, Int.reduceNe, List.getElem?_cons_zero, List.getElem?_cons_succ, ↓rK, rM, f0, f7, a1, a2]
          exact ⟨hgo hb, by rw [hm0, hm1]; exact hmm⟩
        · by_cases a0 : (p : Int) = 0
          · have hb : runeOk p c = false := by simp [runeOk, a1, a2]; omega
            simp (dsimp := false) (implicitDefEqProofs := false) (disch := first | omega | assumption | (simp only [rL, Nat.reduceAdd]; try omega)) only [↓rD, rU, ev, ofConst, ofCell, ↓reduceIte, Nat.reduceEqDiff, Nat.reduceAdd, Nat.reduceSub, Nat.reduceMul, Nat.reduceLeDiff, Nat.reduceLT, Int.reduceNeg, Int.reduceToNat, Int.reduceAdd, Int.reduceSub, Int.reduceMul, Int.reduceLT, Int.reduceLE, Int.reduceEq, rX, List.drop_succ_cons, ↓rF, rG, ne_eq, not_true_eq_false, not_false_eq_true, Int.reduceNe, List.getElem?_cons_zero, List.getElem?_cons_succ, ↓rK, rM, f0, f7, a1, a2, a0]
            exact ⟨s, Hp.sub_new hs n7, rfl, by rw [hbad hb]⟩
          · have hb : runeOk p c = false := by simp [runeOk, a1, a2]; omega
            have a3 : ¬ (c : Int) < 48 := by omega
            have a4 : (57 : Int) < c := by omega
            have a5 : ¬ (c : Int) = 95 := by omega
            simp (dsimp := false) (implicitDefEqProofs := false) (disch := first | omega | assumption | (simp only [rL, Nat.reduceAdd]; try omega)) only [↓rD, rU, ev, ofConst, ofCell, ↓reduceIte, Nat.reduceEqDiff, Nat.reduceAdd, Nat.reduceSub, Nat.reduceMul, Nat.reduceLeDiff, Nat.reduceLT, Int.reduceNeg, Int.reduceToNat, Int.reduceAdd, Int.reduceSub, Int.reduceMul, Int.reduceLT, Int.reduceLE, Int.reduceEq, rX, List.drop_succ_cons, ↓rF, rG, ne_eq, not_true_eq_false, not_false_eq_true, Int.reduceNe, List.getElem?_cons_zero, List.getElem?_cons_succ, ↓rK, rM, f0, f7, a1, a2, a0, a3, a4, a5]
            exact ⟨s, Hp.sub_new hs n7, rfl, by rw [hbad hb]⟩
      · by_cases a0 : (p : Int) = 0
        · have hb : runeOk p c = false := by simp [runeOk, a1]; omega
          simp (dsimp := false) (implicitDefEqProofs := false) (disch := first | omega | assumption | (simp only [rL, Nat.reduceAdd]; try omega)) only [↓rD, rU, ev, ofConst, ofCell, ↓reduceIte, Nat.reduceEqDiff, Nat.reduceAdd, Nat.reduceSub, Nat.reduceMul, Nat.reduceLeDiff, Nat.reduceLT, Int.reduceNeg, Int.reduceToNat, Int.reduceAdd, Int.reduceSub, Int.reduceMul, Int.reduceLT, Int.reduceLE, Int.reduceEq, rX, List.drop_succ_cons, ↓rF, rG, ne_eq, not_true_eq_false, not_false_eq_true, Int.reduceNe, List.getElem?_cons_zero, List.getElem?_cons_succ, ↓rK, rM, f0, f7, a1, a0]
          exact ⟨s, Hp.sub_new hs n7, rfl, by rw [hbad hb]⟩
        · have hp0 : ¬ p = 0 := by omega
          by_cases a3 : (c : Int) < 48
          · have hb : runeOk p c = false := by simp [runeOk, a1]; omega
            have a5 : ¬ (c : Int) = 95 := by omega
            simp (dsimp := false) (implicitDefEqProofs := false) (disch := first | omega | assumption | (simp only [rL, Nat.reduceAdd]; try omega)) only [↓rD, rU, ev, ofConst, ofCell, ↓reduceIte, Nat.reduceEqDiff, Nat.reduceAdd, Nat.reduceSub, Nat.reduceMul, Nat.reduceLeDiff, Nat.reduceLT, Int.reduceNeg, Int.reduceToNat, Int.reduceAdd, Int.reduceSub, Int.reduceMul, Int.reduceLT, Int.reduceLE, Int.reduceEq, rX, List.drop_succ_cons, ↓rF, rG, ne_eq, not_true_eq_false, not_false_eq_true, Int.reduceNe, List.getElem?_cons_zero, List.getElem?_cons_succ, ↓rK, rM, f0, f7, a1, a0, a3, a5]
            exact ⟨s, Hp.sub_new hs n7, rfl, by rw [hbad hb]⟩
          · by_cases a4 : (57 : Int) < c
            · by_cases a5 : (c : Int) = 95
              · have hb : runeOk p c = true := by simp [runeOk, a1, a5, hp0]
                simp (dsimp := false) (implicitDefEqProofs := false) (disch := first | omega | assumption | (simp only [rL, Nat.reduceAdd]; try omega)) only [↓rD, rU, ev, ofConst, ofCell, ↓reduceIte, Nat.reduceEqDiff, Nat.reduceAdd, Nat.reduceSub, Nat.reduceMul, Nat.reduceLeDiff, Nat.reduceLT, Int.reduceNeg, Int.reduceToNat, Int.reduceAdd, Int.reduceSub, Int.reduceMul, Int.reduceLT, Int.reduceLE, Int.reduceEq, rX, List.drop_succ_cons, ↓rF, rG, ne_eq, not_true_eq_false, not_false_eq_true, Int.reduceNe, List.getElem?_cons_zero, List.getElem?_cons_succ, ↓rK, rM, f0, f7, a1, a0, a3, a4, a5]
                exact ⟨hgo hb, by rw [hm0, hm1]; exact hmm⟩
              · have hb : runeOk p c = false := by simp [runeOk, a1, a5]; omega
                simp (dsimp := false) (implicitDefEqProofs := false) (disch := first | omega | assumption | (simp only [rL, Nat.reduceAdd]; try omega)) only [↓rD, rU, ev, ofConst, ofCell, ↓reduceIte, Nat.reduceEqDiff, Nat.reduceAdd, Nat.reduceSub, Nat.reduceMul, Nat.reduceLeDiff, Nat.reduceLT, Int.reduceNeg, Int.reduceToNat, Int.reduceAdd, Int.reduceSub, Int.reduceMul, Int.reduceLT, Int.reduceLE, Int.reduceEq, rX, List.drop_succ_cons, ↓rF, rG, ne_eq, not_true_eq_false, not_false_eq_true, Int.reduceNe, List.getElem?_cons_zero, List.getElem?_cons_succ, ↓rK, rM, f0, f7, a1, a0, a3, a4, a5]
                exact ⟨s, Hp.sub_new hs n7, rfl, by rw [hbad hb]⟩
            · have hb : runeOk p c = true := by simp [runeOk, a1, hp0]; omega
              simp (dsimp := false) (implicitDefEqProofs := false) (disch := first | omega | assumption | (simp only [rL, Nat.reduceAdd]; try omega)) only [↓rD, rU, ev, ofConst, ofCell, ↓reduceIte, Nat.reduceEqDiff, Nat.reduceAdd, Nat.reduceSub, Nat.reduceMul, Nat.reduceLeDiff, Nat.reduceLT, Int.reduceNeg, Int.reduceToNat, Int.reduceAdd, Int.reduceSub, Int.reduceMul, Int.reduceLT, Int.reduceLE, Int.reduceEq, rX, List.drop_succ_cons, ↓rF, rG, ne_eq, not_true_eq_false, not_false_eq_true, Int.reduceNe, List.getElem?_cons_zero, List.getElem?_cons_succ, ↓rK, rM, f0, f7, a1, a0, a3, a4]
              exact ⟨hgo hb, by rw [hm0, hm1]; exact hmm⟩
    · have hF : nameF l = decide (1 ≤ l.length ∧ l.length ≤ 16) := by
        have : nameGo ⟨l.toArray⟩ n p = true := by
          cases n with
          | zero => rfl
          | succ n => rw [nameGo, if_neg (by rw [size_str]; exact hlt)]
        rw [nameF, ← he, this, Bool.true_and]
      refine nxtS_none hi hlt ?_
      by_cases d1 : (1 : Int) ≤ l.length
      · by_cases d2 : (l.length : Int) ≤ 16
        · simp (dsimp := false) (implicitDefEqProofs := false) (disch := first | omega | assumption | (simp only [rL, Nat.reduceAdd]; try omega)) only [↓rD, rU, ev, ofConst, ofCell, ↓reduceIte, Nat.reduceEqDiff, Nat.reduceAdd, Nat.reduceSub, Nat.reduceMul, Nat.reduceLeDiff, Nat.reduceLT, Int.reduceNeg, Int.reduceToNat, Int.reduceAdd, Int.reduceSub, Int.reduceMul, Int.reduceLT, Int.reduceLE, Int.reduceEq, rX, List.drop_succ_cons, ↓rF, rG, ne_eq, not_true_eq_false, not_false_eq_true, Int.reduceNe, List.getElem?_cons_zero, List.getElem?_cons_succ, ↓rK, rM, f0, f7, lenTV, d1, d2]
          exact ⟨s, hs, rfl, by rw [hF]; simp; omega⟩
        · simp (dsimp := false) (implicitDefEqProofs := false) (disch := first | omega | assumption | (simp only [rL, Nat.reduceAdd]; try omega)) only [↓rD, rU, ev, ofConst, ofCell, ↓reduceIte, Nat.reduceEqDiff, Nat.reduceAdd, Nat.reduceSub, Nat.reduceMul, Nat.reduceLeDiff, Nat.reduceLT, Int.reduceNeg, Int.reduceToNat, Int.reduceAdd, Int.reduceSub, Int.reduceMul, Int.reduceLT, Int.reduceLE, Int.reduceEq, rX, List.drop_succ_cons, ↓rF, rG, ne_eq, not_true_eq_false, not_false_eq_true, Int.reduceNe, List.getElem?_cons_zero, List.getElem?_cons_succ, ↓rK, rM, f0, f7, lenTV, d1, d2]
          exact ⟨s, hs, rfl, by rw [hF]; simp; omega⟩
      · simp (dsimp := false) (implicitDefEqProofs := false) (disch := first | omega | assumption | (simp only [rL, Nat.reduceAdd]; try omega)) only [↓rD, rU, ev, ofConst, ofCell, ↓reduceIte, Nat.reduceEqDiff, Nat.reduceAdd, Nat.reduceSub, Nat.reduceMul, Nat.reduceLeDiff, Nat.reduceLT, Int.reduceNeg, Int.reduceToNat, Int.reduceAdd, Int.reduceSub, Int.reduceMul, Int.reduceLT, Int.reduceLE, Int.reduceEq, rX, List.drop_succ_cons, ↓rF, rG, ne_eq, not_true_eq_false, not_false_eq_true, Int.reduceNe, List.getElem?_cons_zero, List.getElem?_cons_succ, ↓rK, rM, f0, f7, lenTV, d1]
        exact ⟨s, hs, rfl, by rw [hF]; simp; omega⟩
def SV (xs : List (List UInt8)) : List AV := xs.map strV
theorem SV_length {xs : List (List UInt8)} : (SV xs).length = xs.length := by simp [SV]
theorem SV_get {xs : List (List UInt8)} {i : Nat} (h : i < xs.length) : (SV xs)[i]? = some (strV (xs.getD i [])) := by simp [SV, h, List.getD]
theorem elA_strV {l : List UInt8} : elA 1 (some (strV l)) = some (.rptr [strV l]) := rfl
theorem sindex_spec (xs : List (List UInt8)) (o : Own) (t : List UInt8) (hx : xs.length ≤ 1000000) (s : Hp) :
    AC Tryz.prog 139 [.sl (SV xs) o, strV t] s fun r s' => s' = s ∧ ∃ n : Int, r = .v (.int .i64 n) ∧ decide (0 ≤ n) = decide (t ∈ xs) := by
  refine AC_run hm prep139 (by simp) ?_
  have hv := SV_length (xs := xs)
  simp (dsimp := false) (implicitDefEqProofs := false) (disch := first | omega | assumption | (simp only [rL, Nat.reduceAdd]; try omega)) only [↓rA, rZ, List.drop_succ_cons, ne_eq, not_true_eq_false, not_false_eq_true, List.getElem?_cons_zero, List.getElem?_cons_succ, ev, ofConst, ofCell, ↓reduceIte, Nat.reduceEqDiff, Nat.reduceAdd, Nat.reduceSub, Nat.reduceMul, Nat.reduceLeDiff, Nat.reduceLT, Int.reduceNeg, Int.reduceToNat, Int.reduceAdd, Int.reduceSub, Int.reduceMul, Int.reduceLT, Int.reduceLE, Int.reduceEq, Int.reduceNe, hv]
  refine loop_intro (fun f s' => ∃ j : Nat, j ≤ xs.length ∧ s' = s ∧ t ∉ xs.take j ∧ f 0 = .sl (SV xs) o ∧ f 1 = strV t ∧ f 7 = .v (.int .i64 xs.length) ∧ f 8 = .v (.int .i64 j))
    (fun f _ => match f 8 with | .v (.int _ n) => (xs.length - n).toNat | _ => 0) ⟨0, by omega, rfl, by simp, ?_⟩ ?_
  · simp (dsimp := false) (implicitDefEqProofs := false) (disch := first | omega | assumption | (simp only [rL, Nat.reduceAdd]; try omega)) only [↓rA, rZ, List.drop_succ_cons, ne_eq, not_true_eq_false, not_false_eq_true, List.getElem?_cons_zero, List.getElem?_cons_succ, ev, ofConst, ofCell, ↓reduceIte, Nat.reduceEqDiff, Nat.reduceAdd, Nat.reduceSub, Nat.reduceMul, Nat.reduceLeDiff, Nat.reduceLT, Int.reduceNeg, Int.reduceToNat, Int.reduceAdd, Int.reduceSub, Int.reduceMul, Int.reduceLT, Int.reduceLE, Int.reduceEq, Int.reduceNe]
  · rintro f s ⟨j, hj, rfl, hno, f0, f1, f7, f8⟩
    by_cases hlt : (j : Int) < xs.length
    · have hj' : j < xs.length := by omega
      have hel := SV_get hj'
      have hmem : xs.getD j [] ∈ xs := by simp [List.getD, hj']
      have htk : xs.take (j + 1) = xs.take j ++ [xs.getD j []] := by rw [List.take_succ, List.getElem?_eq_getElem hj']; simp [List.getD, hj']
      generalize xs.getD j [] = u at *
      by_cases htu : t = u
      · simp (dsimp := false) (implicitDefEqProofs := false) (disch := first | omega | assumption | (simp only [rL, Nat.reduceAdd]; try omega)) only [↓rA, rZ, List.drop_succ_cons, ne_eq, not_true_eq_false, not_false_eq_true, List.getElem?_cons_zero, List.getElem?_cons_succ, ev, ofConst, ofCell, ↓reduceIte, Nat.reduceEqDiff, Nat.reduceAdd, Nat.reduceSub, Nat.reduceMul, Nat.reduceLeDiff, Nat.reduceLT, Int.reduceNeg, Int.reduceToNat, Int.reduceAdd, Int.reduceSub, Int.reduceMul, Int.reduceLT, Int.reduceLE, Int.reduceEq, Int.reduceNe, f0, f1, f7, f8, hlt, iaSA_sl, hel, elA_strV, htu]
        refine ⟨s, Hp.sub_refl, rfl, j, rfl, ?_⟩
        simp [hmem]
      · simp (dsimp := false) (implicitDefEqProofs := false) (disch := first | omega | assumption | (simp only [rL, Nat.reduceAdd]; try omega)) only [↓rA, rZ, List.drop_succ_cons, ne_eq, not_true_eq_false, not_false_eq_true, List.getElem?_cons_zero, List.getElem?_cons_succ, ev, ofConst, ofCell, ↓reduceIte, Nat.reduceEqDiff, Nat.reduceAdd, Nat.reduceSub, Nat.reduceMul, Nat.reduceLeDiff, Nat.reduceLT, Int.reduceNeg, Int.reduceToNat, Int.reduceAdd, Int.reduceSub, Int.reduceMul, Int.reduceLT, Int.reduceLE, Int.reduceEq, Int.reduceNe, f0, f1, f7, f8, hlt, iaSA_sl, hel, elA_strV, htu]
        exact ⟨⟨j + 1, by omega, by rw [htk]; simp [hno, htu], rfl⟩, by omega⟩
    · obtain rfl : j = xs.length := by omega
      simp (dsimp := false) (implicitDefEqProofs := false) (disch := first | omega | assumption | (simp only [rL, Nat.reduceAdd]; try omega)) only [↓rA, rZ, List.drop_succ_cons, ne_eq, not_true_eq_false, not_false_eq_true, List.getElem?_cons_zero, List.getElem?_cons_succ, ev, ofConst, ofCell, ↓reduceIte, Nat.reduceEqDiff, Nat.reduceAdd, Nat.reduceSub, Nat.reduceMul, Nat.reduceLeDiff, Nat.reduceLT, Int.reduceNeg, Int.reduceToNat, Int.reduceAdd, Int.reduceSub, Int.reduceMul, Int.reduceLT, Int.reduceLE, Int.reduceEq, Int.reduceNe, f0, f1, f7, f8, hlt]
      refine ⟨s, Hp.sub_refl, rfl, -1, rfl, ?_⟩
      rw [List.take_length] at hno
      simp [hno]
theorem scontains_spec (xs : List (List UInt8)) (o : Own) (t : List UInt8) (hx : xs.length ≤ 1000000) (s : Hp) :
    AC Tryz.prog 130 [.sl (SV xs) o, strV t] s fun r s' => s' = s ∧ r = .v (.bool (decide (t ∈ xs))) := by
  refine AC_run hm prep130 (by simp) ?_
  simp (dsimp := false) (implicitDefEqProofs := false) (disch := first | omega | assumption | (simp only [rL, Nat.reduceAdd]; try omega)) only [↓rA, rZ, List.drop_succ_cons, ne_eq, not_true_eq_false, not_false_eq_true, List.getElem?_cons_zero, List.getElem?_cons_succ, ev, ofConst, ofCell, ↓reduceIte, Nat.reduceEqDiff, Nat.reduceAdd, Nat.reduceSub, Nat.reduceMul, Nat.reduceLeDiff, Nat.reduceLT, Int.reduceNeg, Int.reduceToNat, Int.reduceAdd, Int.reduceSub, Int.reduceMul, Int.reduceLT, Int.reduceLE, Int.reduceEq, Int.reduceNe]
  refine call_intro (sindex_spec xs o t hx s) ?_
  rintro _ s ⟨rfl, n, rfl, hn⟩
  simp (dsimp := false) (implicitDefEqProofs := false) (disch := first | omega | assumption | (simp only [rL, Nat.reduceAdd]; try omega)) only [↓rA, rZ, List.drop_succ_cons, ne_eq, not_true_eq_false, not_false_eq_true, List.getElem?_cons_zero, List.getElem?_cons_succ, ev, ofConst, ofCell, ↓reduceIte, Nat.reduceEqDiff, Nat.reduceAdd, Nat.reduceSub, Nat.reduceMul, Nat.reduceLeDiff, Nat.reduceLT, Int.reduceNeg, Int.reduceToNat, Int.reduceAdd, Int.reduceSub, Int.reduceMul, Int.reduceLT, Int.reduceLE, Int.reduceEq, Int.reduceNe, hn]
  exact ⟨s, Hp.sub_refl, rfl⟩
def colOk (l : List (List UInt8)) (i : Nat) : Bool := nameF (l.getD i []) && (!decide (l.getD i [] = [105, 100]) && !decide (l.getD i [] ∈ l.take i))
def colsF (l : List (List UInt8)) : Bool := (List.range l.length).all (colOk l) && decide (1 ≤ l.length ∧ l.length ≤ 7)
theorem cols_bad {l : List (List UInt8)} {i : Nat} (hi : i < l.length) (h : colOk l i = false) : colsF l = false := by
  rw [colsF, Bool.and_eq_false_iff]
  refine .inl ?_
  rw [List.all_eq_false]
  exact ⟨i, by simpa using hi, by simp [h]⟩
theorem cols_good {l : List (List UInt8)} (h : ∀ i, i < l.length → colOk l i = true) : colsF l = decide (1 ≤ l.length ∧ l.length ≤ 7) := by
  have : (List.range l.length).all (colOk l) = true := by rw [List.all_eq_true]; intro i hi; exact h i (by simpa using hi)
  rw [colsF, this, Bool.true_and]
theorem arecols_spec (xs : List (List UInt8)) (o : Own) (hx : xs.length ≤ 1000000) (hb : ∀ x ∈ xs, x.length ≤ 1000000) (s : Hp) :
    AC Tryz.prog 114 [.sl (SV xs) o] s fun r s' => s' = s ∧ r = .v (.bool (colsF xs)) := by
  refine AC_run hm prep114 (by simp) ?_
  have hv := SV_length (xs := xs)
  simp (dsimp := false) (implicitDefEqProofs := false) (disch := first | omega | assumption | (simp only [rL, Nat.reduceAdd]; try omega)) only [↓rA, rZ, List.drop_succ_cons, ne_eq, not_true_eq_false, not_false_eq_true, List.getElem?_cons_zero, List.getElem?_cons_succ, ev, ofConst, ofCell, ↓reduceIte, Nat.reduceEqDiff, Nat.reduceAdd, Nat.reduceSub, Nat.reduceMul, Nat.reduceLeDiff, Nat.reduceLT, Int.reduceNeg, Int.reduceToNat, Int.reduceAdd, Int.reduceSub, Int.reduceMul, Int.reduceLT, Int.reduceLE, Int.reduceEq, Int.reduceNe, hv]
  refine loop_intro (fun f s' => ∃ j : Nat, j ≤ xs.length ∧ s' = s ∧ (∀ i, i < j → colOk xs i = true) ∧ f 0 = .sl (SV xs) o ∧ f 5 = .sl (SV xs) o ∧ f 6 = .v (.int .i64 xs.length) ∧ f 7 = .v (.int .i64 j))
    (fun f _ => match f 7 with | .v (.int _ n) => (xs.length - n).toNat | _ => 0) ⟨0, by omega, rfl, fun i hi => by omega, ?_⟩ ?_
  · simp (dsimp := false) (implicitDefEqProofs := false) (disch := first | omega | assumption | (simp only [rL, Nat.reduceAdd]; try omega)) only [↓rA, rZ, List.drop_succ_cons, ne_eq, not_true_eq_false, not_false_eq_true, List.getElem?_cons_zero, List.getElem?_cons_succ, ev, ofConst, ofCell, ↓reduceIte, Nat.reduceEqDiff, Nat.reduceAdd, Nat.reduceSub, Nat.reduceMul, Nat.reduceLeDiff, Nat.reduceLT, Int.reduceNeg, Int.reduceToNat, Int.reduceAdd, Int.reduceSub, Int.reduceMul, Int.reduceLT, Int.reduceLE, Int.reduceEq, Int.reduceNe]
  · rintro f s ⟨j, hj, rfl, hall, f0, f5, f6, f7⟩
    by_cases hlt : (j : Int) < xs.length
    · have hj' : j < xs.length := by omega
      have hel := SV_get hj'
      have hmem : xs.getD j [] ∈ xs := by simp [List.getD, hj']
      have hco : colOk xs j = (nameF (xs.getD j []) && (!decide (xs.getD j [] = [105, 100]) && !decide (xs.getD j [] ∈ xs.take j))) := rfl
      generalize xs.getD j [] = u at *
      simp (dsimp := false) (implicitDefEqProofs := false) (disch := first | omega | assumption | (simp only [rL, Nat.reduceAdd]; try omega)) only [↓rA, rZ, List.drop_succ_cons, ne_eq, not_true_eq_false, not_false_eq_true, List.getElem?_cons_zero, List.getElem?_cons_succ, ev, ofConst, ofCell, ↓reduceIte, Nat.reduceEqDiff, Nat.reduceAdd, Nat.reduceSub, Nat.reduceMul, Nat.reduceLeDiff, Nat.reduceLT, Int.reduceNeg, Int.reduceToNat, Int.reduceAdd, Int.reduceSub, Int.reduceMul, Int.reduceLT, Int.reduceLE, Int.reduceEq, Int.reduceNe, f0, f5, f6, f7, hlt, iaSA_sl, hel, elA_strV]
      refine call_intro (isname_spec u (hb u hmem) s) ?_
      rintro _ s ⟨rfl, rfl⟩
      cases hn : nameF u
      · simp (dsimp := false) (implicitDefEqProofs := false) (disch := first | omega | assumption | (simp only [rL, Nat.reduceAdd]; try omega)) only [↓rA, rZ, List.drop_succ_cons, ne_eq, not_true_eq_false, not_false_eq_true, List.getElem?_cons_zero, List.getElem?_cons_succ, ev, ofConst, ofCell, ↓reduceIte, Nat.reduceEqDiff, Nat.reduceAdd, Nat.reduceSub, Nat.reduceMul, Nat.reduceLeDiff, Nat.reduceLT, Int.reduceNeg, Int.reduceToNat, Int.reduceAdd, Int.reduceSub, Int.reduceMul, Int.reduceLT, Int.reduceLE, Int.reduceEq, Int.reduceNe, f0, f5, f6, f7]
        exact ⟨s, Hp.sub_refl, rfl, by rw [cols_bad hj' (by rw [hco, hn]; rfl)]⟩
      · have hst : (SV xs).take j = SV (xs.take j) := by simp [SV, List.map_take]
        by_cases hid : u = [105, 100]
        · have he : binA .eql (strV u) (.v (.string ⟨#[105, 100]⟩)) = some (.v (.bool true)) := by
            have := binA_eqlS (a := u) (b := [105, 100]); rw [decide_eq_true hid] at this; exact this
          simp (dsimp := false) (implicitDefEqProofs := false) (disch := first | omega | assumption | (simp only [rL, Nat.reduceAdd]; try omega)) only [↓rA, rZ, List.drop_succ_cons, ne_eq, not_true_eq_false, not_false_eq_true, List.getElem?_cons_zero, List.getElem?_cons_succ, ev, ofConst, ofCell, ↓reduceIte, Nat.reduceEqDiff, Nat.reduceAdd, Nat.reduceSub, Nat.reduceMul, Nat.reduceLeDiff, Nat.reduceLT, Int.reduceNeg, Int.reduceToNat, Int.reduceAdd, Int.reduceSub, Int.reduceMul, Int.reduceLT, Int.reduceLE, Int.reduceEq, Int.reduceNe, f0, f5, f6, f7, he]
          exact ⟨s, Hp.sub_refl, rfl, by rw [cols_bad hj' (by rw [hco, hn, decide_eq_true hid]; rfl)]⟩
        · have he : binA .eql (strV u) (.v (.string ⟨#[105, 100]⟩)) = some (.v (.bool false)) := by
            have := binA_eqlS (a := u) (b := [105, 100]); rw [decide_eq_false hid] at this; exact this
          have hsl : slcAA 1 (.sl (SV xs) o) none (some (.v (.int .i64 (j : Int)))) = some (.sl (SV (xs.take j)) .any) := by
            rw [slcAA_hi (by omega) (by rw [hv]; omega) (by simp [allLen, SV, strV, AV.cells]), Int.toNat_natCast, hst]
          simp (dsimp := false) (implicitDefEqProofs := false) (disch := first | omega | assumption | (simp only [rL, Nat.reduceAdd]; try omega)) only [↓rA, rZ, List.drop_succ_cons, ne_eq, not_true_eq_false, not_false_eq_true, List.getElem?_cons_zero, List.getElem?_cons_succ, ev, ofConst, ofCell, ↓reduceIte, Nat.reduceEqDiff, Nat.reduceAdd, Nat.reduceSub, Nat.reduceMul, Nat.reduceLeDiff, Nat.reduceLT, Int.reduceNeg, Int.reduceToNat, Int.reduceAdd, Int.reduceSub, Int.reduceMul, Int.reduceLT, Int.reduceLE, Int.reduceEq, Int.reduceNe, f0, f5, f6, f7, he, hsl]
          refine call_intro (scontains_spec (xs.take j) _ u (by rw [List.length_take]; omega) s) ?_
          rintro _ s ⟨rfl, rfl⟩
          by_cases hin : u ∈ xs.take j
          · simp (dsimp := false) (implicitDefEqProofs := false) (disch := first | omega | assumption | (simp only [rL, Nat.reduceAdd]; try omega)) only [↓rA, rZ, List.drop_succ_cons, ne_eq, not_true_eq_false, not_false_eq_true, List.getElem?_cons_zero, List.getElem?_cons_succ, ev, ofConst, ofCell, ↓reduceIte, Nat.reduceEqDiff, Nat.reduceAdd, Nat.reduceSub, Nat.reduceMul, Nat.reduceLeDiff, Nat.reduceLT, Int.reduceNeg, Int.reduceToNat, Int.reduceAdd, Int.reduceSub, Int.reduceMul, Int.reduceLT, Int.reduceLE, Int.reduceEq, Int.reduceNe, f0, f5, f6, f7, hin]
            exact ⟨s, Hp.sub_refl, rfl, by rw [cols_bad hj' (by rw [hco, hn, decide_eq_false hid, decide_eq_true hin]; rfl)]⟩
          · simp (dsimp := false) (implicitDefEqProofs := false) (disch := first | omega | assumption | (simp only [rL, Nat.reduceAdd]; try omega)) only [↓rA, rZ, List.drop_succ_cons, ne_eq, not_true_eq_false, not_false_eq_true, List.getElem?_cons_zero, List.getElem?_cons_succ, ev, ofConst, ofCell, ↓reduceIte, Nat.reduceEqDiff, Nat.reduceAdd, Nat.reduceSub, Nat.reduceMul, Nat.reduceLeDiff, Nat.reduceLT, Int.reduceNeg, Int.reduceToNat, Int.reduceAdd, Int.reduceSub, Int.reduceMul, Int.reduceLT, Int.reduceLE, Int.reduceEq, Int.reduceNe, f0, f5, f6, f7, hin]
            refine ⟨⟨j + 1, by omega, fun i hi => ?_, by simp⟩, by omega⟩
            rcases (by omega : i < j ∨ i = j) with h | rfl
            · exact hall i h
            · rw [hco, hn, decide_eq_false hid, decide_eq_false hin]; rfl
    · obtain rfl : j = xs.length := by omega
      have hc := cols_good hall
      by_cases d1 : (1 : Int) ≤ xs.length
      · by_cases d2 : (xs.length : Int) ≤ 7
        · simp (dsimp := false) (implicitDefEqProofs := false) (disch := first | omega | assumption | (simp only [rL, Nat.reduceAdd]; try omega)) only [↓rA, rZ, List.drop_succ_cons, ne_eq, not_true_eq_false, not_false_eq_true, List.getElem?_cons_zero, List.getElem?_cons_succ, ev, ofConst, ofCell, ↓reduceIte, Nat.reduceEqDiff, Nat.reduceAdd, Nat.reduceSub, Nat.reduceMul, Nat.reduceLeDiff, Nat.reduceLT, Int.reduceNeg, Int.reduceToNat, Int.reduceAdd, Int.reduceSub, Int.reduceMul, Int.reduceLT, Int.reduceLE, Int.reduceEq, Int.reduceNe, f0, f5, f6, f7, hlt, hv, d1, d2]
          exact ⟨s, Hp.sub_refl, rfl, by rw [hc]; simp; omega⟩
        · simp (dsimp := false) (implicitDefEqProofs := false) (disch := first | omega | assumption | (simp only [rL, Nat.reduceAdd]; try omega)) only [↓rA, rZ, List.drop_succ_cons, ne_eq, not_true_eq_false, not_false_eq_true, List.getElem?_cons_zero, List.getElem?_cons_succ, ev, ofConst, ofCell, ↓reduceIte, Nat.reduceEqDiff, Nat.reduceAdd, Nat.reduceSub, Nat.reduceMul, Nat.reduceLeDiff, Nat.reduceLT, Int.reduceNeg, Int.reduceToNat, Int.reduceAdd, Int.reduceSub, Int.reduceMul, Int.reduceLT, Int.reduceLE, Int.reduceEq, Int.reduceNe, f0, f5, f6, f7, hlt, hv, d1, d2]
          exact ⟨s, Hp.sub_refl, rfl, by rw [hc]; simp; omega⟩
      · simp (dsimp := false) (implicitDefEqProofs := false) (disch := first | omega | assumption | (simp only [rL, Nat.reduceAdd]; try omega)) only [↓rA, rZ, List.drop_succ_cons, ne_eq, not_true_eq_false, not_false_eq_true, List.getElem?_cons_zero, List.getElem?_cons_succ, ev, ofConst, ofCell, ↓reduceIte, Nat.reduceEqDiff, Nat.reduceAdd, Nat.reduceSub, Nat.reduceMul, Nat.reduceLeDiff, Nat.reduceLT, Int.reduceNeg, Int.reduceToNat, Int.reduceAdd, Int.reduceSub, Int.reduceMul, Int.reduceLT, Int.reduceLE, Int.reduceEq, Int.reduceNe, f0, f5, f6, f7, hlt, hv, d1]
        exact ⟨s, Hp.sub_refl, rfl, by rw [hc]; simp; omega⟩
structure OpD where
  kind : UInt8
  table : List UInt8
  cols : List (List UInt8)
  row : List Int
structure OpR where
  d : OpD
  oc : Own
  ow : Own
def OpR.C (o : OpR) : List AV := [byteAV o.d.kind, strV o.d.table, .sl (SV o.d.cols) o.oc, .sl (rowV o.d.row) o.ow]
def OpR.V (o : OpR) : AV := .agg o.C
theorem OpR.cells {o : OpR} : o.V.cells = o.C := rfl
theorem OpR.lenC {o : OpR} : o.C.length = 4 := rfl
theorem OpR.fold {o : OpR} : (.agg (o.C.take 4) : AV) = o.V := rfl
theorem OpR.m0 {o : OpR} : mkv false 1 o.C = .v (.int .u8 o.d.kind.toNat) := rfl
theorem OpR.m1 {o : OpR} : mkv false 1 (o.C.drop 1) = strV o.d.table := rfl
theorem OpR.m2 {o : OpR} : mkv false 1 (o.C.drop 2) = .sl (SV o.d.cols) o.oc := rfl
theorem OpR.m3 {o : OpR} : mkv false 1 (o.C.drop 3) = .sl (rowV o.d.row) o.ow := rfl
def OpD.ok (d : OpD) : Prop := d.table.length ≤ 16 ∧ d.cols.length ≤ 8 ∧ (∀ c ∈ d.cols, c.length ≤ 16) ∧ d.row.length ≤ 255
def rightF (d : OpD) : Bool := nameF d.table &&
  (if d.kind.toNat = 1 then colsF d.cols && decide (d.row.length = 0)
   else if d.kind.toNat = 2 then decide (d.cols.length = 0) && decide (d.row.length = 0)
   else if d.kind.toNat = 3 ∨ d.kind.toNat = 4 then decide (d.cols.length = 0) && (decide (2 ≤ d.row.length) && decide (d.row.length ≤ 8))
   else false)
theorem right_spec (o : OpR) (ho : o.d.ok) (s : Hp) :
    AC Tryz.prog 85 [o.V] s fun r s' => s' = s ∧ r = .v (.bool (rightF o.d)) := by
  refine AC_run hm prep85 (by simp) ?_
  have hc := OpR.cells (o := o)
  have hl := OpR.lenC (o := o)
  have m0 := OpR.m0 (o := o)
  have m1 := OpR.m1 (o := o)
  have m2 := OpR.m2 (o := o)
  have m3 := OpR.m3 (o := o)
  have v2 := SV_length (xs := o.d.cols)
  have v3 := rowV_length (r := o.d.row)
  obtain ⟨k1, k2, k3, k4⟩ := ho
  simp (dsimp := false) (implicitDefEqProofs := false) (disch := first | omega | assumption | (simp only [rL, Nat.reduceAdd]; try omega)) only [↓rA, rZ, List.drop_succ_cons, ne_eq, not_true_eq_false, not_false_eq_true, List.getElem?_cons_zero, List.getElem?_cons_succ, ev, ofConst, ofCell, ↓reduceIte, Nat.reduceEqDiff, Nat.reduceAdd, Nat.reduceSub, Nat.reduceMul, Nat.reduceLeDiff, Nat.reduceLT, Int.reduceNeg, Int.reduceToNat, Int.reduceAdd, Int.reduceSub, Int.reduceMul, Int.reduceLT, Int.reduceLE, Int.reduceEq, Int.reduceNe, hc, hl]
  refine newK_intro fun l1 n1 => ?_
  simp (dsimp := false) (implicitDefEqProofs := false) (disch := first | omega | assumption | (simp only [rL, Nat.reduceAdd]; try omega)) only [↓rA, rZ, List.drop_succ_cons, ne_eq, not_true_eq_false, not_false_eq_true, List.getElem?_cons_zero, List.getElem?_cons_succ, ev, ofConst, ofCell, ↓reduceIte, Nat.reduceEqDiff, Nat.reduceAdd, Nat.reduceSub, Nat.reduceMul, Nat.reduceLeDiff, Nat.reduceLT, Int.reduceNeg, Int.reduceToNat, Int.reduceAdd, Int.reduceSub, Int.reduceMul, Int.reduceLT, Int.reduceLE, Int.reduceEq, Int.reduceNe, hc, hl, m1]
  refine call_intro (isname_spec o.d.table (by omega) _) ?_
  rintro _ s1 ⟨rfl, rfl⟩
  have hR : rightF o.d = (nameF o.d.table && _) := rfl
  generalize nameF o.d.table = nm at *
  cases nm
  · simp (dsimp := false) (implicitDefEqProofs := false) (disch := first | omega | assumption | (simp only [rL, Nat.reduceAdd]; try omega)) only [↓rA, rZ, List.drop_succ_cons, ne_eq, not_true_eq_false, not_false_eq_true, List.getElem?_cons_zero, List.getElem?_cons_succ, ev, ofConst, ofCell, ↓reduceIte, Nat.reduceEqDiff, Nat.reduceAdd, Nat.reduceSub, Nat.reduceMul, Nat.reduceLeDiff, Nat.reduceLT, Int.reduceNeg, Int.reduceToNat, Int.reduceAdd, Int.reduceSub, Int.reduceMul, Int.reduceLT, Int.reduceLE, Int.reduceEq, Int.reduceNe, hc, hl]
    exact ⟨s, Hp.sub_new Hp.sub_refl n1, rfl, by rw [hR]; rfl⟩
  rw [Bool.true_and] at hR
  generalize o.d.kind.toNat = kd at *
  by_cases c1 : (kd : Int) = 1
  · have c1' : kd = 1 := by omega
    rw [if_pos c1'] at hR
    simp (dsimp := false) (implicitDefEqProofs := false) (disch := first | omega | assumption | (simp only [rL, Nat.reduceAdd]; try omega)) only [↓rA, rZ, List.drop_succ_cons, ne_eq, not_true_eq_false, not_false_eq_true, List.getElem?_cons_zero, List.getElem?_cons_succ, ev, ofConst, ofCell, ↓reduceIte, Nat.reduceEqDiff, Nat.reduceAdd, Nat.reduceSub, Nat.reduceMul, Nat.reduceLeDiff, Nat.reduceLT, Int.reduceNeg, Int.reduceToNat, Int.reduceAdd, Int.reduceSub, Int.reduceMul, Int.reduceLT, Int.reduceLE, Int.reduceEq, Int.reduceNe, hc, hl, m0, m2, c1]
    refine call_intro (arecols_spec o.d.cols o.oc (by omega) (fun x hx => by have := k3 x hx; omega) _) ?_
    rintro _ s1 ⟨rfl, rfl⟩
    generalize colsF o.d.cols = cf at *
    cases cf
    · simp (dsimp := false) (implicitDefEqProofs := false) (disch := first | omega | assumption | (simp only [rL, Nat.reduceAdd]; try omega)) only [↓rA, rZ, List.drop_succ_cons, ne_eq, not_true_eq_false, not_false_eq_true, List.getElem?_cons_zero, List.getElem?_cons_succ, ev, ofConst, ofCell, ↓reduceIte, Nat.reduceEqDiff, Nat.reduceAdd, Nat.reduceSub, Nat.reduceMul, Nat.reduceLeDiff, Nat.reduceLT, Int.reduceNeg, Int.reduceToNat, Int.reduceAdd, Int.reduceSub, Int.reduceMul, Int.reduceLT, Int.reduceLE, Int.reduceEq, Int.reduceNe, hc, hl, m3, v3]
      exact ⟨s, Hp.sub_new Hp.sub_refl n1, rfl, by rw [hR]; rfl⟩
    · by_cases e : (o.d.row.length : Int) = 0
      · simp (dsimp := false) (implicitDefEqProofs := false) (disch := first | omega | assumption | (simp only [rL, Nat.reduceAdd]; try omega)) only [↓rA, rZ, List.drop_succ_cons, ne_eq, not_true_eq_false, not_false_eq_true, List.getElem?_cons_zero, List.getElem?_cons_succ, ev, ofConst, ofCell, ↓reduceIte, Nat.reduceEqDiff, Nat.reduceAdd, Nat.reduceSub, Nat.reduceMul, Nat.reduceLeDiff, Nat.reduceLT, Int.reduceNeg, Int.reduceToNat, Int.reduceAdd, Int.reduceSub, Int.reduceMul, Int.reduceLT, Int.reduceLE, Int.reduceEq, Int.reduceNe, hc, hl, m3, v3, e]
        exact ⟨s, Hp.sub_new Hp.sub_refl n1, rfl, by rw [hR]; simp [-List.length_eq_zero_iff]; omega⟩
      · simp (dsimp := false) (implicitDefEqProofs := false) (disch := first | omega | assumption | (simp only [rL, Nat.reduceAdd]; try omega)) only [↓rA, rZ, List.drop_succ_cons, ne_eq, not_true_eq_false, not_false_eq_true, List.getElem?_cons_zero, List.getElem?_cons_succ, ev, ofConst, ofCell, ↓reduceIte, Nat.reduceEqDiff, Nat.reduceAdd, Nat.reduceSub, Nat.reduceMul, Nat.reduceLeDiff, Nat.reduceLT, Int.reduceNeg, Int.reduceToNat, Int.reduceAdd, Int.reduceSub, Int.reduceMul, Int.reduceLT, Int.reduceLE, Int.reduceEq, Int.reduceNe, hc, hl, m3, v3, e]
        exact ⟨s, Hp.sub_new Hp.sub_refl n1, rfl, by rw [hR]; simp [-List.length_eq_zero_iff]; omega⟩
  have c1' : ¬ kd = 1 := by omega
  rw [if_neg c1'] at hR
  by_cases c2 : (kd : Int) = 2
  · have c2' : kd = 2 := by omega
    rw [if_pos c2'] at hR
    by_cases e : (o.d.cols.length : Int) = 0
    · by_cases e2 : (o.d.row.length : Int) = 0
      · simp (dsimp := false) (implicitDefEqProofs := false) (disch := first | omega | assumption | (simp only [rL, Nat.reduceAdd]; try omega)) only [↓rA, rZ, List.drop_succ_cons, ne_eq, not_true_eq_false, not_false_eq_true, List.getElem?_cons_zero, List.getElem?_cons_succ, ev, ofConst, ofCell, ↓reduceIte, Nat.reduceEqDiff, Nat.reduceAdd, Nat.reduceSub, Nat.reduceMul, Nat.reduceLeDiff, Nat.reduceLT, Int.reduceNeg, Int.reduceToNat, Int.reduceAdd, Int.reduceSub, Int.reduceMul, Int.reduceLT, Int.reduceLE, Int.reduceEq, Int.reduceNe, hc, hl, m0, m2, m3, v2, v3, c1, c2, e, e2]
        exact ⟨s, Hp.sub_new Hp.sub_refl n1, rfl, by rw [hR]; simp [-List.length_eq_zero_iff]; omega⟩
      · simp (dsimp := false) (implicitDefEqProofs := false) (disch := first | omega | assumption | (simp only [rL, Nat.reduceAdd]; try omega)) only [↓rA, rZ, List.drop_succ_cons, ne_eq, not_true_eq_false, not_false_eq_true, List.getElem?_cons_zero, List.getElem?_cons_succ, ev, ofConst, ofCell, ↓reduceIte, Nat.reduceEqDiff, Nat.reduceAdd, Nat.reduceSub, Nat.reduceMul, Nat.reduceLeDiff, Nat.reduceLT, Int.reduceNeg, Int.reduceToNat, Int.reduceAdd, Int.reduceSub, Int.reduceMul, Int.reduceLT, Int.reduceLE, Int.reduceEq, Int.reduceNe, hc, hl, m0, m2, m3, v2, v3, c1, c2, e, e2]
        exact ⟨s, Hp.sub_new Hp.sub_refl n1, rfl, by rw [hR]; simp [-List.length_eq_zero_iff]; omega⟩
    · simp (dsimp := false) (implicitDefEqProofs := false) (disch := first | omega | assumption | (simp only [rL, Nat.reduceAdd]; try omega)) only [↓rA, rZ, List.drop_succ_cons, ne_eq, not_true_eq_false, not_false_eq_true, List.getElem?_cons_zero, List.getElem?_cons_succ, ev, ofConst, ofCell, ↓reduceIte, Nat.reduceEqDiff, Nat.reduceAdd, Nat.reduceSub, Nat.reduceMul, Nat.reduceLeDiff, Nat.reduceLT, Int.reduceNeg, Int.reduceToNat, Int.reduceAdd, Int.reduceSub, Int.reduceMul, Int.reduceLT, Int.reduceLE, Int.reduceEq, Int.reduceNe, hc, hl, m0, m2, m3, v2, v3, c1, c2, e]
      exact ⟨s, Hp.sub_new Hp.sub_refl n1, rfl, by rw [hR]; simp [-List.length_eq_zero_iff]; omega⟩
  have c2' : ¬ kd = 2 := by omega
  rw [if_neg c2'] at hR
  by_cases c34 : kd = 3 ∨ kd = 4
  · rw [if_pos c34] at hR
    have key : ∀ e1 : (o.d.cols.length : Int) = 0 ∨ ¬ (o.d.cols.length : Int) = 0, True := fun _ => trivial
    clear key
    by_cases c3 : (kd : Int) = 3
    · by_cases e : (o.d.cols.length : Int) = 0
      · by_cases e2 : (2 : Int) ≤ o.d.row.length
        · by_cases e3 : (o.d.row.length : Int) ≤ 8
          · simp (dsimp := false) (implicitDefEqProofs := false) (disch := first | omega | assumption | (simp only [rL, Nat.reduceAdd]; try omega)) only [↓rA, rZ, List.drop_succ_cons, ne_eq, not_true_eq_false, not_false_eq_true, List.getElem?_cons_zero, List.getElem?_cons_succ, ev, ofConst, ofCell, ↓reduceIte, Nat.reduceEqDiff, Nat.reduceAdd, Nat.reduceSub, Nat.reduceMul, Nat.reduceLeDiff, Nat.reduceLT, Int.reduceNeg, Int.reduceToNat, Int.reduceAdd, Int.reduceSub, Int.reduceMul, Int.reduceLT, Int.reduceLE, Int.reduceEq, Int.reduceNe, hc, hl, m0, m2, m3, v2, v3, c1, c2, c3, e, e2, e3]
            exact ⟨s, Hp.sub_new Hp.sub_refl n1, rfl, by rw [hR]; simp [-List.length_eq_zero_iff]; omega⟩
          · simp (dsimp := false) (implicitDefEqProofs := false) (disch := first | omega | assumption | (simp only [rL, Nat.reduceAdd]; try omega)) only [↓rA, rZ, List.drop_succ_cons, ne_eq, not_true_eq_false, not_false_eq_true, List.getElem?_cons_zero, List.getElem?_cons_succ, ev, ofConst, ofCell, ↓reduceIte, Nat.reduceEqDiff, Nat.reduceAdd, Nat.reduceSub, Nat.reduceMul, Nat.reduceLeDiff, Nat.reduceLT, Int.reduceNeg, Int.reduceToNat, Int.reduceAdd, Int.reduceSub, Int.reduceMul, Int.reduceLT, Int.reduceLE, Int.reduceEq, Int.reduceNe, hc, hl, m0, m2, m3, v2, v3, c1, c2, c3, e, e2, e3]
            exact ⟨s, Hp.sub_new Hp.sub_refl n1, rfl, by rw [hR]; simp [-List.length_eq_zero_iff]; omega⟩
        · simp (dsimp := false) (implicitDefEqProofs := false) (disch := first | omega | assumption | (simp only [rL, Nat.reduceAdd]; try omega)) only [↓rA, rZ, List.drop_succ_cons, ne_eq, not_true_eq_false, not_false_eq_true, List.getElem?_cons_zero, List.getElem?_cons_succ, ev, ofConst, ofCell, ↓reduceIte, Nat.reduceEqDiff, Nat.reduceAdd, Nat.reduceSub, Nat.reduceMul, Nat.reduceLeDiff, Nat.reduceLT, Int.reduceNeg, Int.reduceToNat, Int.reduceAdd, Int.reduceSub, Int.reduceMul, Int.reduceLT, Int.reduceLE, Int.reduceEq, Int.reduceNe, hc, hl, m0, m2, m3, v2, v3, c1, c2, c3, e, e2]
          exact ⟨s, Hp.sub_new Hp.sub_refl n1, rfl, by rw [hR]; simp [-List.length_eq_zero_iff]; omega⟩
      · simp (dsimp := false) (implicitDefEqProofs := false) (disch := first | omega | assumption | (simp only [rL, Nat.reduceAdd]; try omega)) only [↓rA, rZ, List.drop_succ_cons, ne_eq, not_true_eq_false, not_false_eq_true, List.getElem?_cons_zero, List.getElem?_cons_succ, ev, ofConst, ofCell, ↓reduceIte, Nat.reduceEqDiff, Nat.reduceAdd, Nat.reduceSub, Nat.reduceMul, Nat.reduceLeDiff, Nat.reduceLT, Int.reduceNeg, Int.reduceToNat, Int.reduceAdd, Int.reduceSub, Int.reduceMul, Int.reduceLT, Int.reduceLE, Int.reduceEq, Int.reduceNe, hc, hl, m0, m2, m3, v2, v3, c1, c2, c3, e]
        exact ⟨s, Hp.sub_new Hp.sub_refl n1, rfl, by rw [hR]; simp [-List.length_eq_zero_iff]; omega⟩
    · have c4 : (kd : Int) = 4 := by omega
      by_cases e : (o.d.cols.length : Int) = 0
      · by_cases e2 : (2 : Int) ≤ o.d.row.length
        · by_cases e3 : (o.d.row.length : Int) ≤ 8
          · simp (dsimp := false) (implicitDefEqProofs := false) (disch := first | omega | assumption | (simp only [rL, Nat.reduceAdd]; try omega)) only [↓rA, rZ, List.drop_succ_cons, ne_eq, not_true_eq_false, not_false_eq_true, List.getElem?_cons_zero, List.getElem?_cons_succ, ev, ofConst, ofCell, ↓reduceIte, Nat.reduceEqDiff, Nat.reduceAdd, Nat.reduceSub, Nat.reduceMul, Nat.reduceLeDiff, Nat.reduceLT, Int.reduceNeg, Int.reduceToNat, Int.reduceAdd, Int.reduceSub, Int.reduceMul, Int.reduceLT, Int.reduceLE, Int.reduceEq, Int.reduceNe, hc, hl, m0, m2, m3, v2, v3, c1, c2, c3, c4, e, e2, e3]
            exact ⟨s, Hp.sub_new Hp.sub_refl n1, rfl, by rw [hR]; simp [-List.length_eq_zero_iff]; omega⟩
          · simp (dsimp := false) (implicitDefEqProofs := false) (disch := first | omega | assumption | (simp only [rL, Nat.reduceAdd]; try omega)) only [↓rA, rZ, List.drop_succ_cons, ne_eq, not_true_eq_false, not_false_eq_true, List.getElem?_cons_zero, List.getElem?_cons_succ, ev, ofConst, ofCell, ↓reduceIte, Nat.reduceEqDiff, Nat.reduceAdd, Nat.reduceSub, Nat.reduceMul, Nat.reduceLeDiff, Nat.reduceLT, Int.reduceNeg, Int.reduceToNat, Int.reduceAdd, Int.reduceSub, Int.reduceMul, Int.reduceLT, Int.reduceLE, Int.reduceEq, Int.reduceNe, hc, hl, m0, m2, m3, v2, v3, c1, c2, c3, c4, e, e2, e3]
            exact ⟨s, Hp.sub_new Hp.sub_refl n1, rfl, by rw [hR]; simp [-List.length_eq_zero_iff]; omega⟩
        · simp (dsimp := false) (implicitDefEqProofs := false) (disch := first | omega | assumption | (simp only [rL, Nat.reduceAdd]; try omega)) only [↓rA, rZ, List.drop_succ_cons, ne_eq, not_true_eq_false, not_false_eq_true, List.getElem?_cons_zero, List.getElem?_cons_succ, ev, ofConst, ofCell, ↓reduceIte, Nat.reduceEqDiff, Nat.reduceAdd, Nat.reduceSub, Nat.reduceMul, Nat.reduceLeDiff, Nat.reduceLT, Int.reduceNeg, Int.reduceToNat, Int.reduceAdd, Int.reduceSub, Int.reduceMul, Int.reduceLT, Int.reduceLE, Int.reduceEq, Int.reduceNe, hc, hl, m0, m2, m3, v2, v3, c1, c2, c3, c4, e, e2]
          exact ⟨s, Hp.sub_new Hp.sub_refl n1, rfl, by rw [hR]; simp [-List.length_eq_zero_iff]; omega⟩
      · simp (dsimp := false) (implicitDefEqProofs := false) (disch := first | omega | assumption | (simp only [rL, Nat.reduceAdd]; try omega)) only [↓rA, rZ, List.drop_succ_cons, ne_eq, not_true_eq_false, not_false_eq_true, List.getElem?_cons_zero, List.getElem?_cons_succ, ev, ofConst, ofCell, ↓reduceIte, Nat.reduceEqDiff, Nat.reduceAdd, Nat.reduceSub, Nat.reduceMul, Nat.reduceLeDiff, Nat.reduceLT, Int.reduceNeg, Int.reduceToNat, Int.reduceAdd, Int.reduceSub, Int.reduceMul, Int.reduceLT, Int.reduceLE, Int.reduceEq, Int.reduceNe, hc, hl, m0, m2, m3, v2, v3, c1, c2, c3, c4, e]
        exact ⟨s, Hp.sub_new Hp.sub_refl n1, rfl, by rw [hR]; simp [-List.length_eq_zero_iff]; omega⟩
  · rw [if_neg c34] at hR
    have c3 : ¬ (kd : Int) = 3 := by omega
    have c4 : ¬ (kd : Int) = 4 := by omega
    simp (dsimp := false) (implicitDefEqProofs := false) (disch := first | omega | assumption | (simp only [rL, Nat.reduceAdd]; try omega)) only [↓rA, rZ, List.drop_succ_cons, ne_eq, not_true_eq_false, not_false_eq_true, List.getElem?_cons_zero, List.getElem?_cons_succ, ev, ofConst, ofCell, ↓reduceIte, Nat.reduceEqDiff, Nat.reduceAdd, Nat.reduceSub, Nat.reduceMul, Nat.reduceLeDiff, Nat.reduceLT, Int.reduceNeg, Int.reduceToNat, Int.reduceAdd, Int.reduceSub, Int.reduceMul, Int.reduceLT, Int.reduceLE, Int.reduceEq, Int.reduceNe, hc, hl, m0, m2, m3, v2, v3, c1, c2, c3, c4]
    exact ⟨s, Hp.sub_new Hp.sub_refl n1, rfl, by rw [hR]⟩
end Go.Proofs.YtnnjjmiahcnbaaaGreat
/-
  block.op, Ops.
-/
set_option maxRecDepth 100000
namespace Go.Proofs.YtnnjjmiahcnbaaaGreat
open Go Go.Av
def OL (l : List OpR) : List AV := l.map OpR.V
theorem OL_length {l : List OpR} : (OL l).length = l.length := by simp [OL]
theorem OL_get {l : List OpR} {i : Nat} (h : i < l.length) : (OL l)[i]? = some (l[i]).V := by simp [OL, h]
theorem elA_op {o : OpR} : elA 4 (some o.V) = some (.rptr o.C) := rfl
theorem rdA_op {o : OpR} : mkv true 4 o.C = o.V := rfl
theorem opsfn_spec (o : OpR) (ho : o.d.ok) (s : Hp) : AC Tryz.prog 84 [o.V] s fun r s' => s' = s ∧ r = .v (.bool (!rightF o.d)) := by
  refine AC_run hm prep84 (by simp) ?_
  have hc := OpR.cells (o := o)
  have hl := OpR.lenC (o := o)
  have hf := OpR.fold (o := o)
  simp (dsimp := false) (implicitDefEqProofs := false) (disch := first | omega | assumption | (simp only [rL, Nat.reduceAdd]; try omega)) only [↓rA, rZ, List.drop_succ_cons, ne_eq, not_true_eq_false, not_false_eq_true, List.getElem?_cons_zero, List.getElem?_cons_succ, ev, ofConst, ofCell, ↓reduceIte, Nat.reduceEqDiff, Nat.reduceAdd, Nat.reduceSub, Nat.reduceMul, Nat.reduceLeDiff, Nat.reduceLT, Int.reduceNeg, Int.reduceToNat, Int.reduceAdd, Int.reduceSub, Int.reduceMul, Int.reduceLT, Int.reduceLE, Int.reduceEq, Int.reduceNe, hc, hl]
  refine newK_intro fun l1 n1 => ?_
  simp (dsimp := false) (implicitDefEqProofs := false) (disch := first | omega | assumption | (simp only [rL, Nat.reduceAdd]; try omega)) only [↓rA, rZ, List.drop_succ_cons, ne_eq, not_true_eq_false, not_false_eq_true, List.getElem?_cons_zero, List.getElem?_cons_succ, ev, ofConst, ofCell, ↓reduceIte, Nat.reduceEqDiff, Nat.reduceAdd, Nat.reduceSub, Nat.reduceMul, Nat.reduceLeDiff, Nat.reduceLT, Int.reduceNeg, Int.reduceToNat, Int.reduceAdd, Int.reduceSub, Int.reduceMul, Int.reduceLT, Int.reduceLE, Int.reduceEq, Int.reduceNe, hc, hl, hf]
  refine call_intro (right_spec o ho _) ?_
  rintro _ s1 ⟨rfl, rfl⟩
  simp (dsimp := false) (implicitDefEqProofs := false) (disch := first | omega | assumption | (simp only [rL, Nat.reduceAdd]; try omega)) only [↓rA, rZ, List.drop_succ_cons, ne_eq, not_true_eq_false, not_false_eq_true, List.getElem?_cons_zero, List.getElem?_cons_succ, ev, ofConst, ofCell, ↓reduceIte, Nat.reduceEqDiff, Nat.reduceAdd, Nat.reduceSub, Nat.reduceMul, Nat.reduceLeDiff, Nat.reduceLT, Int.reduceNeg, Int.reduceToNat, Int.reduceAdd, Int.reduceSub, Int.reduceMul, Int.reduceLT, Int.reduceLE, Int.reduceEq, Int.reduceNe]
  exact ⟨s, Hp.sub_new Hp.sub_refl n1, rfl⟩
theorem oindex_spec (l : List OpR) (o : Own) (hl : l.length ≤ 1000000) (ho : ∀ x ∈ l, x.d.ok) (s : Hp) :
    AC Tryz.prog 112 [.sl (OL l) o, .clo 84 [] []] s fun r s' => s' = s ∧ ∃ n : Int, r = .v (.int .i64 n) ∧ decide (0 ≤ n) = l.any fun x => !rightF x.d := by
  refine AC_run hm prep112 (by simp) ?_
  have hv := OL_length (l := l)
  simp (dsimp := false) (implicitDefEqProofs := false) (disch := first | omega | assumption | (simp only [rL, Nat.reduceAdd]; try omega)) only [↓rA, rZ, List.drop_succ_cons, ne_eq, not_true_eq_false, not_false_eq_true, List.getElem?_cons_zero, List.getElem?_cons_succ, ev, ofConst, ofCell, ↓reduceIte, Nat.reduceEqDiff, Nat.reduceAdd, Nat.reduceSub, Nat.reduceMul, Nat.reduceLeDiff, Nat.reduceLT, Int.reduceNeg, Int.reduceToNat, Int.reduceAdd, Int.reduceSub, Int.reduceMul, Int.reduceLT, Int.reduceLE, Int.reduceEq, Int.reduceNe, hv]
  refine loop_intro (fun f s' => ∃ j : Nat, j ≤ l.length ∧ s' = s ∧ ((l.take j).any fun x => !rightF x.d) = false ∧ f 0 = .sl (OL l) o ∧ f 1 = .clo 84 [] [] ∧ f 7 = .v (.int .i64 l.length) ∧ f 8 = .v (.int .i64 j))
    (fun f _ => match f 8 with | .v (.int _ n) => (l.length - n).toNat | _ => 0) ⟨0, by omega, rfl, rfl, ?_⟩ ?_
  · simp (dsimp := false) (implicitDefEqProofs := false) (disch := first | omega | assumption | (simp only [rL, Nat.reduceAdd]; try omega)) only [↓rA, rZ, List.drop_succ_cons, ne_eq, not_true_eq_false, not_false_eq_true, List.getElem?_cons_zero, List.getElem?_cons_succ, ev, ofConst, ofCell, ↓reduceIte, Nat.reduceEqDiff, Nat.reduceAdd, Nat.reduceSub, Nat.reduceMul, Nat.reduceLeDiff, Nat.reduceLT, Int.reduceNeg, Int.reduceToNat, Int.reduceAdd, Int.reduceSub, Int.reduceMul, Int.reduceLT, Int.reduceLE, Int.reduceEq, Int.reduceNe]
  · rintro f s ⟨j, hj, rfl, hno, f0, f1, f7, f8⟩
    by_cases hlt : (j : Int) < l.length
    · have hj' : j < l.length := by omega
      have hel := OL_get hj'
      have hmem : l[j] ∈ l := List.getElem_mem hj'
      have htk : l.take (j + 1) = l.take j ++ [l[j]] := by rw [List.take_succ, List.getElem?_eq_getElem hj']; rfl
      generalize l[j] = u at *
      have hul := OpR.lenC (o := u)
      have huf := OpR.fold (o := u)
      simp (dsimp := false) (implicitDefEqProofs := false) (disch := first | omega | assumption | (simp only [rL, Nat.reduceAdd]; try omega)) only [↓rA, rZ, List.drop_succ_cons, ne_eq, not_true_eq_false, not_false_eq_true, List.getElem?_cons_zero, List.getElem?_cons_succ, ev, ofConst, ofCell, ↓reduceIte, Nat.reduceEqDiff, Nat.reduceAdd, Nat.reduceSub, Nat.reduceMul, Nat.reduceLeDiff, Nat.reduceLT, Int.reduceNeg, Int.reduceToNat, Int.reduceAdd, Int.reduceSub, Int.reduceMul, Int.reduceLT, Int.reduceLE, Int.reduceEq, Int.reduceNe, f0, f1, f7, f8, hlt, iaSA_sl, hel, elA_op, hul, huf]
      refine callV_intro (by kernel_rfl) (opsfn_spec u (ho u hmem) s) ?_
      rintro _ s ⟨rfl, rfl⟩
      cases hr : rightF u.d
      · simp (dsimp := false) (implicitDefEqProofs := false) (disch := first | omega | assumption | (simp only [rL, Nat.reduceAdd]; try omega)) only [↓rA, rZ, List.drop_succ_cons, ne_eq, not_true_eq_false, not_false_eq_true, List.getElem?_cons_zero, List.getElem?_cons_succ, ev, ofConst, ofCell, ↓reduceIte, Nat.reduceEqDiff, Nat.reduceAdd, Nat.reduceSub, Nat.reduceMul, Nat.reduceLeDiff, Nat.reduceLT, Int.reduceNeg, Int.reduceToNat, Int.reduceAdd, Int.reduceSub, Int.reduceMul, Int.reduceLT, Int.reduceLE, Int.reduceEq, Int.reduceNe, f0, f1, f7, f8]
        refine ⟨s, Hp.sub_refl, rfl, j, rfl, ?_⟩
        have : (l.any fun x => !rightF x.d) = true := by rw [List.any_eq_true]; exact ⟨u, hmem, by rw [hr]; rfl⟩
        rw [this]; simp
      · simp (dsimp := false) (implicitDefEqProofs := false) (disch := first | omega | assumption | (simp only [rL, Nat.reduceAdd]; try omega)) only [↓rA, rZ, List.drop_succ_cons, ne_eq, not_true_eq_false, not_false_eq_true, List.getElem?_cons_zero, List.getElem?_cons_succ, ev, ofConst, ofCell, ↓reduceIte, Nat.reduceEqDiff, Nat.reduceAdd, Nat.reduceSub, Nat.reduceMul, Nat.reduceLeDiff, Nat.reduceLT, Int.reduceNeg, Int.reduceToNat, Int.reduceAdd, Int.reduceSub, Int.reduceMul, Int.reduceLT, Int.reduceLE, Int.reduceEq, Int.reduceNe, f0, f1, f7, f8]
        refine ⟨⟨j + 1, by omega, ?_, by simp⟩, by omega⟩
        rw [htk, List.any_append, hno]; simp [hr]
    · obtain rfl : j = l.length := by omega
      simp (dsimp := false) (implicitDefEqProofs := false) (disch := first | omega | assumption | (simp only [rL, Nat.reduceAdd]; try omega)) only [↓rA, rZ, List.drop_succ_cons, ne_eq, not_true_eq_false, not_false_eq_true, List.getElem?_cons_zero, List.getElem?_cons_succ, ev, ofConst, ofCell, ↓reduceIte, Nat.reduceEqDiff, Nat.reduceAdd, Nat.reduceSub, Nat.reduceMul, Nat.reduceLeDiff, Nat.reduceLT, Int.reduceNeg, Int.reduceToNat, Int.reduceAdd, Int.reduceSub, Int.reduceMul, Int.reduceLT, Int.reduceLE, Int.reduceEq, Int.reduceNe, f0, f1, f7, f8, hlt]
      refine ⟨s, Hp.sub_refl, rfl, -1, rfl, ?_⟩
      rw [List.take_length] at hno
      rw [hno]; rfl
theorem ocontains_spec (l : List OpR) (o : Own) (hl : l.length ≤ 1000000) (ho : ∀ x ∈ l, x.d.ok) (s : Hp) :
    AC Tryz.prog 83 [.sl (OL l) o, .clo 84 [] []] s fun r s' => s' = s ∧ r = .v (.bool (l.any fun x => !rightF x.d)) := by
  refine AC_run hm prep83 (by simp) ?_
  simp (dsimp := false) (implicitDefEqProofs := false) (disch := first | omega | assumption | (simp only [rL, Nat.reduceAdd]; try omega)) only [↓rA, rZ, List.drop_succ_cons, ne_eq, not_true_eq_false, not_false_eq_true, List.getElem?_cons_zero, List.getElem?_cons_succ, ev, ofConst, ofCell, ↓reduceIte, Nat.reduceEqDiff, Nat.reduceAdd, Nat.reduceSub, Nat.reduceMul, Nat.reduceLeDiff, Nat.reduceLT, Int.reduceNeg, Int.reduceToNat, Int.reduceAdd, Int.reduceSub, Int.reduceMul, Int.reduceLT, Int.reduceLE, Int.reduceEq, Int.reduceNe]
  refine call_intro (oindex_spec l o hl ho s) ?_
  rintro _ s ⟨rfl, n, rfl, hn⟩
  simp (dsimp := false) (implicitDefEqProofs := false) (disch := first | omega | assumption | (simp only [rL, Nat.reduceAdd]; try omega)) only [↓rA, rZ, List.drop_succ_cons, ne_eq, not_true_eq_false, not_false_eq_true, List.getElem?_cons_zero, List.getElem?_cons_succ, ev, ofConst, ofCell, ↓reduceIte, Nat.reduceEqDiff, Nat.reduceAdd, Nat.reduceSub, Nat.reduceMul, Nat.reduceLeDiff, Nat.reduceLT, Int.reduceNeg, Int.reduceToNat, Int.reduceAdd, Int.reduceSub, Int.reduceMul, Int.reduceLT, Int.reduceLE, Int.reduceEq, Int.reduceNe, hn]
  exact ⟨s, Hp.sub_refl, rfl⟩
def opB (d : OpD) : List UInt8 := [d.kind] ++ textB d.table ++ (if d.kind.toNat = 1 then UInt8.ofNat d.cols.length :: d.cols.flatMap textB else if d.kind.toNat = 3 ∨ d.kind.toNat = 4 then rowB d.row else [])
theorem flatMap_textB_le {l : List (List UInt8)} (h : ∀ c ∈ l, c.length ≤ 16) : (l.flatMap textB).length ≤ 19 * l.length := by
  induction l with
  | nil => simp
  | cons a l ih =>
    have h1 := h a (by simp)
    have h2 := ih fun c hc => h c (by simp [hc])
    rw [List.flatMap_cons, List.length_append, textB_length, List.length_cons]; omega
theorem opB_le {d : OpD} (h : d.ok) : (opB d).length ≤ 3000 := by
  obtain ⟨k1, k2, k3, k4⟩ := h
  have h3 := flatMap_textB_le k3
  have h4 := rowB_length d.row
  unfold opB
  rw [List.length_append, List.length_append, textB_length]
  split
  · simp only [List.length_cons, List.length_nil]; omega
  · split
    · simp only [List.length_cons, List.length_nil]; omega
    · simp only [List.length_cons, List.length_nil]; omega
theorem op_spec (s0 s : Hp) (l : Nat) (bs : List UInt8) (o : OpR) (ho : o.d.ok) (h : WS s0 l bs s) (hl : bs.length ≤ 100000000000) :
    AC Tryz.prog 87 [.ptr l 0, o.V] s fun _ s' => WS s0 l (bs ++ opB o.d) s' := by
  refine AC_run hm prep87 (by simp) ?_
  have hc := OpR.cells (o := o)
  have hlo := OpR.lenC (o := o)
  have m0 := OpR.m0 (o := o)
  have m1 := OpR.m1 (o := o)
  have m2 := OpR.m2 (o := o)
  have m3 := OpR.m3 (o := o)
  have v2 := SV_length (xs := o.d.cols)
  have v3 := rowV_length (r := o.d.row)
  have hB : opB o.d = [o.d.kind] ++ textB o.d.table ++ (if o.d.kind.toNat = 1 then UInt8.ofNat o.d.cols.length :: o.d.cols.flatMap textB else if o.d.kind.toNat = 3 ∨ o.d.kind.toNat = 4 then rowB o.d.row else []) := rfl
  obtain ⟨k1, k2, k3, k4⟩ := ho
  have htl := textB_length o.d.table
  simp (dsimp := false) (implicitDefEqProofs := false) (disch := first | omega | assumption | (simp only [rL, Nat.reduceAdd]; try omega)) only [↓rA, rZ, List.drop_succ_cons, ne_eq, not_true_eq_false, not_false_eq_true, List.getElem?_cons_zero, List.getElem?_cons_succ, ev, ofConst, ofCell, ↓reduceIte, Nat.reduceEqDiff, Nat.reduceAdd, Nat.reduceSub, Nat.reduceMul, Nat.reduceLeDiff, Nat.reduceLT, Int.reduceNeg, Int.reduceToNat, Int.reduceAdd, Int.reduceSub, Int.reduceMul, Int.reduceLT, Int.reduceLE, Int.reduceEq, Int.reduceNe, hc, hlo]
  refine newK_intro fun l1 n1 => ?_
  obtain ⟨d1, e1, h⟩ := h.new (ob := .cells o.C) n1
  have g1 := h.get d1 (Hp.set_same _ _ _)
  simp (dsimp := false) (implicitDefEqProofs := false) (disch := first | omega | assumption | (simp only [rL, Nat.reduceAdd]; try omega)) only [↓rA, rZ, List.drop_succ_cons, ne_eq, not_true_eq_false, not_false_eq_true, List.getElem?_cons_zero, List.getElem?_cons_succ, ev, ofConst, ofCell, ↓reduceIte, Nat.reduceEqDiff, Nat.reduceAdd, Nat.reduceSub, Nat.reduceMul, Nat.reduceLeDiff, Nat.reduceLT, Int.reduceNeg, Int.reduceToNat, Int.reduceAdd, Int.reduceSub, Int.reduceMul, Int.reduceLT, Int.reduceLE, Int.reduceEq, Int.reduceNe, hc, hlo, Hp.read_of g1, m0]
  refine call_intro (wbyte_spec _ _ l bs o.d.kind h (by omega)) ?_
  intro r s1 h1
  have g1 := h1.get d1 (Hp.set_same _ _ _)
  have hs2 : ∀ bs : List UInt8, s2bA (strV bs) = some (.sl (bs.map byteAV) .any) := fun bs => by rfl
  simp (dsimp := false) (implicitDefEqProofs := false) (disch := first | omega | assumption | (simp only [rL, Nat.reduceAdd]; try omega)) only [↓rA, rZ, List.drop_succ_cons, ne_eq, not_true_eq_false, not_false_eq_true, List.getElem?_cons_zero, List.getElem?_cons_succ, ev, ofConst, ofCell, ↓reduceIte, Nat.reduceEqDiff, Nat.reduceAdd, Nat.reduceSub, Nat.reduceMul, Nat.reduceLeDiff, Nat.reduceLT, Int.reduceNeg, Int.reduceToNat, Int.reduceAdd, Int.reduceSub, Int.reduceMul, Int.reduceLT, Int.reduceLE, Int.reduceEq, Int.reduceNe, hc, hlo, Hp.read_of g1, m1, hs2]
  refine call_intro (wtext_spec _ _ l _ o.d.table .any (by omega) h1 (by simp; omega)) ?_
  intro r s2 h2
  have g1 := h2.get d1 (Hp.set_same _ _ _)
  simp (dsimp := false) (implicitDefEqProofs := false) (disch := first | omega | assumption | (simp only [rL, Nat.reduceAdd]; try omega)) only [↓rA, rZ, List.drop_succ_cons, ne_eq, not_true_eq_false, not_false_eq_true, List.getElem?_cons_zero, List.getElem?_cons_succ, ev, ofConst, ofCell, ↓reduceIte, Nat.reduceEqDiff, Nat.reduceAdd, Nat.reduceSub, Nat.reduceMul, Nat.reduceLeDiff, Nat.reduceLT, Int.reduceNeg, Int.reduceToNat, Int.reduceAdd, Int.reduceSub, Int.reduceMul, Int.reduceLT, Int.reduceLE, Int.reduceEq, Int.reduceNe, hc, hlo, Hp.read_of g1, m0]
  have hlen : (bs ++ [o.d.kind] ++ textB o.d.table).length ≤ 100000000100 := by simp only [List.length_append, List.length_cons, List.length_nil, htl]; omega
  have hEnd : ∀ s' b, (bs ++ [o.d.kind] ++ textB o.d.table) ++ b = bs ++ opB o.d → WS (s0.set l1 (.cells o.C)) l ((bs ++ [o.d.kind] ++ textB o.d.table) ++ b) s' → WS s0 l (bs ++ opB o.d) s' := by
    intro s' b e hw
    rw [e] at hw
    exact hw.base (Hp.sub_new Hp.sub_refl e1)
  by_cases c1 : (o.d.kind.toNat : Int) = 1
  · have c1' : o.d.kind.toNat = 1 := by omega
    rw [if_pos c1'] at hB
    simp (dsimp := false) (implicitDefEqProofs := false) (disch := first | omega | assumption | (simp only [rL, Nat.reduceAdd]; try omega)) only [↓rA, rZ, List.drop_succ_cons, ne_eq, not_true_eq_false, not_false_eq_true, List.getElem?_cons_zero, List.getElem?_cons_succ, ev, ofConst, ofCell, ↓reduceIte, Nat.reduceEqDiff, Nat.reduceAdd, Nat.reduceSub, Nat.reduceMul, Nat.reduceLeDiff, Nat.reduceLT, Int.reduceNeg, Int.reduceToNat, Int.reduceAdd, Int.reduceSub, Int.reduceMul, Int.reduceLT, Int.reduceLE, Int.reduceEq, Int.reduceNe, c1, hc, hlo, Hp.read_of g1, m2, v2, wrap_u8_nat]
    refine call_intro (wbyte_spec _ _ l _ (UInt8.ofNat o.d.cols.length) h2 (by omega)) ?_
    intro r s3 h3
    have g1 := h3.get d1 (Hp.set_same _ _ _)
    simp (dsimp := false) (implicitDefEqProofs := false) (disch := first | omega | assumption | (simp only [rL, Nat.reduceAdd]; try omega)) only [↓rA, rZ, List.drop_succ_cons, ne_eq, not_true_eq_false, not_false_eq_true, List.getElem?_cons_zero, List.getElem?_cons_succ, ev, ofConst, ofCell, ↓reduceIte, Nat.reduceEqDiff, Nat.reduceAdd, Nat.reduceSub, Nat.reduceMul, Nat.reduceLeDiff, Nat.reduceLT, Int.reduceNeg, Int.reduceToNat, Int.reduceAdd, Int.reduceSub, Int.reduceMul, Int.reduceLT, Int.reduceLE, Int.reduceEq, Int.reduceNe, hc, hlo, Hp.read_of g1, m2, v2]
    refine loop_intro (fun f s' => ∃ j : Nat, j ≤ o.d.cols.length ∧ WS (s0.set l1 (.cells o.C)) l ((bs ++ [o.d.kind] ++ textB o.d.table) ++ (UInt8.ofNat o.d.cols.length :: (o.d.cols.take j).flatMap textB)) s' ∧ f 0 = .ptr l 0 ∧ f 26 = .sl (SV o.d.cols) o.oc ∧ f 27 = .v (.int .i64 o.d.cols.length) ∧ f 28 = .v (.int .i64 j) ∧ f 16 = .v (.int .u8 o.d.kind.toNat))
      (fun f _ => match f 28 with | .v (.int _ n) => (o.d.cols.length - n).toNat | _ => 0) ⟨0, by omega, by simpa using h3, ?_⟩ ?_
    · simp (dsimp := false) (implicitDefEqProofs := false) (disch := first | omega | assumption | (simp only [rL, Nat.reduceAdd]; try omega)) only [↓rA, rZ, List.drop_succ_cons, ne_eq, not_true_eq_false, not_false_eq_true, List.getElem?_cons_zero, List.getElem?_cons_succ, ev, ofConst, ofCell, ↓reduceIte, Nat.reduceEqDiff, Nat.reduceAdd, Nat.reduceSub, Nat.reduceMul, Nat.reduceLeDiff, Nat.reduceLT, Int.reduceNeg, Int.reduceToNat, Int.reduceAdd, Int.reduceSub, Int.reduceMul, Int.reduceLT, Int.reduceLE, Int.reduceEq, Int.reduceNe]
    · rintro f s4 ⟨j, hj, hw, f0, f26, f27, f28, f16⟩
      by_cases hlt : (j : Int) < o.d.cols.length
      · have hj' : j < o.d.cols.length := by omega
        have hel := SV_get hj'
        have hmem : o.d.cols.getD j [] ∈ o.d.cols := by simp [List.getD, hj']
        have hul := k3 _ hmem
        have hfl := flatMap_textB_le (l := o.d.cols.take j) fun c hc => k3 c (List.mem_of_mem_take hc)
        rw [List.length_take] at hfl
        simp (dsimp := false) (implicitDefEqProofs := false) (disch := first | omega | assumption | (simp only [rL, Nat.reduceAdd]; try omega)) only [↓rA, rZ, List.drop_succ_cons, ne_eq, not_true_eq_false, not_false_eq_true, List.getElem?_cons_zero, List.getElem?_cons_succ, ev, ofConst, ofCell, ↓reduceIte, Nat.reduceEqDiff, Nat.reduceAdd, Nat.reduceSub, Nat.reduceMul, Nat.reduceLeDiff, Nat.reduceLT, Int.reduceNeg, Int.reduceToNat, Int.reduceAdd, Int.reduceSub, Int.reduceMul, Int.reduceLT, Int.reduceLE, Int.reduceEq, Int.reduceNe, f0, f26, f27, f28, f16, hlt, iaSA_sl, hel, elA_strV, hs2]
        refine call_intro (wtext_spec _ _ l _ _ .any (by omega) hw (by rw [List.length_append, List.length_cons]; omega)) ?_
        intro r s5 h5
        simp (dsimp := false) (implicitDefEqProofs := false) (disch := first | omega | assumption | (simp only [rL, Nat.reduceAdd]; try omega)) only [↓rA, rZ, List.drop_succ_cons, ne_eq, not_true_eq_false, not_false_eq_true, List.getElem?_cons_zero, List.getElem?_cons_succ, ev, ofConst, ofCell, ↓reduceIte, Nat.reduceEqDiff, Nat.reduceAdd, Nat.reduceSub, Nat.reduceMul, Nat.reduceLeDiff, Nat.reduceLT, Int.reduceNeg, Int.reduceToNat, Int.reduceAdd, Int.reduceSub, Int.reduceMul, Int.reduceLT, Int.reduceLE, Int.reduceEq, Int.reduceNe, f0, f26, f27, f28, f16]
        refine ⟨⟨j + 1, by omega, ?_, by simp⟩, by omega⟩
        have e : (o.d.cols.take (j + 1)).flatMap textB = (o.d.cols.take j).flatMap textB ++ textB (o.d.cols.getD j []) := by
          rw [List.take_succ, List.getElem?_eq_getElem hj', List.flatMap_append]
          simp [List.getD, hj']
        rw [e]
        simpa using h5
      · obtain rfl : j = o.d.cols.length := by omega
        simp (dsimp := false) (implicitDefEqProofs := false) (disch := first | omega | assumption | (simp only [rL, Nat.reduceAdd]; try omega)) only [↓rA, rZ, List.drop_succ_cons, ne_eq, not_true_eq_false, not_false_eq_true, List.getElem?_cons_zero, List.getElem?_cons_succ, ev, ofConst, ofCell, ↓reduceIte, Nat.reduceEqDiff, Nat.reduceAdd, Nat.reduceSub, Nat.reduceMul, Nat.reduceLeDiff, Nat.reduceLT, Int.reduceNeg, Int.reduceToNat, Int.reduceAdd, Int.reduceSub, Int.reduceMul, Int.reduceLT, Int.reduceLE, Int.reduceEq, Int.reduceNe, f0, f26, f27, f28, f16, hlt]
        refine ⟨s4, Hp.sub_refl, hEnd _ _ ?_ hw⟩
        rw [List.take_length, hB]; simp
  have c1' : ¬ o.d.kind.toNat = 1 := by omega
  rw [if_neg c1'] at hB
  by_cases c34 : o.d.kind.toNat = 3 ∨ o.d.kind.toNat = 4
  · rw [if_pos c34] at hB
    have hrun : ∀ (s3 : Hp), WS (s0.set l1 (.cells o.C)) l ((bs ++ [o.d.kind] ++ textB o.d.table) ++ rowB o.d.row) s3 → WS s0 l (bs ++ opB o.d) s3 := fun s3 h3 => hEnd _ _ (by rw [hB]; simp) h3
    by_cases c3 : (o.d.kind.toNat : Int) = 3
    · simp (dsimp := false) (implicitDefEqProofs := false) (disch := first | omega | assumption | (simp only [rL, Nat.reduceAdd]; try omega)) only [↓rA, rZ, List.drop_succ_cons, ne_eq, not_true_eq_false, not_false_eq_true, List.getElem?_cons_zero, List.getElem?_cons_succ, ev, ofConst, ofCell, ↓reduceIte, Nat.reduceEqDiff, Nat.reduceAdd, Nat.reduceSub, Nat.reduceMul, Nat.reduceLeDiff, Nat.reduceLT, Int.reduceNeg, Int.reduceToNat, Int.reduceAdd, Int.reduceSub, Int.reduceMul, Int.reduceLT, Int.reduceLE, Int.reduceEq, Int.reduceNe, c1, c3, hc, hlo, Hp.read_of g1, m3]
      refine call_intro (wrow_spec _ _ l _ o.d.row o.ow k4 h2 (by omega)) ?_
      intro r s3 h3
      simp (dsimp := false) (implicitDefEqProofs := false) (disch := first | omega | assumption | (simp only [rL, Nat.reduceAdd]; try omega)) only [↓rA, rZ, List.drop_succ_cons, ne_eq, not_true_eq_false, not_false_eq_true, List.getElem?_cons_zero, List.getElem?_cons_succ, ev, ofConst, ofCell, ↓reduceIte, Nat.reduceEqDiff, Nat.reduceAdd, Nat.reduceSub, Nat.reduceMul, Nat.reduceLeDiff, Nat.reduceLT, Int.reduceNeg, Int.reduceToNat, Int.reduceAdd, Int.reduceSub, Int.reduceMul, Int.reduceLT, Int.reduceLE, Int.reduceEq, Int.reduceNe]
      exact ⟨s3, Hp.sub_refl, hrun s3 h3⟩
    · have c4 : (o.d.kind.toNat : Int) = 4 := by omega
      simp (dsimp := false) (implicitDefEqProofs := false) (disch := first | omega | assumption | (simp only [rL, Nat.reduceAdd]; try omega)) only [↓rA, rZ, List.drop_succ_cons, ne_eq, not_true_eq_false, not_false_eq_true, List.getElem?_cons_zero, List.getElem?_cons_succ, ev, ofConst, ofCell, ↓reduceIte, Nat.reduceEqDiff, Nat.reduceAdd, Nat.reduceSub, Nat.reduceMul, Nat.reduceLeDiff, Nat.reduceLT, Int.reduceNeg, Int.reduceToNat, Int.reduceAdd, Int.reduceSub, Int.reduceMul, Int.reduceLT, Int.reduceLE, Int.reduceEq, Int.reduceNe, c1, c3, c4, hc, hlo, Hp.read_of g1, m3]
      refine call_intro (wrow_spec _ _ l _ o.d.row o.ow k4 h2 (by omega)) ?_
      intro r s3 h3
      simp (dsimp := false) (implicitDefEqProofs := false) (disch := first | omega | assumption | (simp only [rL, Nat.reduceAdd]; try omega)) only [↓rA, rZ, List.drop_succ_cons, ne_eq, not_true_eq_false, not_false_eq_true, List.getElem?_cons_zero, List.getElem?_cons_succ, ev, ofConst, ofCell, ↓reduceIte, Nat.reduceEqDiff, Nat.reduceAdd, Nat.reduceSub, Nat.reduceMul, Nat.reduceLeDiff, Nat.reduceLT, Int.reduceNeg, Int.reduceToNat, Int.reduceAdd, Int.reduceSub, Int.reduceMul, Int.reduceLT, Int.reduceLE, Int.reduceEq, Int.reduceNe]
      exact ⟨s3, Hp.sub_refl, hrun s3 h3⟩
  · rw [if_neg c34] at hB
    have c3 : ¬ (o.d.kind.toNat : Int) = 3 := by omega
    have c4 : ¬ (o.d.kind.toNat : Int) = 4 := by omega
    simp (dsimp := false) (implicitDefEqProofs := false) (disch := first | omega | assumption | (simp only [rL, Nat.reduceAdd]; try omega)) only [↓rA, rZ, List.drop_succ_cons, ne_eq, not_true_eq_false, not_false_eq_true, List.getElem?_cons_zero, List.getElem?_cons_succ, ev, ofConst, ofCell, ↓reduceIte, Nat.reduceEqDiff, Nat.reduceAdd, Nat.reduceSub, Nat.reduceMul, Nat.reduceLeDiff, Nat.reduceLT, Int.reduceNeg, Int.reduceToNat, Int.reduceAdd, Int.reduceSub, Int.reduceMul, Int.reduceLT, Int.reduceLE, Int.reduceEq, Int.reduceNe, c1, c3, c4]
    exact ⟨s2, Hp.sub_refl, hEnd s2 [] (by rw [hB]; simp) (by simpa using h2)⟩
def opsB (l : List OpD) : List UInt8 := countB l.length ++ l.flatMap opB
def allRight (l : List OpD) : Bool := l.all rightF
theorem flatMap_opB_le {l : List OpD} (h : ∀ o ∈ l, o.ok) : (l.flatMap opB).length ≤ 3000 * l.length := by
  induction l with
  | nil => simp
  | cons a l ih =>
    have h1 := opB_le (h a (by simp))
    have h2 := ih fun c hc => h c (by simp [hc])
    rw [List.flatMap_cons, List.length_append, List.length_cons]; omega
def opsF (l : List OpD) : Option (List UInt8) := if allRight l = true then some (opsB l) else none
theorem ops_spec (l : List OpR) (o : Own) (hl : l.length ≤ 256) (ho : ∀ x ∈ l, x.d.ok) (s : Hp) :
    AC Tryz.prog 51 [.sl (OL l) o] s fun r s' => s' = s ∧ match opsF (l.map (·.d)) with
      | none => r = .tup [.sl [] .nil, .v (.int .i64 1)]
      | some bs => ∃ o', r = .tup [.sl (bs.map byteAV) o', .v (.int .i64 0)] := by
  refine AC_run hm prep51 (by simp) ?_
  have hv := OL_length (l := l)
  have h256 : ¬ (256 : Int) < l.length := by omega
  simp (dsimp := false) (implicitDefEqProofs := false) (disch := first | omega | assumption | (simp only [rL, Nat.reduceAdd]; try omega)) only [↓rA, rZ, List.drop_succ_cons, ne_eq, not_true_eq_false, not_false_eq_true, List.getElem?_cons_zero, List.getElem?_cons_succ, ev, ofConst, ofCell, ↓reduceIte, Nat.reduceEqDiff, Nat.reduceAdd, Nat.reduceSub, Nat.reduceMul, Nat.reduceLeDiff, Nat.reduceLT, Int.reduceNeg, Int.reduceToNat, Int.reduceAdd, Int.reduceSub, Int.reduceMul, Int.reduceLT, Int.reduceLE, Int.reduceEq, Int.reduceNe, hv, h256]
  refine call_intro (ocontains_spec l o (by omega) ho s) ?_
  rintro _ s ⟨rfl, rfl⟩
  have hall : (l.any fun x => !rightF x.d) = !allRight (l.map (·.d)) := by
    rw [allRight, List.all_map, List.not_all_eq_any_not]; rfl
  rw [hall]
  unfold opsF
  cases hr : allRight (l.map (·.d))
  · simp (dsimp := false) (implicitDefEqProofs := false) (disch := first | omega | assumption | (simp only [rL, Nat.reduceAdd]; try omega)) only [↓rA, rZ, List.drop_succ_cons, ne_eq, not_true_eq_false, not_false_eq_true, List.getElem?_cons_zero, List.getElem?_cons_succ, ev, ofConst, ofCell, ↓reduceIte, Nat.reduceEqDiff, Nat.reduceAdd, Nat.reduceSub, Nat.reduceMul, Nat.reduceLeDiff, Nat.reduceLT, Int.reduceNeg, Int.reduceToNat, Int.reduceAdd, Int.reduceSub, Int.reduceMul, Int.reduceLT, Int.reduceLE, Int.reduceEq, Int.reduceNe]
    exact ⟨s, Hp.sub_refl, rfl, trivial⟩
  simp (dsimp := false) (implicitDefEqProofs := false) (disch := first | omega | assumption | (simp only [rL, Nat.reduceAdd]; try omega)) only [↓rA, rZ, List.drop_succ_cons, ne_eq, not_true_eq_false, not_false_eq_true, List.getElem?_cons_zero, List.getElem?_cons_succ, ev, ofConst, ofCell, ↓reduceIte, Nat.reduceEqDiff, Nat.reduceAdd, Nat.reduceSub, Nat.reduceMul, Nat.reduceLeDiff, Nat.reduceLT, Int.reduceNeg, Int.reduceToNat, Int.reduceAdd, Int.reduceSub, Int.reduceMul, Int.reduceLT, Int.reduceLE, Int.reduceEq, Int.reduceNe]
  refine newK_intro fun l2 n2 => ?_
  have hW : WS s l2 [] (s.set l2 (.cells [.sl [] .nil, .v (.int .i64 0)])) := ⟨.nil, Owned.nil Hp.sub_refl⟩
  simp (dsimp := false) (implicitDefEqProofs := false) (disch := first | omega | assumption | (simp only [rL, Nat.reduceAdd]; try omega)) only [↓rA, rZ, List.drop_succ_cons, ne_eq, not_true_eq_false, not_false_eq_true, List.getElem?_cons_zero, List.getElem?_cons_succ, ev, ofConst, ofCell, ↓reduceIte, Nat.reduceEqDiff, Nat.reduceAdd, Nat.reduceSub, Nat.reduceMul, Nat.reduceLeDiff, Nat.reduceLT, Int.reduceNeg, Int.reduceToNat, Int.reduceAdd, Int.reduceSub, Int.reduceMul, Int.reduceLT, Int.reduceLE, Int.reduceEq, Int.reduceNe, hv]
  refine call_intro (wcount_spec _ _ l2 [] l.length (by omega) hW (by simp)) ?_
  intro r s1 h1
  rw [List.nil_append] at h1
  simp (dsimp := false) (implicitDefEqProofs := false) (disch := first | omega | assumption | (simp only [rL, Nat.reduceAdd]; try omega)) only [↓rA, rZ, List.drop_succ_cons, ne_eq, not_true_eq_false, not_false_eq_true, List.getElem?_cons_zero, List.getElem?_cons_succ, ev, ofConst, ofCell, ↓reduceIte, Nat.reduceEqDiff, Nat.reduceAdd, Nat.reduceSub, Nat.reduceMul, Nat.reduceLeDiff, Nat.reduceLT, Int.reduceNeg, Int.reduceToNat, Int.reduceAdd, Int.reduceSub, Int.reduceMul, Int.reduceLT, Int.reduceLE, Int.reduceEq, Int.reduceNe, hv]
  refine loop_intro (fun f s' => ∃ j : Nat, j ≤ l.length ∧ WS s l2 (countB l.length ++ ((l.take j).map (·.d)).flatMap opB) s' ∧ f 4 = .ptr l2 0 ∧ f 20 = .sl (OL l) o ∧ f 21 = .v (.int .i64 l.length) ∧ f 22 = .v (.int .i64 j))
    (fun f _ => match f 22 with | .v (.int _ n) => (l.length - n).toNat | _ => 0) ⟨0, by omega, by simpa using h1, ?_⟩ ?_
  · simp (dsimp := false) (implicitDefEqProofs := false) (disch := first | omega | assumption | (simp only [rL, Nat.reduceAdd]; try omega)) only [↓rA, rZ, List.drop_succ_cons, ne_eq, not_true_eq_false, not_false_eq_true, List.getElem?_cons_zero, List.getElem?_cons_succ, ev, ofConst, ofCell, ↓reduceIte, Nat.reduceEqDiff, Nat.reduceAdd, Nat.reduceSub, Nat.reduceMul, Nat.reduceLeDiff, Nat.reduceLT, Int.reduceNeg, Int.reduceToNat, Int.reduceAdd, Int.reduceSub, Int.reduceMul, Int.reduceLT, Int.reduceLE, Int.reduceEq, Int.reduceNe]
  · rintro f s2 ⟨j, hj, hw, f4, f20, f21, f22⟩
    by_cases hlt : (j : Int) < l.length
    · have hj' : j < l.length := by omega
      have hel := OL_get hj'
      have hmem : l[j] ∈ l := List.getElem_mem hj'
      have htk : l.take (j + 1) = l.take j ++ [l[j]] := by rw [List.take_succ, List.getElem?_eq_getElem hj']; rfl
      generalize l[j] = u at *
      have hul := OpR.lenC (o := u)
      have huf := OpR.fold (o := u)
      have huc := OpR.cells (o := u)
      have hfl := flatMap_opB_le (l := (l.take j).map (·.d)) fun x hx => by
        obtain ⟨y, hy, rfl⟩ := List.mem_map.1 hx
        exact ho y (List.mem_of_mem_take hy)
      rw [List.length_map, List.length_take] at hfl
      simp (dsimp := false) (implicitDefEqProofs := false) (disch := first | omega | assumption | (simp only [rL, Nat.reduceAdd]; try omega)) only [↓rA, rZ, List.drop_succ_cons, ne_eq, not_true_eq_false, not_false_eq_true, List.getElem?_cons_zero, List.getElem?_cons_succ, ev, ofConst, ofCell, ↓reduceIte, Nat.reduceEqDiff, Nat.reduceAdd, Nat.reduceSub, Nat.reduceMul, Nat.reduceLeDiff, Nat.reduceLT, Int.reduceNeg, Int.reduceToNat, Int.reduceAdd, Int.reduceSub, Int.reduceMul, Int.reduceLT, Int.reduceLE, Int.reduceEq, Int.reduceNe, f4, f20, f21, f22, hlt, iaSA_sl, hel, elA_op, hul, huf, huc]
      refine newK_intro fun l6 n6 => ?_
      obtain ⟨d6, e6, hw⟩ := hw.new (ob := .cells u.C) n6
      have hset : ∀ z : List AV, z.length = 4 → (s2.set l6 (.cells z)).set l6 (.cells u.C) = s2.set l6 (.cells u.C) := fun z _ => Hp.set_set _ _ _ _
      have hp : putAt [AV.v (.int .u8 0), AV.v (.string ⟨#[]⟩), AV.sl [] .nil, AV.sl [] .nil] 0 u.C = u.C := putAt_all (by rw [hul]; rfl)
      simp (dsimp := false) (implicitDefEqProofs := false) (disch := first | omega | assumption | (simp only [rL, Nat.reduceAdd]; try omega)) only [↓rA, rZ, List.drop_succ_cons, ne_eq, not_true_eq_false, not_false_eq_true, List.getElem?_cons_zero, List.getElem?_cons_succ, ev, ofConst, ofCell, ↓reduceIte, Nat.reduceEqDiff, Nat.reduceAdd, Nat.reduceSub, Nat.reduceMul, Nat.reduceLeDiff, Nat.reduceLT, Int.reduceNeg, Int.reduceToNat, Int.reduceAdd, Int.reduceSub, Int.reduceMul, Int.reduceLT, Int.reduceLE, Int.reduceEq, Int.reduceNe, f4, f20, f21, f22, hul, huf, huc, hp]
      refine call_intro (op_spec _ _ l2 _ u (ho u hmem) hw (by rw [List.length_append, countB_length]; omega)) ?_
      intro r s5 h5
      simp (dsimp := false) (implicitDefEqProofs := false) (disch := first | omega | assumption | (simp only [rL, Nat.reduceAdd]; try omega)) only [↓rA, rZ, List.drop_succ_cons, ne_eq, not_true_eq_false, not_false_eq_true, List.getElem?_cons_zero, List.getElem?_cons_succ, ev, ofConst, ofCell, ↓reduceIte, Nat.reduceEqDiff, Nat.reduceAdd, Nat.reduceSub, Nat.reduceMul, Nat.reduceLeDiff, Nat.reduceLT, Int.reduceNeg, Int.reduceToNat, Int.reduceAdd, Int.reduceSub, Int.reduceMul, Int.reduceLT, Int.reduceLE, Int.reduceEq, Int.reduceNe, f4, f20, f21, f22]
      refine ⟨⟨j + 1, by omega, ?_, by simp⟩, by omega⟩
      rw [htk, List.map_append, List.flatMap_append, ← List.append_assoc]
      have := h5.base (Hp.sub_new Hp.sub_refl e6)
      simpa using this
    · obtain rfl : j = l.length := by omega
      rw [List.take_length] at hw
      have hb : countB l.length ++ (l.map (·.d)).flatMap opB = opsB (l.map (·.d)) := by rw [opsB, List.length_map]
      rw [hb] at hw
      have hfl := flatMap_opB_le (l := l.map (·.d)) fun x hx => by
        obtain ⟨y, hy, rfl⟩ := List.mem_map.1 hx
        exact ho y hy
      rw [List.length_map] at hfl
      have hbl : (opsB (l.map (·.d))).length ≤ 10000000 := by rw [opsB, List.length_append, countB_length]; omega
      simp (dsimp := false) (implicitDefEqProofs := false) (disch := first | omega | assumption | (simp only [rL, Nat.reduceAdd]; try omega)) only [↓rA, rZ, List.drop_succ_cons, ne_eq, not_true_eq_false, not_false_eq_true, List.getElem?_cons_zero, List.getElem?_cons_succ, ev, ofConst, ofCell, ↓reduceIte, Nat.reduceEqDiff, Nat.reduceAdd, Nat.reduceSub, Nat.reduceMul, Nat.reduceLeDiff, Nat.reduceLT, Int.reduceNeg, Int.reduceToNat, Int.reduceAdd, Int.reduceSub, Int.reduceMul, Int.reduceLT, Int.reduceLE, Int.reduceEq, Int.reduceNe, f4, f20, f21, f22, hlt]
      refine call_intro (wbytes_spec _ s2 l2 _ hw (by omega)) ?_
      rintro _ s6 ⟨o6, h6, rfl⟩
      simp (dsimp := false) (implicitDefEqProofs := false) (disch := first | omega | assumption | (simp only [rL, Nat.reduceAdd]; try omega)) only [↓rA, rZ, List.drop_succ_cons, ne_eq, not_true_eq_false, not_false_eq_true, List.getElem?_cons_zero, List.getElem?_cons_succ, ev, ofConst, ofCell, ↓reduceIte, Nat.reduceEqDiff, Nat.reduceAdd, Nat.reduceSub, Nat.reduceMul, Nat.reduceLeDiff, Nat.reduceLT, Int.reduceNeg, Int.reduceToNat, Int.reduceAdd, Int.reduceSub, Int.reduceMul, Int.reduceLT, Int.reduceLE, Int.reduceEq, Int.reduceNe, f4, f20, f21, f22]
      refine call_intro (werr_spec _ s6 l2 _ (hw.mono h6.sub)) ?_
      rintro _ s6 ⟨rfl, rfl⟩
      simp (dsimp := false) (implicitDefEqProofs := false) (disch := first | omega | assumption | (simp only [rL, Nat.reduceAdd]; try omega)) only [↓rA, rZ, List.drop_succ_cons, ne_eq, not_true_eq_false, not_false_eq_true, List.getElem?_cons_zero, List.getElem?_cons_succ, ev, ofConst, ofCell, ↓reduceIte, Nat.reduceEqDiff, Nat.reduceAdd, Nat.reduceSub, Nat.reduceMul, Nat.reduceLeDiff, Nat.reduceLT, Int.reduceNeg, Int.reduceToNat, Int.reduceAdd, Int.reduceSub, Int.reduceMul, Int.reduceLT, Int.reduceLE, Int.reduceEq, Int.reduceNe]
      exact ⟨s, Hp.sub_trans (hw.sub n2) h6.sub, rfl, o6, rfl⟩
end Go.Proofs.YtnnjjmiahcnbaaaGreat
/-
  slices.Equal of bytes.
-/
set_option maxRecDepth 100000
namespace Go.Proofs.YtnnjjmiahcnbaaaGreat
open Go Go.Av
theorem equal_spec (a b : List UInt8) (o o2 : Own) (s : Hp) (ha : a.length ≤ 70368744177664) :
    AC Tryz.prog 15 [.sl (a.map byteAV) o, .sl (b.map byteAV) o2] s fun x s' => s' = s ∧ x = .v (.bool (decide (a = b))) := by
  refine AC_run hm prep15 (by simp) ?_
  by_cases c : a.length = b.length
  · have c' : (a.length : Int) = b.length := by omega
    simp (dsimp := false) (implicitDefEqProofs := false) (disch := first | omega | assumption | (simp only [rL, Nat.reduceAdd]; try omega)) only [↓rD, rU, ev, ofConst, ofCell, ↓reduceIte, Nat.reduceEqDiff, Nat.reduceAdd, Nat.reduceSub, Nat.reduceMul, Nat.reduceLeDiff, Nat.reduceLT, Int.reduceNeg, Int.reduceToNat, Int.reduceAdd, Int.reduceSub, Int.reduceMul, Int.reduceLT, Int.reduceLE, Int.reduceEq, rX, dg_cells, dg_fold, List.drop_succ_cons, ↓rF, rG, ne_eq, not_true_eq_false, not_false_eq_true, Int.reduceNe, List.getElem?_cons_zero, List.getElem?_cons_succ, c']
    rw [← c']
    refine loop_intro (fun f s' => ∃ j : Nat, j ≤ a.length ∧ s' = s ∧ f 0 = .sl (a.map byteAV) o ∧ f 1 = .sl (b.map byteAV) o2 ∧ f 12 = .v (.int .i64 a.length) ∧ f 13 = .v (.int .i64 j) ∧ a.take j = b.take j)
      (fun f _ => match f 13 with | .v (.int _ n) => (a.length - n).toNat | _ => 0) ⟨0, by omega, rfl, ?_⟩ ?_
    · simp (dsimp := false) (implicitDefEqProofs := false) (disch := first | omega | assumption | (simp only [rL, Nat.reduceAdd]; try omega)) only [↓rD, rU, ev, ofConst, ofCell, ↓reduceIte, Nat.reduceEqDiff, Nat.reduceAdd, Nat.reduceSub, Nat.reduceMul, Nat.reduceLeDiff, Nat.reduceLT, Int.reduceNeg, Int.reduceToNat, Int.reduceAdd, Int.reduceSub, Int.reduceMul, Int.reduceLT, Int.reduceLE, Int.reduceEq, rX, dg_cells, dg_fold, List.drop_succ_cons, ↓rF, rG, ne_eq, not_true_eq_false, not_false_eq_true, Int.reduceNe, List.getElem?_cons_zero, List.getElem?_cons_succ, List.take_zero]
    · rintro f sA ⟨j, hj, rfl, f0, f1, f12, f13, ht⟩
      by_cases hlt : (j : Int) < a.length
      · have hj' : j < a.length := by omega
        have hjb : j < b.length := by omega
        have e1 : elA 1 (a.map byteAV)[j]? = some (.rptr [.v (.int .u8 (a.getD j 0).toNat)]) := by rw [getB hj']; rfl
        have e2 : elA 1 (b.map byteAV)[j]? = some (.rptr [.v (.int .u8 (b.getD j 0).toNat)]) := by rw [getB hjb]; rfl
        simp (dsimp := false) (implicitDefEqProofs := false) (disch := first | omega | assumption | (simp only [rL, Nat.reduceAdd]; try omega)) only [f0, f1, f12, f13, hlt, iaSA_sl, e1, e2, ↓rD, rU, ev, ofConst, ofCell, ↓reduceIte, Nat.reduceEqDiff, Nat.reduceAdd, Nat.reduceSub, Nat.reduceMul, Nat.reduceLeDiff, Nat.reduceLT, Int.reduceNeg, Int.reduceToNat, Int.reduceAdd, Int.reduceSub, Int.reduceMul, Int.reduceLT, Int.reduceLE, Int.reduceEq, rX, dg_cells, dg_fold, List.drop_succ_cons, ↓rF, rG, ne_eq, not_true_eq_false, not_false_eq_true, Int.reduceNe, List.getElem?_cons_zero, List.getElem?_cons_succ]
        by_cases hx : a.getD j 0 = b.getD j 0
        · have hx' : (((a.getD j 0).toNat : Int) = (b.getD j 0).toNat) = True := by rw [hx]; simp
          simp (dsimp := false) (implicitDefEqProofs := false) (disch := first | omega | assumption | (simp only [rL, Nat.reduceAdd]; try omega)) only [f0, f1, f12, f13, hlt, hx', ↓rD, rU, ev, ofConst, ofCell, ↓reduceIte, Nat.reduceEqDiff, Nat.reduceAdd, Nat.reduceSub, Nat.reduceMul, Nat.reduceLeDiff, Nat.reduceLT, Int.reduceNeg, Int.reduceToNat, Int.reduceAdd, Int.reduceSub, Int.reduceMul, Int.reduceLT, Int.reduceLE, Int.reduceEq, rX, dg_cells, dg_fold, List.drop_succ_cons, ↓rF, rG, ne_eq, not_true_eq_false, not_false_eq_true, Int.reduceNe, List.getElem?_cons_zero, List.getElem?_cons_succ]
          refine ⟨⟨j + 1, by omega, by simp, ?_⟩, by omega⟩
          rw [List.take_succ, List.take_succ, ht, List.getElem?_eq_getElem hj', List.getElem?_eq_getElem hjb]
          simp [List.getD, hj', hjb] at hx
          rw [hx]
        · have hx' : (((a.getD j 0).toNat : Int) = (b.getD j 0).toNat) = False := by
            simp only [eq_iff_iff, iff_false]
            intro h
            exact hx (UInt8.toNat_inj.1 (by omega))
          simp (dsimp := false) (implicitDefEqProofs := false) (disch := first | omega | assumption | (simp only [rL, Nat.reduceAdd]; try omega)) only [f0, f1, f12, f13, hlt, hx', ↓rD, rU, ev, ofConst, ofCell, ↓reduceIte, Nat.reduceEqDiff, Nat.reduceAdd, Nat.reduceSub, Nat.reduceMul, Nat.reduceLeDiff, Nat.reduceLT, Int.reduceNeg, Int.reduceToNat, Int.reduceAdd, Int.reduceSub, Int.reduceMul, Int.reduceLT, Int.reduceLE, Int.reduceEq, rX, dg_cells, dg_fold, List.drop_succ_cons, ↓rF, rG, ne_eq, not_true_eq_false, not_false_eq_true, Int.reduceNe, List.getElem?_cons_zero, List.getElem?_cons_succ]
          refine ⟨sA, Hp.sub_refl, rfl, ?_⟩
          have : a ≠ b := by rintro rfl; exact hx rfl
          simp [this]
      · obtain rfl : j = a.length := by omega
        simp (dsimp := false) (implicitDefEqProofs := false) (disch := first | omega | assumption | (simp only [rL, Nat.reduceAdd]; try omega)) only [f0, f1, f12, f13, hlt, ↓rD, rU, ev, ofConst, ofCell, ↓reduceIte, Nat.reduceEqDiff, Nat.reduceAdd, Nat.reduceSub, Nat.reduceMul, Nat.reduceLeDiff, Nat.reduceLT, Int.reduceNeg, Int.reduceToNat, Int.reduceAdd, Int.reduceSub, Int.reduceMul, Int.reduceLT, Int.reduceLE, Int.reduceEq, rX, dg_cells, dg_fold, List.drop_succ_cons, ↓rF, rG, ne_eq, not_true_eq_false, not_false_eq_true, Int.reduceNe, List.getElem?_cons_zero, List.getElem?_cons_succ]
        refine ⟨sA, Hp.sub_refl, rfl, ?_⟩
        rw [List.take_of_length_le (Nat.le_refl _), List.take_of_length_le (by omega)] at ht
        simp [ht]
  · have c' : ((a.length : Int) = b.length) = False := by simp only [eq_iff_iff, iff_false]; omega
    simp (dsimp := false) (implicitDefEqProofs := false) (disch := first | omega | assumption | (simp only [rL, Nat.reduceAdd]; try omega)) only [↓rD, rU, ev, ofConst, ofCell, ↓reduceIte, Nat.reduceEqDiff, Nat.reduceAdd, Nat.reduceSub, Nat.reduceMul, Nat.reduceLeDiff, Nat.reduceLT, Int.reduceNeg, Int.reduceToNat, Int.reduceAdd, Int.reduceSub, Int.reduceMul, Int.reduceLT, Int.reduceLE, Int.reduceEq, rX, dg_cells, dg_fold, List.drop_succ_cons, ↓rF, rG, ne_eq, not_true_eq_false, not_false_eq_true, Int.reduceNe, List.getElem?_cons_zero, List.getElem?_cons_succ, c']
    refine ⟨s, Hp.sub_refl, rfl, ?_⟩
    have : a ≠ b := by rintro rfl; exact c rfl
    simp [this]
end Go.Proofs.YtnnjjmiahcnbaaaGreat
/-
  block.readOp, ReadOps.
-/
set_option maxRecDepth 100000
namespace Go.Proofs.YtnnjjmiahcnbaaaGreat
open Go Go.Av
def colGo : Nat → Rd → List (List UInt8) → List (List UInt8) × Rd
  | 0, r, acc => (acc, r)
  | n + 1, r, acc => colGo n (textR 16 r).2 (acc ++ [(textR 16 r).1])
def readOpR (r : Rd) : OpD × Rd :=
  let k := byteR r
  let t := textR 16 k.2
  if k.1.toNat = 1 then (⟨k.1, t.1, (colGo (min (byteR t.2).1.toNat 8) (byteR t.2).2 []).1, []⟩, (colGo (min (byteR t.2).1.toNat 8) (byteR t.2).2 []).2)
  else if k.1.toNat = 3 ∨ k.1.toNat = 4 then (⟨k.1, t.1, [], (rowR 8 t.2).1⟩, (rowR 8 t.2).2)
  else (⟨k.1, t.1, [], []⟩, t.2)
theorem textR_le (most : Nat) (r : Rd) : (textR most r).1.length ≤ most := by
  have hc := countR_le most r
  unfold textR
  cases ht : (takeR (countR most r).2 (countR most r).1).1 with
  | none => simp
  | some bs => have := takeR_len ht; simp only [Option.getD_some]; omega
theorem colGo_ok : ∀ (n : Nat) (r : Rd) (acc : List (List UInt8)), (∀ c ∈ acc, c.length ≤ 16) → (colGo n r acc).1.length = acc.length + n ∧ ∀ c ∈ (colGo n r acc).1, c.length ≤ 16
  | 0, r, acc, h => ⟨rfl, h⟩
  | n + 1, r, acc, h => by
    obtain ⟨h1, h2⟩ := colGo_ok n (textR 16 r).2 (acc ++ [(textR 16 r).1]) (by
      intro c hc
      rcases List.mem_append.1 hc with hc | hc
      · exact h c hc
      · rw [List.mem_singleton.1 hc]; exact textR_le 16 r)
    refine ⟨?_, h2⟩
    show (colGo n _ _).1.length = _
    rw [h1]; simp; omega
theorem readOpR_ok (r : Rd) : (readOpR r).1.ok := by
  unfold readOpR
  have ht := textR_le 16 (byteR r).2
  simp only
  split
  · obtain ⟨h1, h2⟩ := colGo_ok (min (byteR (textR 16 (byteR r).2).2).1.toNat 8) (byteR (textR 16 (byteR r).2).2).2 [] (by simp)
    refine ⟨ht, ?_, h2, by simp⟩
    simp only [List.length_nil] at h1
    rw [h1]; omega
  · split
    · exact ⟨ht, by simp, by simp, rowR_len _ _⟩
    · exact ⟨ht, by simp, by simp, by simp⟩
theorem put4_0 {a b c d x : AV} : putAt [a, b, c, d] 0 [x] = [x, b, c, d] := rfl
theorem put4_1 {a b c d x : AV} : putAt [a, b, c, d] 1 [x] = [a, x, c, d] := rfl
theorem put4_2 {a b c d x : AV} : putAt [a, b, c, d] 2 [x] = [a, b, x, d] := rfl
theorem put4_3 {a b c d x : AV} : putAt [a, b, c, d] 3 [x] = [a, b, c, x] := rfl
theorem put4_all {a b c d x y z w : AV} : putAt [a, b, c, d] 0 [x, y, z, w] = [x, y, z, w] := rfl
theorem len4 {a b c d : AV} : [a, b, c, d].length = 4 := rfl
theorem m4_0 {a b c d : AV} : mkv false 1 [a, b, c, d] = a := rfl
theorem m4_2 {a b c d : AV} : mkv false 1 ([a, b, c, d].drop 2) = c := rfl
theorem readop_spec (s0 s : Hp) (l : Nat) (r : Rd) (h0 : s0 l = none) (h : RS s0 l r s) :
    AC Tryz.prog 94 [.ptr l 0] s fun x s' => RS s0 l (readOpR r).2 s' ∧ ∃ o : OpR, o.d = (readOpR r).1 ∧ x = o.V := by
  refine AC_run hm prep94 (by simp) ?_
  simp (dsimp := false) (implicitDefEqProofs := false) (disch := first | omega | assumption | (simp only [rL, Nat.reduceAdd]; try omega)) only [↓rA, rZ, List.drop_succ_cons, ne_eq, not_true_eq_false, not_false_eq_true, List.getElem?_cons_zero, List.getElem?_cons_succ, ev, ofConst, ofCell, ↓reduceIte, Nat.reduceEqDiff, Nat.reduceAdd, Nat.reduceSub, Nat.reduceMul, Nat.reduceLeDiff, Nat.reduceLT, Int.reduceNeg, Int.reduceToNat, Int.reduceAdd, Int.reduceSub, Int.reduceMul, Int.reduceLT, Int.reduceLE, Int.reduceEq, Int.reduceNe]
  refine newK_intro fun l2 n2 => ?_
  obtain ⟨d2, e2, h⟩ := h.new (ob := .cells [.v (.int .u8 0), .v (.string ⟨#[]⟩), .sl [] .nil, .sl [] .nil]) n2
  have b2 : s0.sub (s0.set l2 (.cells [.v (.int .u8 0), .v (.string ⟨#[]⟩), .sl [] .nil, .sl [] .nil])) := Hp.sub_new Hp.sub_refl e2
  have q2 : (s0.set l2 (.cells [.v (.int .u8 0), .v (.string ⟨#[]⟩), .sl [] .nil, .sl [] .nil])) l = none := by rw [Hp.set_ne _ _ (Ne.symm d2)]; exact h0
  have g2 : (s0.set l2 (.cells [.v (.int .u8 0), .v (.string ⟨#[]⟩), .sl [] .nil, .sl [] .nil])) l2 = some (.cells [.v (.int .u8 0), .v (.string ⟨#[]⟩), .sl [] .nil, .sl [] .nil]) := Hp.set_same _ _ _
  generalize (s0.set l2 (.cells [.v (.int .u8 0), .v (.string ⟨#[]⟩), .sl [] .nil, .sl [] .nil])) = sA at *
  simp (dsimp := false) (implicitDefEqProofs := false) (disch := first | omega | assumption | (simp only [rL, Nat.reduceAdd]; try omega)) only [↓rA, rZ, List.drop_succ_cons, ne_eq, not_true_eq_false, not_false_eq_true, List.getElem?_cons_zero, List.getElem?_cons_succ, ev, ofConst, ofCell, ↓reduceIte, Nat.reduceEqDiff, Nat.reduceAdd, Nat.reduceSub, Nat.reduceMul, Nat.reduceLeDiff, Nat.reduceLT, Int.reduceNeg, Int.reduceToNat, Int.reduceAdd, Int.reduceSub, Int.reduceMul, Int.reduceLT, Int.reduceLE, Int.reduceEq, Int.reduceNe]
  refine call_intro (rbyte_spec _ _ l r h) ?_
  rintro x s1 ⟨h1, rfl⟩
  unfold readOpR
  generalize byteR r = k at *
  obtain ⟨kd, r1⟩ := k
  simp only at h1 ⊢
  simp (dsimp := false) (implicitDefEqProofs := false) (disch := first | omega | assumption | (simp only [rL, Nat.reduceAdd]; try omega)) only [↓rA, rZ, List.drop_succ_cons, ne_eq, not_true_eq_false, not_false_eq_true, List.getElem?_cons_zero, List.getElem?_cons_succ, ev, ofConst, ofCell, ↓reduceIte, Nat.reduceEqDiff, Nat.reduceAdd, Nat.reduceSub, Nat.reduceMul, Nat.reduceLeDiff, Nat.reduceLT, Int.reduceNeg, Int.reduceToNat, Int.reduceAdd, Int.reduceSub, Int.reduceMul, Int.reduceLT, Int.reduceLE, Int.reduceEq, Int.reduceNe, put4_0]
  refine newK_intro fun l3 n3 => ?_
  obtain ⟨d3, e3, h3⟩ := h1.new (ob := .cells [.v (.int .u8 kd.toNat), .v (.string ⟨#[]⟩), .sl [] .nil, .sl [] .nil]) n3
  have b3 : ∀ ob, s0.sub (sA.set l3 ob) := fun ob => Hp.sub_trans b2 (Hp.sub_new Hp.sub_refl e3)
  have d32 : l2 ≠ l3 := by rintro rfl; rw [g2] at e3; cases e3
  have q3 : ∀ ob, (sA.set l3 ob) l = none := fun ob => by rw [Hp.set_ne _ _ (Ne.symm d3)]; exact q2
  simp (dsimp := false) (implicitDefEqProofs := false) (disch := first | omega | assumption | (simp only [rL, Nat.reduceAdd]; try omega)) only [↓rA, rZ, List.drop_succ_cons, ne_eq, not_true_eq_false, not_false_eq_true, List.getElem?_cons_zero, List.getElem?_cons_succ, ev, ofConst, ofCell, ↓reduceIte, Nat.reduceEqDiff, Nat.reduceAdd, Nat.reduceSub, Nat.reduceMul, Nat.reduceLeDiff, Nat.reduceLT, Int.reduceNeg, Int.reduceToNat, Int.reduceAdd, Int.reduceSub, Int.reduceMul, Int.reduceLT, Int.reduceLE, Int.reduceEq, Int.reduceNe, put4_all]
  refine call_intro (rtext_spec _ _ l 16 (by omega) r1 h3) ?_
  rintro x s4 ⟨h4, ow4, _, rfl⟩
  have g4 := h4.get d3 (Hp.set_same _ _ _)
  generalize textR 16 r1 = t at *
  obtain ⟨tx, r2⟩ := t
  simp only at h4 ⊢
  simp (dsimp := false) (implicitDefEqProofs := false) (disch := first | omega | assumption | (simp only [rL, Nat.reduceAdd]; try omega)) only [↓rA, rZ, List.drop_succ_cons, ne_eq, not_true_eq_false, not_false_eq_true, List.getElem?_cons_zero, List.getElem?_cons_succ, ev, ofConst, ofCell, ↓reduceIte, Nat.reduceEqDiff, Nat.reduceAdd, Nat.reduceSub, Nat.reduceMul, Nat.reduceLeDiff, Nat.reduceLT, Int.reduceNeg, Int.reduceToNat, Int.reduceAdd, Int.reduceSub, Int.reduceMul, Int.reduceLT, Int.reduceLE, Int.reduceEq, Int.reduceNe, Hp.read_of g4, Hp.stA_of g4, put4_1, m4_0]
  have h5 : RS (sA.set l3 (.cells [.v (.int .u8 kd.toNat), strV tx, .sl [] .nil, .sl [] .nil])) l r2 (s4.set l3 (.cells [.v (.int .u8 kd.toNat), strV tx, .sl [] .nil, .sl [] .nil])) := by
    have := h4.other (ob := .cells [.v (.int .u8 kd.toNat), strV tx, .sl [] .nil, .sl [] .nil]) d3
    rwa [Hp.set_set] at this
  have hend : ∀ (o : OpR) (r' : Rd) (s' : Hp), RS (sA.set l3 (.cells o.C)) l r' s' → s' l2 = some (.cells [.v (.int .u8 0), .v (.string ⟨#[]⟩), .sl [] .nil, .sl [] .nil]) → RS s0 l r' (s'.set l2 (.cells o.C)) := fun o r' s' hs hl => by
    have := hs.other (ob := .cells o.C) d2
    refine this.base ?_
    intro x q hx
    have hne : x ≠ l2 := by rintro rfl; rw [e2] at hx; cases hx
    rw [Hp.set_ne _ _ hne]
    exact b3 _ _ _ hx
  by_cases c1 : (kd.toNat : Int) = 1
  · have c1' : kd.toNat = 1 := by omega
    rw [if_pos c1']
    have c1t : ((kd.toNat : Int) = 1) = True := eq_true c1
    simp (dsimp := false) (implicitDefEqProofs := false) (disch := first | omega | assumption | (simp only [rL, Nat.reduceAdd]; try omega)) only [↓rA, rZ, List.drop_succ_cons, ne_eq, not_true_eq_false, not_false_eq_true, List.getElem?_cons_zero, List.getElem?_cons_succ, ev, ofConst, ofCell, ↓reduceIte, Nat.reduceEqDiff, Nat.reduceAdd, Nat.reduceSub, Nat.reduceMul, Nat.reduceLeDiff, Nat.reduceLT, Int.reduceNeg, Int.reduceToNat, Int.reduceAdd, Int.reduceSub, Int.reduceMul, Int.reduceLT, Int.reduceLE, Int.reduceEq, Int.reduceNe, c1t]
    refine call_intro (rbyte_spec _ _ l r2 h5) ?_
    rintro x s6 ⟨h6, rfl⟩
    generalize byteR r2 = k at *
    obtain ⟨nb, r3⟩ := k
    simp only at h6 ⊢
    have hnb := nb.toNat_lt
    have wn : IntKind.i64.wrap (nb.toNat : Int) = nb.toNat := wrap_i64 (by omega) (by omega)
    have em : min (nb.toNat : Int) 8 = ((min nb.toNat 8 : Nat) : Int) := by omega
    simp (dsimp := false) (implicitDefEqProofs := false) (disch := first | omega | assumption | (simp only [rL, Nat.reduceAdd]; try omega)) only [↓rA, rZ, List.drop_succ_cons, ne_eq, not_true_eq_false, not_false_eq_true, List.getElem?_cons_zero, List.getElem?_cons_succ, ev, ofConst, ofCell, ↓reduceIte, Nat.reduceEqDiff, Nat.reduceAdd, Nat.reduceSub, Nat.reduceMul, Nat.reduceLeDiff, Nat.reduceLT, Int.reduceNeg, Int.reduceToNat, Int.reduceAdd, Int.reduceSub, Int.reduceMul, Int.reduceLT, Int.reduceLE, Int.reduceEq, Int.reduceNe, wn, em]
    have hN : min nb.toNat 8 ≤ 8 := by omega
    generalize min nb.toNat 8 = N at *
    refine loop_intro (fun f s' => ∃ (j : Nat) (r' : Rd) (acc : List (List UInt8)) (o ow : Own), j ≤ N ∧ colGo (N - j) r' acc = colGo N r3 [] ∧ acc.length ≤ j ∧ Owned ((sA.set l3 (.cells [.v (.int .u8 kd.toNat), strV tx, .sl (SV acc) o, .sl [] .nil])).set l (RC r' ow)) s' 1 (SV acc) o ∧ f 0 = .ptr l 0 ∧ f 2 = .ptr l2 0 ∧ f 3 = .ptr l3 0 ∧ f 18 = .v (.int .i64 N) ∧ f 19 = .v (.int .i64 j))
      (fun f _ => match f 19 with | .v (.int _ n) => (N - n).toNat | _ => 0) ?_ ?_
    · obtain ⟨ow, h6⟩ := h6
      refine ⟨0, r3, [], .nil, ow, by omega, rfl, by simp, Owned.nil h6, ?_⟩
      simp (dsimp := false) (implicitDefEqProofs := false) (disch := first | omega | assumption | (simp only [rL, Nat.reduceAdd]; try omega)) only [↓rA, rZ, List.drop_succ_cons, ne_eq, not_true_eq_false, not_false_eq_true, List.getElem?_cons_zero, List.getElem?_cons_succ, ev, ofConst, ofCell, ↓reduceIte, Nat.reduceEqDiff, Nat.reduceAdd, Nat.reduceSub, Nat.reduceMul, Nat.reduceLeDiff, Nat.reduceLT, Int.reduceNeg, Int.reduceToNat, Int.reduceAdd, Int.reduceSub, Int.reduceMul, Int.reduceLT, Int.reduceLE, Int.reduceEq, Int.reduceNe]
    · rintro f s7 ⟨j, r', acc, o, ow, hj, he, hal, hO, f0, f2, f3, f18, f19⟩
      have g7 := (RO.rs hO).get d3 (Hp.set_same _ _ _)
      by_cases hlt : (j : Int) < N
      · simp (dsimp := false) (implicitDefEqProofs := false) (disch := first | omega | assumption | (simp only [rL, Nat.reduceAdd]; try omega)) only [↓rA, rZ, List.drop_succ_cons, ne_eq, not_true_eq_false, not_false_eq_true, List.getElem?_cons_zero, List.getElem?_cons_succ, ev, ofConst, ofCell, ↓reduceIte, Nat.reduceEqDiff, Nat.reduceAdd, Nat.reduceSub, Nat.reduceMul, Nat.reduceLeDiff, Nat.reduceLT, Int.reduceNeg, Int.reduceToNat, Int.reduceAdd, Int.reduceSub, Int.reduceMul, Int.reduceLT, Int.reduceLE, Int.reduceEq, Int.reduceNe, f0, f2, f3, f18, f19, hlt, Hp.read_of g7, m4_2]
        refine call_intro (rtext_spec _ s7 l 16 (by omega) r' (RO.rs hO).full) ?_
        rintro x s8 ⟨h8, ow8, _, rfl⟩
        have hstep : colGo (N - j) r' acc = colGo (N - (j + 1)) (textR 16 r').2 (acc ++ [(textR 16 r').1]) := by
          rw [show N - j = (N - (j + 1)) + 1 by omega]; rfl
        rw [hstep] at he
        obtain ⟨ow9, hO8⟩ := RO.step hO (q3 _) h8
        generalize textR 16 r' = t at *
        obtain ⟨tt, r4⟩ := t
        simp only at h8 hO8 he ⊢
        have g8 := (RO.rs hO8).get d3 (Hp.set_same _ _ _)
        simp (dsimp := false) (implicitDefEqProofs := false) (disch := first | omega | assumption | (simp only [rL, Nat.reduceAdd]; try omega)) only [↓rA, rZ, List.drop_succ_cons, ne_eq, not_true_eq_false, not_false_eq_true, List.getElem?_cons_zero, List.getElem?_cons_succ, ev, ofConst, ofCell, ↓reduceIte, Nat.reduceEqDiff, Nat.reduceAdd, Nat.reduceSub, Nat.reduceMul, Nat.reduceLeDiff, Nat.reduceLT, Int.reduceNeg, Int.reduceToNat, Int.reduceAdd, Int.reduceSub, Int.reduceMul, Int.reduceLT, Int.reduceLE, Int.reduceEq, Int.reduceNe, f0, f2, f3, f18, f19, Hp.read_of g8, m4_2]
        refine bsl_own Hp.sub_refl (by simp [allLen, AV.cells]) fun o9 s9 h9 => ?_
        simp (dsimp := false) (implicitDefEqProofs := false) (disch := first | omega | assumption | (simp only [rL, Nat.reduceAdd]; try omega)) only [↓rA, rZ, List.drop_succ_cons, ne_eq, not_true_eq_false, not_false_eq_true, List.getElem?_cons_zero, List.getElem?_cons_succ, ev, ofConst, ofCell, ↓reduceIte, Nat.reduceEqDiff, Nat.reduceAdd, Nat.reduceSub, Nat.reduceMul, Nat.reduceLeDiff, Nat.reduceLT, Int.reduceNeg, Int.reduceToNat, Int.reduceAdd, Int.reduceSub, Int.reduceMul, Int.reduceLT, Int.reduceLE, Int.reduceEq, Int.reduceNe, f0, f2, f3, f18, f19]
        refine app_own (hO8.mono h9.sub) (by simp [allLen, SV, strV, AV.cells]) (by simp [allLen, AV.cells]) (by simp [SV_length]; omega) (by simp [SV_length]; omega) fun o10 s10 h10 => ?_
        have ea : SV acc ++ [AV.v (.string ⟨tt.toArray⟩)] = SV (acc ++ [tt]) := by simp [SV, strV]
        rw [ea] at h10 ⊢
        have g10 := (RO.rs h10).get d3 (Hp.set_same _ _ _)
        simp (dsimp := false) (implicitDefEqProofs := false) (disch := first | omega | assumption | (simp only [rL, Nat.reduceAdd]; try omega)) only [↓rA, rZ, List.drop_succ_cons, ne_eq, not_true_eq_false, not_false_eq_true, List.getElem?_cons_zero, List.getElem?_cons_succ, ev, ofConst, ofCell, ↓reduceIte, Nat.reduceEqDiff, Nat.reduceAdd, Nat.reduceSub, Nat.reduceMul, Nat.reduceLeDiff, Nat.reduceLT, Int.reduceNeg, Int.reduceToNat, Int.reduceAdd, Int.reduceSub, Int.reduceMul, Int.reduceLT, Int.reduceLE, Int.reduceEq, Int.reduceNe, f0, f2, f3, f18, f19, Hp.read_of g10, Hp.stA_of g10, put4_2]
        have h11 := h10.set (l := l3) (ob := .cells [.v (.int .u8 kd.toNat), strV tx, .sl (SV (acc ++ [tt])) o10, .sl [] .nil]) (by rw [Hp.set_ne _ _ d3]; exact Hp.set_same _ _ _)
        rw [Hp.set_set_comm _ (Ne.symm d3), Hp.set_set] at h11
        exact ⟨⟨j + 1, r4, acc ++ [tt], o10, ow9, by omega, he, by simp; omega, h11, by simp⟩, by omega⟩
      · obtain rfl : j = N := by omega
        rw [Nat.sub_self] at he
        have he' : colGo j r3 [] = (acc, r') := by rw [← he]; rfl
        rw [he']
        have hl2 := (RO.rs hO).get d2 (by rw [Hp.set_ne _ _ d32]; exact g2)
        simp (dsimp := false) (implicitDefEqProofs := false) (disch := first | omega | assumption | (simp only [rL, Nat.reduceAdd]; try omega)) only [↓rA, rZ, List.drop_succ_cons, ne_eq, not_true_eq_false, not_false_eq_true, List.getElem?_cons_zero, List.getElem?_cons_succ, ev, ofConst, ofCell, ↓reduceIte, Nat.reduceEqDiff, Nat.reduceAdd, Nat.reduceSub, Nat.reduceMul, Nat.reduceLeDiff, Nat.reduceLT, Int.reduceNeg, Int.reduceToNat, Int.reduceAdd, Int.reduceSub, Int.reduceMul, Int.reduceLT, Int.reduceLE, Int.reduceEq, Int.reduceNe, f0, f2, f3, f18, f19, hlt, Hp.read_of g7, Hp.stA_of hl2, Hp.read_of hl2]
        exact ⟨_, Hp.sub_refl, hend ⟨⟨kd, tx, acc, []⟩, o, .nil⟩ r' s7 (RO.rs hO) hl2, ⟨⟨kd, tx, acc, []⟩, o, .nil⟩, rfl, rfl⟩
  have c1' : ¬ kd.toNat = 1 := by omega
  rw [if_neg c1']
  have c1t : ((kd.toNat : Int) = 1) = False := eq_false c1
  by_cases c34 : kd.toNat = 3 ∨ kd.toNat = 4
  · rw [if_pos c34]
    have fin : ∀ (s6 : Hp) (ow6 : Own), RS (sA.set l3 (.cells [.v (.int .u8 kd.toNat), strV tx, .sl [] .nil, .sl [] .nil])) l (rowR 8 r2).2 s6 →
        RS s0 l (rowR 8 r2).2 ((s6.set l3 (.cells [.v (.int .u8 kd.toNat), strV tx, .sl [] .nil, .sl (rowV (rowR 8 r2).1) ow6])).set l2 (.cells [.v (.int .u8 kd.toNat), strV tx, .sl [] .nil, .sl (rowV (rowR 8 r2).1) ow6])) := by
      intro s6 ow6 h6
      have h7 := h6.other (ob := .cells [.v (.int .u8 kd.toNat), strV tx, .sl [] .nil, .sl (rowV (rowR 8 r2).1) ow6]) d3
      rw [Hp.set_set] at h7
      exact hend ⟨⟨kd, tx, [], (rowR 8 r2).1⟩, .nil, ow6⟩ _ _ h7 (h7.get d2 (by rw [Hp.set_ne _ _ d32]; exact g2))
    by_cases c3 : (kd.toNat : Int) = 3
    · have c3t : ((kd.toNat : Int) = 3) = True := eq_true c3
      simp (dsimp := false) (implicitDefEqProofs := false) (disch := first | omega | assumption | (simp only [rL, Nat.reduceAdd]; try omega)) only [↓rA, rZ, List.drop_succ_cons, ne_eq, not_true_eq_false, not_false_eq_true, List.getElem?_cons_zero, List.getElem?_cons_succ, ev, ofConst, ofCell, ↓reduceIte, Nat.reduceEqDiff, Nat.reduceAdd, Nat.reduceSub, Nat.reduceMul, Nat.reduceLeDiff, Nat.reduceLT, Int.reduceNeg, Int.reduceToNat, Int.reduceAdd, Int.reduceSub, Int.reduceMul, Int.reduceLT, Int.reduceLE, Int.reduceEq, Int.reduceNe, c1t, c3t]
      refine call_intro (rrow_spec _ _ l 8 (by omega) r2 (q3 _) h5) ?_
      rintro x s6 ⟨h6, ow6, rfl⟩
      have g6 := h6.get d3 (Hp.set_same _ _ _)
      have gl := h6.get d2 (by rw [Hp.set_ne _ _ d32]; exact g2)
      simp (dsimp := false) (implicitDefEqProofs := false) (disch := first | omega | assumption | (simp only [rL, Nat.reduceAdd]; try omega)) only [↓rA, rZ, List.drop_succ_cons, ne_eq, not_true_eq_false, not_false_eq_true, List.getElem?_cons_zero, List.getElem?_cons_succ, ev, ofConst, ofCell, ↓reduceIte, Nat.reduceEqDiff, Nat.reduceAdd, Nat.reduceSub, Nat.reduceMul, Nat.reduceLeDiff, Nat.reduceLT, Int.reduceNeg, Int.reduceToNat, Int.reduceAdd, Int.reduceSub, Int.reduceMul, Int.reduceLT, Int.reduceLE, Int.reduceEq, Int.reduceNe, Hp.read_of g6, Hp.stA_of g6, put4_3, Hp.stA_of gl, Hp.read_of gl, d32, Ne.symm d32]
      exact ⟨_, Hp.sub_refl, fin s6 ow6 h6, ⟨⟨kd, tx, [], (rowR 8 r2).1⟩, .nil, ow6⟩, rfl, rfl⟩
    · have c3t : ((kd.toNat : Int) = 3) = False := eq_false c3
      have c4t : ((kd.toNat : Int) = 4) = True := eq_true (by omega)
      simp (dsimp := false) (implicitDefEqProofs := false) (disch := first | omega | assumption | (simp only [rL, Nat.reduceAdd]; try omega)) only [↓rA, rZ, List.drop_succ_cons, ne_eq, not_true_eq_false, not_false_eq_true, List.getElem?_cons_zero, List.getElem?_cons_succ, ev, ofConst, ofCell, ↓reduceIte, Nat.reduceEqDiff, Nat.reduceAdd, Nat.reduceSub, Nat.reduceMul, Nat.reduceLeDiff, Nat.reduceLT, Int.reduceNeg, Int.reduceToNat, Int.reduceAdd, Int.reduceSub, Int.reduceMul, Int.reduceLT, Int.reduceLE, Int.reduceEq, Int.reduceNe, c1t, c3t, c4t]
      refine call_intro (rrow_spec _ _ l 8 (by omega) r2 (q3 _) h5) ?_
      rintro x s6 ⟨h6, ow6, rfl⟩
      have g6 := h6.get d3 (Hp.set_same _ _ _)
      have gl := h6.get d2 (by rw [Hp.set_ne _ _ d32]; exact g2)
      simp (dsimp := false) (implicitDefEqProofs := false) (disch := first | omega | assumption | (simp only [rL, Nat.reduceAdd]; try omega)) only [↓rA, rZ, List.drop_succ_cons, ne_eq, not_true_eq_false, not_false_eq_true, List.getElem?_cons_zero, List.getElem?_cons_succ, ev, ofConst, ofCell, ↓reduceIte, Nat.reduceEqDiff, Nat.reduceAdd, Nat.reduceSub, Nat.reduceMul, Nat.reduceLeDiff, Nat.reduceLT, Int.reduceNeg, Int.reduceToNat, Int.reduceAdd, Int.reduceSub, Int.reduceMul, Int.reduceLT, Int.reduceLE, Int.reduceEq, Int.reduceNe, Hp.read_of g6, Hp.stA_of g6, put4_3, Hp.stA_of gl, Hp.read_of gl, d32, Ne.symm d32]
      exact ⟨_, Hp.sub_refl, fin s6 ow6 h6, ⟨⟨kd, tx, [], (rowR 8 r2).1⟩, .nil, ow6⟩, rfl, rfl⟩
  · rw [if_neg c34]
    have c3t : ((kd.toNat : Int) = 3) = False := eq_false (by omega)
    have c4t : ((kd.toNat : Int) = 4) = False := eq_false (by omega)
    have gl := h5.get d2 (by rw [Hp.set_ne _ _ d32]; exact g2)
    have gl4 := h4.get d2 (by rw [Hp.set_ne _ _ d32]; exact g2)
    simp (dsimp := false) (implicitDefEqProofs := false) (disch := first | omega | assumption | (simp only [rL, Nat.reduceAdd]; try omega)) only [↓rA, rZ, List.drop_succ_cons, ne_eq, not_true_eq_false, not_false_eq_true, List.getElem?_cons_zero, List.getElem?_cons_succ, ev, ofConst, ofCell, ↓reduceIte, Nat.reduceEqDiff, Nat.reduceAdd, Nat.reduceSub, Nat.reduceMul, Nat.reduceLeDiff, Nat.reduceLT, Int.reduceNeg, Int.reduceToNat, Int.reduceAdd, Int.reduceSub, Int.reduceMul, Int.reduceLT, Int.reduceLE, Int.reduceEq, Int.reduceNe, c1t, c3t, c4t, Hp.stA_of gl, Hp.read_of gl, Hp.stA_of gl4, Hp.read_of gl4, d32, Ne.symm d32]
    exact ⟨_, Hp.sub_refl, hend ⟨⟨kd, tx, [], []⟩, .nil, .nil⟩ r2 _ h5 gl, ⟨⟨kd, tx, [], []⟩, .nil, .nil⟩, rfl, rfl⟩
def opsGo : Nat → Rd → List OpD → Option (List OpD) × Rd
  | 0, r, acc => (some acc, r)
  | n + 1, r, acc => if (readOpR r).2.e = 0 then opsGo n (readOpR r).2 (acc ++ [(readOpR r).1]) else (none, (readOpR r).2)
def readOpsF (bs : List UInt8) : Option (List OpD) :=
  match opsGo (countR 256 ⟨bs, 0⟩).1 (countR 256 ⟨bs, 0⟩).2 [] with
  | (none, _) => none
  | (some l, r) => if (endR r).e = 0 ∧ opsF l = some bs then some l else none
theorem opsGo_ok : ∀ (n : Nat) (r : Rd) (acc l : List OpD) (r' : Rd), (∀ o ∈ acc, o.ok) → opsGo n r acc = (some l, r') → (∀ o ∈ l, o.ok) ∧ l.length = acc.length + n
  | 0, r, acc, l, r', h, e => by
    simp only [opsGo, Prod.mk.injEq, Option.some.injEq] at e
    obtain ⟨rfl, _⟩ := e
    exact ⟨h, rfl⟩
  | n + 1, r, acc, l, r', h, e => by
    rw [opsGo] at e
    split at e
    · obtain ⟨h1, h2⟩ := opsGo_ok n _ _ l r' (by
        intro o ho
        rcases List.mem_append.1 ho with ho | ho
        · exact h o ho
        · rw [List.mem_singleton.1 ho]; exact readOpR_ok r) e
      refine ⟨h1, ?_⟩
      rw [h2]; simp; omega
    · cases e
theorem readOpsF_ops {bs : List UInt8} {l : List OpD} (h : readOpsF bs = some l) : opsF l = some bs ∧ (∀ o ∈ l, o.ok) ∧ l.length ≤ 256 := by
  have hc := countR_le 256 ⟨bs, 0⟩
  unfold readOpsF at h
  split at h
  · cases h
  · rename_i l' r' e
    split at h
    · rename_i h2
      cases h
      obtain ⟨h3, h4⟩ := opsGo_ok _ _ _ _ _ (by simp) e
      exact ⟨h2.2, h3, by rw [h4]; simp; omega⟩
    · cases h
theorem readops_spec (bs : List UInt8) (o : Own) (ho : o = .nil → bs = []) (hb : bs.length ≤ 100000000) (s : Hp) :
    AC Tryz.prog 56 [.sl (bs.map byteAV) o] s fun x s' => s' = s ∧ match readOpsF bs with
      | none => x = .tup [.sl [] .nil, .v (.int .i64 21)]
      | some l => ∃ (lr : List OpR) (ol : Own), lr.map (·.d) = l ∧ x = .tup [.sl (OL lr) ol, .v (.int .i64 0)] := by
  refine AC_run hm prep56 (by simp) ?_
  simp (dsimp := false) (implicitDefEqProofs := false) (disch := first | omega | assumption | (simp only [rL, Nat.reduceAdd]; try omega)) only [↓rA, rZ, List.drop_succ_cons, ne_eq, not_true_eq_false, not_false_eq_true, List.getElem?_cons_zero, List.getElem?_cons_succ, ev, ofConst, ofCell, ↓reduceIte, Nat.reduceEqDiff, Nat.reduceAdd, Nat.reduceSub, Nat.reduceMul, Nat.reduceLeDiff, Nat.reduceLT, Int.reduceNeg, Int.reduceToNat, Int.reduceAdd, Int.reduceSub, Int.reduceMul, Int.reduceLT, Int.reduceLE, Int.reduceEq, Int.reduceNe]
  refine call_intro (New_spec bs o s ho (by omega)) ?_
  rintro _ s1 ⟨l1, n1, rfl, h1⟩
  simp (dsimp := false) (implicitDefEqProofs := false) (disch := first | omega | assumption | (simp only [rL, Nat.reduceAdd]; try omega)) only [↓rA, rZ, List.drop_succ_cons, ne_eq, not_true_eq_false, not_false_eq_true, List.getElem?_cons_zero, List.getElem?_cons_succ, ev, ofConst, ofCell, ↓reduceIte, Nat.reduceEqDiff, Nat.reduceAdd, Nat.reduceSub, Nat.reduceMul, Nat.reduceLeDiff, Nat.reduceLT, Int.reduceNeg, Int.reduceToNat, Int.reduceAdd, Int.reduceSub, Int.reduceMul, Int.reduceLT, Int.reduceLE, Int.reduceEq, Int.reduceNe]
  refine call_intro (rcount_spec s s1 l1 256 (by omega) _ h1) ?_
  rintro x s2 ⟨h2, rfl⟩
  have hc := (countR_le 256 ⟨bs, 0⟩).1
  unfold readOpsF
  generalize countR 256 ⟨bs, 0⟩ = t at *
  obtain ⟨N, r2⟩ := t
  simp only at h2 hc ⊢
  simp (dsimp := false) (implicitDefEqProofs := false) (disch := first | omega | assumption | (simp only [rL, Nat.reduceAdd]; try omega)) only [↓rA, rZ, List.drop_succ_cons, ne_eq, not_true_eq_false, not_false_eq_true, List.getElem?_cons_zero, List.getElem?_cons_succ, ev, ofConst, ofCell, ↓reduceIte, Nat.reduceEqDiff, Nat.reduceAdd, Nat.reduceSub, Nat.reduceMul, Nat.reduceLeDiff, Nat.reduceLT, Int.reduceNeg, Int.reduceToNat, Int.reduceAdd, Int.reduceSub, Int.reduceMul, Int.reduceLT, Int.reduceLE, Int.reduceEq, Int.reduceNe]
  have hsub := h2.sub n1
  refine loop_intro (fun f s' => ∃ (j : Nat) (r' : Rd) (acc : List OpR) (oa ow : Own), j ≤ N ∧ opsGo (N - j) r' (acc.map (·.d)) = opsGo N r2 [] ∧ acc.length ≤ j ∧ (∀ x ∈ acc, x.d.ok) ∧ Owned (s.set l1 (RC r' ow)) s' 4 (OL acc) oa ∧ f 0 = .sl (bs.map byteAV) o ∧ f 2 = .sl [] .nil ∧ f 4 = .ptr l1 0 ∧ f 5 = .sl (OL acc) oa ∧ f 12 = .v (.int .i64 N) ∧ f 13 = .v (.int .i64 j))
    (fun f _ => match f 13 with | .v (.int _ n) => (N - n).toNat | _ => 0) ?_ ?_
  · obtain ⟨ow, h2⟩ := h2
    refine ⟨0, r2, [], .nil, ow, by omega, rfl, by simp, by simp, Owned.nil h2, ?_⟩
    simp (dsimp := false) (implicitDefEqProofs := false) (disch := first | omega | assumption | (simp only [rL, Nat.reduceAdd]; try omega)) only [↓rA, rZ, List.drop_succ_cons, ne_eq, not_true_eq_false, not_false_eq_true, List.getElem?_cons_zero, List.getElem?_cons_succ, ev, ofConst, ofCell, ↓reduceIte, Nat.reduceEqDiff, Nat.reduceAdd, Nat.reduceSub, Nat.reduceMul, Nat.reduceLeDiff, Nat.reduceLT, Int.reduceNeg, Int.reduceToNat, Int.reduceAdd, Int.reduceSub, Int.reduceMul, Int.reduceLT, Int.reduceLE, Int.reduceEq, Int.reduceNe]
    rfl
  · rintro f s3 ⟨j, r', acc, oa, ow, hj, he, hal, hok, hO, f0, f2, f4, f5, f12, f13⟩
    have hss := (RO.rs hO).sub n1
    by_cases hlt : (j : Int) < N
    · simp (dsimp := false) (implicitDefEqProofs := false) (disch := first | omega | assumption | (simp only [rL, Nat.reduceAdd]; try omega)) only [↓rA, rZ, List.drop_succ_cons, ne_eq, not_true_eq_false, not_false_eq_true, List.getElem?_cons_zero, List.getElem?_cons_succ, ev, ofConst, ofCell, ↓reduceIte, Nat.reduceEqDiff, Nat.reduceAdd, Nat.reduceSub, Nat.reduceMul, Nat.reduceLeDiff, Nat.reduceLT, Int.reduceNeg, Int.reduceToNat, Int.reduceAdd, Int.reduceSub, Int.reduceMul, Int.reduceLT, Int.reduceLE, Int.reduceEq, Int.reduceNe, f0, f2, f4, f5, f12, f13, hlt]
      refine call_intro (readop_spec (s3.del l1) s3 l1 r' (Hp.del_same _ _) (RO.rs hO).full) ?_
      rintro x s4 ⟨h4, u, hu, rfl⟩
      have huk := readOpR_ok r'
      rw [← hu] at huk
      have hstep : opsGo (N - j) r' (acc.map (·.d)) = if (readOpR r').2.e = 0 then opsGo (N - (j + 1)) (readOpR r').2 (acc.map (·.d) ++ [(readOpR r').1]) else (none, (readOpR r').2) := by
        rw [show N - j = (N - (j + 1)) + 1 by omega]; rfl
      rw [hstep, ← hu] at he
      obtain ⟨ow4, hO4⟩ := RO.step hO n1 h4
      generalize (readOpR r').2 = r4 at *
      have hul := OpR.lenC (o := u)
      have huf := OpR.fold (o := u)
      have huc := OpR.cells (o := u)
      have hp : putAt [AV.v (.int .u8 0), AV.v (.string ⟨#[]⟩), AV.sl [] .nil, AV.sl [] .nil] 0 u.C = u.C := putAt_all (by rw [hul]; rfl)
      simp (dsimp := false) (implicitDefEqProofs := false) (disch := first | omega | assumption | (simp only [rL, Nat.reduceAdd]; try omega)) only [↓rA, rZ, List.drop_succ_cons, ne_eq, not_true_eq_false, not_false_eq_true, List.getElem?_cons_zero, List.getElem?_cons_succ, ev, ofConst, ofCell, ↓reduceIte, Nat.reduceEqDiff, Nat.reduceAdd, Nat.reduceSub, Nat.reduceMul, Nat.reduceLeDiff, Nat.reduceLT, Int.reduceNeg, Int.reduceToNat, Int.reduceAdd, Int.reduceSub, Int.reduceMul, Int.reduceLT, Int.reduceLE, Int.reduceEq, Int.reduceNe, f0, f2, f4, f5, f12, f13, hul, huf, huc, hp]
      refine newK_intro fun l6 n6 => ?_
      have hd6 : l6 ≠ l1 := by
        rintro rfl
        obtain ⟨ow5, g5⟩ := h4.cell
        rw [n6] at g5; cases g5
      have e6 : s l6 = none := by
        have := Hp.sub_none hO4.sub n6
        rwa [Hp.set_ne _ _ hd6] at this
      have hO6 := (hO4.new (ob := .cells u.C) n6)
      rw [Hp.set_set_comm _ (Ne.symm hd6)] at hO6
      simp (dsimp := false) (implicitDefEqProofs := false) (disch := first | omega | assumption | (simp only [rL, Nat.reduceAdd]; try omega)) only [↓rA, rZ, List.drop_succ_cons, ne_eq, not_true_eq_false, not_false_eq_true, List.getElem?_cons_zero, List.getElem?_cons_succ, ev, ofConst, ofCell, ↓reduceIte, Nat.reduceEqDiff, Nat.reduceAdd, Nat.reduceSub, Nat.reduceMul, Nat.reduceLeDiff, Nat.reduceLT, Int.reduceNeg, Int.reduceToNat, Int.reduceAdd, Int.reduceSub, Int.reduceMul, Int.reduceLT, Int.reduceLE, Int.reduceEq, Int.reduceNe, f0, f2, f4, f5, f12, f13, hul, huf, huc, hp]
      refine call_intro (rerr_spec _ _ l1 r4 (RO.rs hO6)) ?_
      rintro _ s7 ⟨rfl, rfl⟩
      by_cases c : r4.e = 0
      · rw [if_pos c] at he
        simp (dsimp := false) (implicitDefEqProofs := false) (disch := first | omega | assumption | (simp only [rL, Nat.reduceAdd]; try omega)) only [↓rA, rZ, List.drop_succ_cons, ne_eq, not_true_eq_false, not_false_eq_true, List.getElem?_cons_zero, List.getElem?_cons_succ, ev, ofConst, ofCell, ↓reduceIte, Nat.reduceEqDiff, Nat.reduceAdd, Nat.reduceSub, Nat.reduceMul, Nat.reduceLeDiff, Nat.reduceLT, Int.reduceNeg, Int.reduceToNat, Int.reduceAdd, Int.reduceSub, Int.reduceMul, Int.reduceLT, Int.reduceLE, Int.reduceEq, Int.reduceNe, f0, f2, f4, f5, f12, f13, hul, huf, huc, hp, c]
        refine bsl_own Hp.sub_refl (by simp [allLen, huc, hul]) fun o9 s9 h9 => ?_
        simp (dsimp := false) (implicitDefEqProofs := false) (disch := first | omega | assumption | (simp only [rL, Nat.reduceAdd]; try omega)) only [↓rA, rZ, List.drop_succ_cons, ne_eq, not_true_eq_false, not_false_eq_true, List.getElem?_cons_zero, List.getElem?_cons_succ, ev, ofConst, ofCell, ↓reduceIte, Nat.reduceEqDiff, Nat.reduceAdd, Nat.reduceSub, Nat.reduceMul, Nat.reduceLeDiff, Nat.reduceLT, Int.reduceNeg, Int.reduceToNat, Int.reduceAdd, Int.reduceSub, Int.reduceMul, Int.reduceLT, Int.reduceLE, Int.reduceEq, Int.reduceNe, f0, f2, f4, f5, f12, f13]
        have hol := OL_length (l := acc)
        refine app_own (hO6.mono h9.sub) (fun x hx => by obtain ⟨y, _, rfl⟩ := List.mem_map.1 hx; rfl) (by simp [allLen, huc, hul]) (by rw [hol]; simp; omega) (by rw [hol]; simp; omega) fun o10 s10 h10 => ?_
        have ea : OL acc ++ [u.V] = OL (acc ++ [u]) := by simp [OL]
        rw [ea] at h10 ⊢
        simp (dsimp := false) (implicitDefEqProofs := false) (disch := first | omega | assumption | (simp only [rL, Nat.reduceAdd]; try omega)) only [↓rA, rZ, List.drop_succ_cons, ne_eq, not_true_eq_false, not_false_eq_true, List.getElem?_cons_zero, List.getElem?_cons_succ, ev, ofConst, ofCell, ↓reduceIte, Nat.reduceEqDiff, Nat.reduceAdd, Nat.reduceSub, Nat.reduceMul, Nat.reduceLeDiff, Nat.reduceLT, Int.reduceNeg, Int.reduceToNat, Int.reduceAdd, Int.reduceSub, Int.reduceMul, Int.reduceLT, Int.reduceLE, Int.reduceEq, Int.reduceNe, f0, f2, f4, f5, f12, f13]
        refine ⟨⟨j + 1, r4, acc ++ [u], o10, ow4, by omega, ?_, by simp; omega, ?_, h10.base (Hp.sub_set (Hp.sub_new Hp.sub_refl e6)), rfl, by simp⟩, by omega⟩
        · rw [← he]; simp
        · intro x hx
          rcases List.mem_append.1 hx with hx | hx
          · exact hok x hx
          · rw [List.mem_singleton.1 hx]; exact huk
      · rw [if_neg c] at he
        simp (dsimp := false) (implicitDefEqProofs := false) (disch := first | omega | assumption | (simp only [rL, Nat.reduceAdd]; try omega)) only [↓rA, rZ, List.drop_succ_cons, ne_eq, not_true_eq_false, not_false_eq_true, List.getElem?_cons_zero, List.getElem?_cons_succ, ev, ofConst, ofCell, ↓reduceIte, Nat.reduceEqDiff, Nat.reduceAdd, Nat.reduceSub, Nat.reduceMul, Nat.reduceLeDiff, Nat.reduceLT, Int.reduceNeg, Int.reduceToNat, Int.reduceAdd, Int.reduceSub, Int.reduceMul, Int.reduceLT, Int.reduceLE, Int.reduceEq, Int.reduceNe, f0, f2, f4, f5, f12, f13, c]
        refine ⟨s, ?_, rfl, ?_⟩
        · have q : (s.set l6 (.cells u.C)) l1 = none := by rw [Hp.set_ne _ _ (Ne.symm hd6)]; exact n1
          have q2 : s.sub (s.set l6 (.cells u.C)) := Hp.sub_new Hp.sub_refl e6
          exact Hp.sub_trans (Hp.sub_new q2 n1) hO6.sub
        · rw [← he]; trivial
    · obtain rfl : j = N := by omega
      rw [Nat.sub_self] at he
      have he' : opsGo j r2 [] = (some (acc.map (·.d)), r') := by rw [← he]; rfl
      rw [he']
      simp (dsimp := false) (implicitDefEqProofs := false) (disch := first | omega | assumption | (simp only [rL, Nat.reduceAdd]; try omega)) only [↓rA, rZ, List.drop_succ_cons, ne_eq, not_true_eq_false, not_false_eq_true, List.getElem?_cons_zero, List.getElem?_cons_succ, ev, ofConst, ofCell, ↓reduceIte, Nat.reduceEqDiff, Nat.reduceAdd, Nat.reduceSub, Nat.reduceMul, Nat.reduceLeDiff, Nat.reduceLT, Int.reduceNeg, Int.reduceToNat, Int.reduceAdd, Int.reduceSub, Int.reduceMul, Int.reduceLT, Int.reduceLE, Int.reduceEq, Int.reduceNe, f0, f2, f4, f5, f12, f13, hlt]
      refine call_intro (rend_spec s s3 l1 r' (RO.rs hO)) ?_
      rintro _ s4 ⟨h4, rfl⟩
      have hss4 := h4.sub n1
      by_cases c : (endR r').e = 0
      · simp (dsimp := false) (implicitDefEqProofs := false) (disch := first | omega | assumption | (simp only [rL, Nat.reduceAdd]; try omega)) only [↓rA, rZ, List.drop_succ_cons, ne_eq, not_true_eq_false, not_false_eq_true, List.getElem?_cons_zero, List.getElem?_cons_succ, ev, ofConst, ofCell, ↓reduceIte, Nat.reduceEqDiff, Nat.reduceAdd, Nat.reduceSub, Nat.reduceMul, Nat.reduceLeDiff, Nat.reduceLT, Int.reduceNeg, Int.reduceToNat, Int.reduceAdd, Int.reduceSub, Int.reduceMul, Int.reduceLT, Int.reduceLE, Int.reduceEq, Int.reduceNe, f0, f2, f4, f5, f12, f13, c]
        refine call_intro (ops_spec acc oa (by omega) hok s4) ?_
        rintro x s4 ⟨rfl, hx⟩
        cases hq : opsF (acc.map (·.d)) with
        | none =>
          rw [hq] at hx
          obtain rfl : x = _ := hx
          simp (dsimp := false) (implicitDefEqProofs := false) (disch := first | omega | assumption | (simp only [rL, Nat.reduceAdd]; try omega)) only [↓rA, rZ, List.drop_succ_cons, ne_eq, not_true_eq_false, not_false_eq_true, List.getElem?_cons_zero, List.getElem?_cons_succ, ev, ofConst, ofCell, ↓reduceIte, Nat.reduceEqDiff, Nat.reduceAdd, Nat.reduceSub, Nat.reduceMul, Nat.reduceLeDiff, Nat.reduceLT, Int.reduceNeg, Int.reduceToNat, Int.reduceAdd, Int.reduceSub, Int.reduceMul, Int.reduceLT, Int.reduceLE, Int.reduceEq, Int.reduceNe, f0, f2, f4, f5, f12, f13]
          refine ⟨s, hss4, rfl, ?_⟩
          rw [if_neg (fun h => by simp [hq] at h)]
          trivial
        | some cs =>
          rw [hq] at hx
          obtain ⟨o', rfl⟩ := hx
          simp (dsimp := false) (implicitDefEqProofs := false) (disch := first | omega | assumption | (simp only [rL, Nat.reduceAdd]; try omega)) only [↓rA, rZ, List.drop_succ_cons, ne_eq, not_true_eq_false, not_false_eq_true, List.getElem?_cons_zero, List.getElem?_cons_succ, ev, ofConst, ofCell, ↓reduceIte, Nat.reduceEqDiff, Nat.reduceAdd, Nat.reduceSub, Nat.reduceMul, Nat.reduceLeDiff, Nat.reduceLT, Int.reduceNeg, Int.reduceToNat, Int.reduceAdd, Int.reduceSub, Int.reduceMul, Int.reduceLT, Int.reduceLE, Int.reduceEq, Int.reduceNe, f0, f2, f4, f5, f12, f13]
          have hcl : cs.length ≤ 70368744177664 := by
            unfold opsF at hq
            split at hq
            · cases hq
              have hfl := flatMap_opB_le (l := acc.map (·.d)) fun x hx => by
                obtain ⟨y, hy, rfl⟩ := List.mem_map.1 hx
                exact hok y hy
              rw [List.length_map] at hfl
              rw [opsB, List.length_append, countB_length]; omega
            · cases hq
          refine call_intro (equal_spec cs bs o' o s4 hcl) ?_
          rintro _ s4 ⟨rfl, rfl⟩
          by_cases e : cs = bs
          · simp (dsimp := false) (implicitDefEqProofs := false) (disch := first | omega | assumption | (simp only [rL, Nat.reduceAdd]; try omega)) only [↓rA, rZ, List.drop_succ_cons, ne_eq, not_true_eq_false, not_false_eq_true, List.getElem?_cons_zero, List.getElem?_cons_succ, ev, ofConst, ofCell, ↓reduceIte, Nat.reduceEqDiff, Nat.reduceAdd, Nat.reduceSub, Nat.reduceMul, Nat.reduceLeDiff, Nat.reduceLT, Int.reduceNeg, Int.reduceToNat, Int.reduceAdd, Int.reduceSub, Int.reduceMul, Int.reduceLT, Int.reduceLE, Int.reduceEq, Int.reduceNe, f0, f2, f4, f5, f12, f13, e]
            refine ⟨s, hss4, rfl, ?_⟩
            rw [if_pos (by simp [hq, e, c])]
            exact ⟨acc, oa, rfl, rfl⟩
          · simp (dsimp := false) (implicitDefEqProofs := false) (disch := first | omega | assumption | (simp only [rL, Nat.reduceAdd]; try omega)) only [↓rA, rZ, List.drop_succ_cons, ne_eq, not_true_eq_false, not_false_eq_true, List.getElem?_cons_zero, List.getElem?_cons_succ, ev, ofConst, ofCell, ↓reduceIte, Nat.reduceEqDiff, Nat.reduceAdd, Nat.reduceSub, Nat.reduceMul, Nat.reduceLeDiff, Nat.reduceLT, Int.reduceNeg, Int.reduceToNat, Int.reduceAdd, Int.reduceSub, Int.reduceMul, Int.reduceLT, Int.reduceLE, Int.reduceEq, Int.reduceNe, f0, f2, f4, f5, f12, f13, e]
            refine ⟨s, hss4, rfl, ?_⟩
            rw [if_neg (fun h => by simp [hq, e] at h)]
            trivial
      · simp (dsimp := false) (implicitDefEqProofs := false) (disch := first | omega | assumption | (simp only [rL, Nat.reduceAdd]; try omega)) only [↓rA, rZ, List.drop_succ_cons, ne_eq, not_true_eq_false, not_false_eq_true, List.getElem?_cons_zero, List.getElem?_cons_succ, ev, ofConst, ofCell, ↓reduceIte, Nat.reduceEqDiff, Nat.reduceAdd, Nat.reduceSub, Nat.reduceMul, Nat.reduceLeDiff, Nat.reduceLT, Int.reduceNeg, Int.reduceToNat, Int.reduceAdd, Int.reduceSub, Int.reduceMul, Int.reduceLT, Int.reduceLE, Int.reduceEq, Int.reduceNe, f0, f2, f4, f5, f12, f13, c]
        refine ⟨s, hss4, rfl, ?_⟩
        rw [if_neg (by simp)]
        trivial
end Go.Proofs.YtnnjjmiahcnbaaaGreat
/-
  block.ReadHead, ReadBlock.
-/
set_option maxRecDepth 100000
namespace Go.Proofs.YtnnjjmiahcnbaaaGreat
open Go Go.Av
def zh : Hd := ⟨zd, 0, zd, zd⟩
theorem zh_ok : zh.ok := ⟨rfl, rfl, rfl⟩
theorem zh_C : List.replicate 32 (AV.v (.int .u8 0)) ++ [AV.v (.int .i64 0)] ++ List.replicate 64 (AV.v (.int .u8 0)) = hdC zd 0 zd zd := rfl
theorem hdC_length {p o t : List UInt8} {n : Int} (hp : p.length = 32) (ho : o.length = 32) (ht : t.length = 32) : (hdC p n o t).length = 97 := by simp [hdC, hp, ho, ht]
theorem put_h0 {p q o t : List UInt8} {n : Int} (hp : p.length = 32) (hq : q.length = 32) : putAt (hdC p n o t) 0 (q.map byteAV) = hdC q n o t := by
  simp only [putAt, hdC, List.take_zero, List.nil_append, Nat.zero_add]
  rw [List.length_map, hq, show (32 : Nat) = (p.map byteAV).length by simp [hp], List.drop_left]
theorem put_h32 {p o t : List UInt8} {n m : Int} (hp : p.length = 32) : putAt (hdC p n o t) 32 [.v (.int .i64 m)] = hdC p m o t := by
  simp only [putAt, hdC, List.length_singleton]
  rw [show (32 : Nat) = (p.map byteAV).length by simp [hp], List.take_left, ← List.drop_drop, List.drop_left]
  simp
theorem put_h33 {p q o t : List UInt8} {n : Int} (hp : p.length = 32) (hq : q.length = 32) (ho : o.length = 32) : putAt (hdC p n o t) 33 (q.map byteAV) = hdC p n q t := by
  have e : hdC p n o t = (p.map byteAV ++ [.v (.int .i64 n)]) ++ (o.map byteAV ++ t.map byteAV) := by simp [hdC]
  have hl : (33 : Nat) = (p.map byteAV ++ [AV.v (.int .i64 n)]).length := by simp [hp]
  rw [putAt, e, List.length_map, hq, hl, List.take_left, ← List.drop_drop, List.drop_left, show (32 : Nat) = (o.map byteAV).length by simp [ho], List.drop_left]
  simp [hdC]
theorem put_h65 {p q o t : List UInt8} {n : Int} (hp : p.length = 32) (hq : q.length = 32) (ho : o.length = 32) (ht : t.length = 32) : putAt (hdC p n o t) 65 (q.map byteAV) = hdC p n o q := by
  have e : hdC p n o t = (p.map byteAV ++ [.v (.int .i64 n)] ++ o.map byteAV) ++ t.map byteAV := by simp [hdC]
  have hl : (65 : Nat) = (p.map byteAV ++ [AV.v (.int .i64 n)] ++ o.map byteAV).length := by simp [hp, ho]
  rw [putAt, e, List.length_map, hq, hl, List.take_left, ← List.drop_drop, List.drop_left, List.drop_eq_nil_of_le (by simp [ht])]
  simp [hdC]
def readHeadF (bs : List UInt8) : Option Hd :=
  let p := digR ⟨bs, 0⟩
  let n := numR p.2
  let o := digR n.2
  let t := digR o.2
  if (endR t.2).e = 0 ∧ 0 ≤ n.1 ∧ n.1 ≤ 1099511627776 then some ⟨p.1, n.1, o.1, t.1⟩ else none
theorem readHeadF_ok {bs : List UInt8} {h : Hd} (e : readHeadF bs = some h) : h.ok ∧ h.may = true := by
  unfold readHeadF at e
  simp only at e
  split at e
  · rename_i c
    cases e
    exact ⟨⟨digR_length _, digR_length _, digR_length _⟩, by simp [Hd.may, c.2.1, c.2.2]⟩
  · cases e
theorem readhead_spec (bs : List UInt8) (o : Own) (ho : o = .nil → bs = []) (hb : bs.length ≤ 100000000) (s : Hp) :
    AC Tryz.prog 55 [.sl (bs.map byteAV) o] s fun x s' => s' = s ∧ match readHeadF bs with
      | none => x = .tup [zh.V, .v (.int .i64 21)]
      | some h => x = .tup [h.V, .v (.int .i64 0)] := by
  refine AC_run hm prep55 (by simp) ?_
  rw [zh_C]
  have hz : (hdC zd 0 zd zd).length = 97 := rfl
  simp (dsimp := false) (implicitDefEqProofs := false) (disch := first | omega | assumption | (simp only [rL, Nat.reduceAdd]; try omega)) only [↓rA, rZ, List.drop_succ_cons, ne_eq, not_true_eq_false, not_false_eq_true, List.getElem?_cons_zero, List.getElem?_cons_succ, ev, ofConst, ofCell, ↓reduceIte, Nat.reduceEqDiff, Nat.reduceAdd, Nat.reduceSub, Nat.reduceMul, Nat.reduceLeDiff, Nat.reduceLT, Int.reduceNeg, Int.reduceToNat, Int.reduceAdd, Int.reduceSub, Int.reduceMul, Int.reduceLT, Int.reduceLE, Int.reduceEq, Int.reduceNe, dg_cells, dg_fold]
  refine newK_intro fun l2 n2 => ?_
  have g2 : (s.set l2 (.cells (hdC zd 0 zd zd))) l2 = some (.cells (hdC zd 0 zd zd)) := Hp.set_same _ _ _
  have b2 : s.sub (s.set l2 (.cells (hdC zd 0 zd zd))) := Hp.sub_new Hp.sub_refl n2
  generalize (s.set l2 (.cells (hdC zd 0 zd zd))) = sA at *
  simp (dsimp := false) (implicitDefEqProofs := false) (disch := first | omega | assumption | (simp only [rL, Nat.reduceAdd]; try omega)) only [↓rA, rZ, List.drop_succ_cons, ne_eq, not_true_eq_false, not_false_eq_true, List.getElem?_cons_zero, List.getElem?_cons_succ, ev, ofConst, ofCell, ↓reduceIte, Nat.reduceEqDiff, Nat.reduceAdd, Nat.reduceSub, Nat.reduceMul, Nat.reduceLeDiff, Nat.reduceLT, Int.reduceNeg, Int.reduceToNat, Int.reduceAdd, Int.reduceSub, Int.reduceMul, Int.reduceLT, Int.reduceLE, Int.reduceEq, Int.reduceNe, dg_cells, dg_fold]
  refine call_intro (New_spec bs o sA ho (by omega)) ?_
  rintro _ s1 ⟨l1, n1, rfl, h1⟩
  have d21 : l2 ≠ l1 := by rintro rfl; rw [g2] at n1; cases n1
  simp (dsimp := false) (implicitDefEqProofs := false) (disch := first | omega | assumption | (simp only [rL, Nat.reduceAdd]; try omega)) only [↓rA, rZ, List.drop_succ_cons, ne_eq, not_true_eq_false, not_false_eq_true, List.getElem?_cons_zero, List.getElem?_cons_succ, ev, ofConst, ofCell, ↓reduceIte, Nat.reduceEqDiff, Nat.reduceAdd, Nat.reduceSub, Nat.reduceMul, Nat.reduceLeDiff, Nat.reduceLT, Int.reduceNeg, Int.reduceToNat, Int.reduceAdd, Int.reduceSub, Int.reduceMul, Int.reduceLT, Int.reduceLE, Int.reduceEq, Int.reduceNe, dg_cells, dg_fold]
  refine call_intro (rdigest_spec _ _ l1 _ h1) ?_
  rintro x s2 ⟨h2, rfl⟩
  have q1 := digR_length ⟨bs, 0⟩
  unfold readHeadF
  generalize digR ⟨bs, 0⟩ = t at *
  obtain ⟨p, r2⟩ := t
  simp only at h2 q1 ⊢
  have z1 : (hdC p 0 zd zd).length = 97 := hdC_length q1 rfl rfl
  simp (dsimp := false) (implicitDefEqProofs := false) (disch := first | omega | assumption | (simp only [rL, Nat.reduceAdd]; try omega)) only [↓rA, rZ, List.drop_succ_cons, ne_eq, not_true_eq_false, not_false_eq_true, List.getElem?_cons_zero, List.getElem?_cons_succ, ev, ofConst, ofCell, ↓reduceIte, Nat.reduceEqDiff, Nat.reduceAdd, Nat.reduceSub, Nat.reduceMul, Nat.reduceLeDiff, Nat.reduceLT, Int.reduceNeg, Int.reduceToNat, Int.reduceAdd, Int.reduceSub, Int.reduceMul, Int.reduceLT, Int.reduceLE, Int.reduceEq, Int.reduceNe, dg_cells, dg_fold, hz, q1, z1, put_h0 zd_length q1]
  refine newK_intro fun l5 n5 => ?_
  obtain ⟨d5, e5, h3⟩ := h2.new (ob := .cells (hdC p 0 zd zd)) n5
  have d52 : l2 ≠ l5 := by rintro rfl; rw [g2] at e5; cases e5
  have b5 : ∀ ob, s.sub (sA.set l5 ob) := fun ob => Hp.sub_trans b2 (Hp.sub_new Hp.sub_refl e5)
  have hp5 : putAt (hdC zd 0 zd zd) 0 (hdC p 0 zd zd) = hdC p 0 zd zd := putAt_all (by rw [z1, hz])
  simp (dsimp := false) (implicitDefEqProofs := false) (disch := first | omega | assumption | (simp only [rL, Nat.reduceAdd]; try omega)) only [↓rA, rZ, List.drop_succ_cons, ne_eq, not_true_eq_false, not_false_eq_true, List.getElem?_cons_zero, List.getElem?_cons_succ, ev, ofConst, ofCell, ↓reduceIte, Nat.reduceEqDiff, Nat.reduceAdd, Nat.reduceSub, Nat.reduceMul, Nat.reduceLeDiff, Nat.reduceLT, Int.reduceNeg, Int.reduceToNat, Int.reduceAdd, Int.reduceSub, Int.reduceMul, Int.reduceLT, Int.reduceLE, Int.reduceEq, Int.reduceNe, dg_cells, dg_fold, hz, q1, z1, put_h0 zd_length q1, hp5]
  refine call_intro (rnum_spec _ _ l1 r2 h3) ?_
  rintro x s4 ⟨h4, rfl⟩
  generalize numR r2 = t at *
  obtain ⟨n, r4⟩ := t
  simp only at h4 ⊢
  simp (dsimp := false) (implicitDefEqProofs := false) (disch := first | omega | assumption | (simp only [rL, Nat.reduceAdd]; try omega)) only [↓rA, rZ, List.drop_succ_cons, ne_eq, not_true_eq_false, not_false_eq_true, List.getElem?_cons_zero, List.getElem?_cons_succ, ev, ofConst, ofCell, ↓reduceIte, Nat.reduceEqDiff, Nat.reduceAdd, Nat.reduceSub, Nat.reduceMul, Nat.reduceLeDiff, Nat.reduceLT, Int.reduceNeg, Int.reduceToNat, Int.reduceAdd, Int.reduceSub, Int.reduceMul, Int.reduceLT, Int.reduceLE, Int.reduceEq, Int.reduceNe, dg_cells, dg_fold]
  refine call_intro (rdigest_spec _ _ l1 r4 h4) ?_
  rintro x s5 ⟨h5, rfl⟩
  have q2 := digR_length r4
  generalize digR r4 = t at *
  obtain ⟨od, r5⟩ := t
  simp only at h5 q2 ⊢
  have g5 := h5.get d5 (Hp.set_same _ _ _)
  have z2 : (hdC p 0 od zd).length = 97 := hdC_length q1 q2 rfl
  simp (dsimp := false) (implicitDefEqProofs := false) (disch := first | omega | assumption | (simp only [rL, Nat.reduceAdd]; try omega)) only [↓rA, rZ, List.drop_succ_cons, ne_eq, not_true_eq_false, not_false_eq_true, List.getElem?_cons_zero, List.getElem?_cons_succ, ev, ofConst, ofCell, ↓reduceIte, Nat.reduceEqDiff, Nat.reduceAdd, Nat.reduceSub, Nat.reduceMul, Nat.reduceLeDiff, Nat.reduceLT, Int.reduceNeg, Int.reduceToNat, Int.reduceAdd, Int.reduceSub, Int.reduceMul, Int.reduceLT, Int.reduceLE, Int.reduceEq, Int.reduceNe, dg_cells, dg_fold, q2, z1, z2, put_h33 q1 q2 zd_length, Hp.read_of g5, Hp.stA_of g5]
  have h6 := h5.other (ob := .cells (hdC p 0 od zd)) d5
  rw [Hp.set_set] at h6
  refine call_intro (rdigest_spec _ _ l1 r5 h6) ?_
  rintro x s7 ⟨h7, rfl⟩
  have q3 := digR_length r5
  generalize digR r5 = t at *
  obtain ⟨td, r7⟩ := t
  simp only at h7 q3 ⊢
  have g7 := h7.get d5 (Hp.set_same _ _ _)
  have z3 : (hdC p 0 od td).length = 97 := hdC_length q1 q2 q3
  simp (dsimp := false) (implicitDefEqProofs := false) (disch := first | omega | assumption | (simp only [rL, Nat.reduceAdd]; try omega)) only [↓rA, rZ, List.drop_succ_cons, ne_eq, not_true_eq_false, not_false_eq_true, List.getElem?_cons_zero, List.getElem?_cons_succ, ev, ofConst, ofCell, ↓reduceIte, Nat.reduceEqDiff, Nat.reduceAdd, Nat.reduceSub, Nat.reduceMul, Nat.reduceLeDiff, Nat.reduceLT, Int.reduceNeg, Int.reduceToNat, Int.reduceAdd, Int.reduceSub, Int.reduceMul, Int.reduceLT, Int.reduceLE, Int.reduceEq, Int.reduceNe, dg_cells, dg_fold, q3, z2, z3, put_h65 q1 q3 q2 zd_length, Hp.read_of g7, Hp.stA_of g7]
  have h8 := h7.other (ob := .cells (hdC p 0 od td)) d5
  rw [Hp.set_set] at h8
  refine call_intro (rend_spec _ _ l1 r7 h8) ?_
  rintro x s9 ⟨h9, rfl⟩
  have g9 := h9.get d5 (Hp.set_same _ _ _)
  have gl := h9.get d21 (by rw [Hp.set_ne _ _ d52]; exact g2)
  have hss : s.sub s9 := Hp.sub_trans (b5 _) (h9.sub (by rw [Hp.set_ne _ _ (Ne.symm d5)]; exact n1))
  have hs2 : ∀ ob, s.sub (s9.set l2 ob) := fun ob => Hp.sub_new hss n2
  generalize (endR r7).e = e at *
  have zf : (.agg ((hdC zd 0 zd zd).take 97) : AV) = zh.V := rfl
  by_cases c1 : e = 0
  · by_cases c2 : n < 0
    · simp (dsimp := false) (implicitDefEqProofs := false) (disch := first | omega | assumption | (simp only [rL, Nat.reduceAdd]; try omega)) only [↓rA, rZ, List.drop_succ_cons, ne_eq, not_true_eq_false, not_false_eq_true, List.getElem?_cons_zero, List.getElem?_cons_succ, ev, ofConst, ofCell, ↓reduceIte, Nat.reduceEqDiff, Nat.reduceAdd, Nat.reduceSub, Nat.reduceMul, Nat.reduceLeDiff, Nat.reduceLT, Int.reduceNeg, Int.reduceToNat, Int.reduceAdd, Int.reduceSub, Int.reduceMul, Int.reduceLT, Int.reduceLE, Int.reduceEq, Int.reduceNe, dg_cells, dg_fold, c1, c2, hz, zf, Hp.stA_of gl, Hp.read_of gl]
      refine ⟨s, hs2 _, rfl, ?_⟩
      rw [if_neg (by omega)]
      trivial
    · by_cases c3 : (1099511627776 : Int) < n
      · simp (dsimp := false) (implicitDefEqProofs := false) (disch := first | omega | assumption | (simp only [rL, Nat.reduceAdd]; try omega)) only [↓rA, rZ, List.drop_succ_cons, ne_eq, not_true_eq_false, not_false_eq_true, List.getElem?_cons_zero, List.getElem?_cons_succ, ev, ofConst, ofCell, ↓reduceIte, Nat.reduceEqDiff, Nat.reduceAdd, Nat.reduceSub, Nat.reduceMul, Nat.reduceLeDiff, Nat.reduceLT, Int.reduceNeg, Int.reduceToNat, Int.reduceAdd, Int.reduceSub, Int.reduceMul, Int.reduceLT, Int.reduceLE, Int.reduceEq, Int.reduceNe, dg_cells, dg_fold, c1, c2, c3, hz, zf, Hp.stA_of gl, Hp.read_of gl]
        refine ⟨s, hs2 _, rfl, ?_⟩
        rw [if_neg (by omega)]
        trivial
      · have z4 : (hdC p n od td).length = 97 := hdC_length q1 q2 q3
        have hz4 : putAt (hdC zd 0 zd zd) 0 (hdC p n od td) = hdC p n od td := putAt_all (by rw [z4, hz])
        have tk4 : (hdC p n od td).take 97 = hdC p n od td := List.take_of_length_le (by omega)
        simp (dsimp := false) (implicitDefEqProofs := false) (disch := first | omega | assumption | (simp only [rL, Nat.reduceAdd]; try omega)) only [↓rA, rZ, List.drop_succ_cons, ne_eq, not_true_eq_false, not_false_eq_true, List.getElem?_cons_zero, List.getElem?_cons_succ, ev, ofConst, ofCell, ↓reduceIte, Nat.reduceEqDiff, Nat.reduceAdd, Nat.reduceSub, Nat.reduceMul, Nat.reduceLeDiff, Nat.reduceLT, Int.reduceNeg, Int.reduceToNat, Int.reduceAdd, Int.reduceSub, Int.reduceMul, Int.reduceLT, Int.reduceLE, Int.reduceEq, Int.reduceNe, dg_cells, dg_fold, c1, c2, c3, hz, z3, z4, hz4, tk4, put_h32 q1, Hp.stA_of g9, Hp.read_of g9, Hp.stA_of gl, Hp.read_of gl, d52, Ne.symm d52]
        refine ⟨s, Hp.sub_new (Hp.sub_new hss (Hp.sub_none b2 e5)) n2, rfl, ?_⟩
        rw [if_pos (by omega)]
        rfl
  · simp (dsimp := false) (implicitDefEqProofs := false) (disch := first | omega | assumption | (simp only [rL, Nat.reduceAdd]; try omega)) only [↓rA, rZ, List.drop_succ_cons, ne_eq, not_true_eq_false, not_false_eq_true, List.getElem?_cons_zero, List.getElem?_cons_succ, ev, ofConst, ofCell, ↓reduceIte, Nat.reduceEqDiff, Nat.reduceAdd, Nat.reduceSub, Nat.reduceMul, Nat.reduceLeDiff, Nat.reduceLT, Int.reduceNeg, Int.reduceToNat, Int.reduceAdd, Int.reduceSub, Int.reduceMul, Int.reduceLT, Int.reduceLE, Int.reduceEq, Int.reduceNe, dg_cells, dg_fold, c1, hz, zf, Hp.stA_of gl, Hp.read_of gl]
    refine ⟨s, hs2 _, rfl, ?_⟩
    rw [if_neg (by simp)]
    trivial
def readBlockF (bs : List UInt8) : Option (Hd × List OpD) :=
  let x := textR 1048576 ⟨bs, 0⟩
  let y := textR 1048576 x.2
  if (endR y.2).e = 0 then
    match readHeadF x.1, readOpsF y.1 with
    | some h, some l => if sha256 (preB 79 [y.1]) = h.ops then some (h, l) else none
    | _, _ => none
  else none
theorem readblock_spec (bs : List UInt8) (o : Own) (ho : o = .nil → bs = []) (hb : bs.length ≤ 100000000) (s : Hp) :
    AC Tryz.prog 23 [.sl (bs.map byteAV) o] s fun x s' => s' = s ∧ match readBlockF bs with
      | none => x = .tup [zh.V, .sl [] .nil, .v (.int .i64 21)]
      | some (h, l) => ∃ (lr : List OpR) (ol : Own), lr.map (·.d) = l ∧ x = .tup [h.V, .sl (OL lr) ol, .v (.int .i64 0)] := by
  refine AC_run hm prep23 (by simp) ?_
  rw [zh_C]
  have hz : (hdC zd 0 zd zd).length = 97 := rfl
  have zf : (.agg ((hdC zd 0 zd zd).take 97) : AV) = zh.V := rfl
  simp (dsimp := false) (implicitDefEqProofs := false) (disch := first | omega | assumption | (simp only [rL, Nat.reduceAdd]; try omega)) only [↓rA, rZ, List.drop_succ_cons, ne_eq, not_true_eq_false, not_false_eq_true, List.getElem?_cons_zero, List.getElem?_cons_succ, ev, ofConst, ofCell, ↓reduceIte, Nat.reduceEqDiff, Nat.reduceAdd, Nat.reduceSub, Nat.reduceMul, Nat.reduceLeDiff, Nat.reduceLT, Int.reduceNeg, Int.reduceToNat, Int.reduceAdd, Int.reduceSub, Int.reduceMul, Int.reduceLT, Int.reduceLE, Int.reduceEq, Int.reduceNe, dg_cells, dg_fold]
  refine newK_intro fun l2 n2 => ?_
  have g2 : (s.set l2 (.cells (hdC zd 0 zd zd))) l2 = some (.cells (hdC zd 0 zd zd)) := Hp.set_same _ _ _
  have b2 : s.sub (s.set l2 (.cells (hdC zd 0 zd zd))) := Hp.sub_new Hp.sub_refl n2
  generalize (s.set l2 (.cells (hdC zd 0 zd zd))) = sA at *
  simp (dsimp := false) (implicitDefEqProofs := false) (disch := first | omega | assumption | (simp only [rL, Nat.reduceAdd]; try omega)) only [↓rA, rZ, List.drop_succ_cons, ne_eq, not_true_eq_false, not_false_eq_true, List.getElem?_cons_zero, List.getElem?_cons_succ, ev, ofConst, ofCell, ↓reduceIte, Nat.reduceEqDiff, Nat.reduceAdd, Nat.reduceSub, Nat.reduceMul, Nat.reduceLeDiff, Nat.reduceLT, Int.reduceNeg, Int.reduceToNat, Int.reduceAdd, Int.reduceSub, Int.reduceMul, Int.reduceLT, Int.reduceLE, Int.reduceEq, Int.reduceNe, dg_cells, dg_fold]
  refine call_intro (New_spec bs o sA ho (by omega)) ?_
  rintro _ s1 ⟨l1, n1, rfl, h1⟩
  have d21 : l2 ≠ l1 := by rintro rfl; rw [g2] at n1; cases n1
  simp (dsimp := false) (implicitDefEqProofs := false) (disch := first | omega | assumption | (simp only [rL, Nat.reduceAdd]; try omega)) only [↓rA, rZ, List.drop_succ_cons, ne_eq, not_true_eq_false, not_false_eq_true, List.getElem?_cons_zero, List.getElem?_cons_succ, ev, ofConst, ofCell, ↓reduceIte, Nat.reduceEqDiff, Nat.reduceAdd, Nat.reduceSub, Nat.reduceMul, Nat.reduceLeDiff, Nat.reduceLT, Int.reduceNeg, Int.reduceToNat, Int.reduceAdd, Int.reduceSub, Int.reduceMul, Int.reduceLT, Int.reduceLE, Int.reduceEq, Int.reduceNe, dg_cells, dg_fold]
  refine call_intro (rtext_spec _ _ l1 1048576 (by omega) _ h1) ?_
  rintro x s2 ⟨h2, ox, nx, rfl⟩
  have lx := textR_le 1048576 ⟨bs, 0⟩
  unfold readBlockF
  generalize textR 1048576 ⟨bs, 0⟩ = t at *
  obtain ⟨x, r2⟩ := t
  simp only at h2 nx lx ⊢
  simp (dsimp := false) (implicitDefEqProofs := false) (disch := first | omega | assumption | (simp only [rL, Nat.reduceAdd]; try omega)) only [↓rA, rZ, List.drop_succ_cons, ne_eq, not_true_eq_false, not_false_eq_true, List.getElem?_cons_zero, List.getElem?_cons_succ, ev, ofConst, ofCell, ↓reduceIte, Nat.reduceEqDiff, Nat.reduceAdd, Nat.reduceSub, Nat.reduceMul, Nat.reduceLeDiff, Nat.reduceLT, Int.reduceNeg, Int.reduceToNat, Int.reduceAdd, Int.reduceSub, Int.reduceMul, Int.reduceLT, Int.reduceLE, Int.reduceEq, Int.reduceNe, dg_cells, dg_fold]
  refine call_intro (rtext_spec _ _ l1 1048576 (by omega) _ h2) ?_
  rintro _ s3 ⟨h3, oy, ny, rfl⟩
  have ly := textR_le 1048576 r2
  generalize textR 1048576 r2 = t at *
  obtain ⟨y, r3⟩ := t
  simp only at h3 ny ly ⊢
  simp (dsimp := false) (implicitDefEqProofs := false) (disch := first | omega | assumption | (simp only [rL, Nat.reduceAdd]; try omega)) only [↓rA, rZ, List.drop_succ_cons, ne_eq, not_true_eq_false, not_false_eq_true, List.getElem?_cons_zero, List.getElem?_cons_succ, ev, ofConst, ofCell, ↓reduceIte, Nat.reduceEqDiff, Nat.reduceAdd, Nat.reduceSub, Nat.reduceMul, Nat.reduceLeDiff, Nat.reduceLT, Int.reduceNeg, Int.reduceToNat, Int.reduceAdd, Int.reduceSub, Int.reduceMul, Int.reduceLT, Int.reduceLE, Int.reduceEq, Int.reduceNe, dg_cells, dg_fold]
  refine call_intro (rend_spec _ _ l1 r3 h3) ?_
  rintro _ s4 ⟨h4, rfl⟩
  have gl := h4.get d21 g2
  have hss : s.sub s4 := Hp.sub_trans b2 (h4.sub n1)
  have hs2 : ∀ ob, s.sub (s4.set l2 ob) := fun ob => Hp.sub_new hss n2
  generalize (endR r3).e = e at *
  by_cases c1 : ¬ e = 0
  · simp (dsimp := false) (implicitDefEqProofs := false) (disch := first | omega | assumption | (simp only [rL, Nat.reduceAdd]; try omega)) only [↓rA, rZ, List.drop_succ_cons, ne_eq, not_true_eq_false, not_false_eq_true, List.getElem?_cons_zero, List.getElem?_cons_succ, ev, ofConst, ofCell, ↓reduceIte, Nat.reduceEqDiff, Nat.reduceAdd, Nat.reduceSub, Nat.reduceMul, Nat.reduceLeDiff, Nat.reduceLT, Int.reduceNeg, Int.reduceToNat, Int.reduceAdd, Int.reduceSub, Int.reduceMul, Int.reduceLT, Int.reduceLE, Int.reduceEq, Int.reduceNe, dg_cells, dg_fold, c1, hz, zf, Hp.stA_of gl, Hp.read_of gl]
    exact ⟨s, hs2 _, rfl⟩
  have c1 : e = 0 := Decidable.not_not.1 c1
  simp (dsimp := false) (implicitDefEqProofs := false) (disch := first | omega | assumption | (simp only [rL, Nat.reduceAdd]; try omega)) only [↓rA, rZ, List.drop_succ_cons, ne_eq, not_true_eq_false, not_false_eq_true, List.getElem?_cons_zero, List.getElem?_cons_succ, ev, ofConst, ofCell, ↓reduceIte, Nat.reduceEqDiff, Nat.reduceAdd, Nat.reduceSub, Nat.reduceMul, Nat.reduceLeDiff, Nat.reduceLT, Int.reduceNeg, Int.reduceToNat, Int.reduceAdd, Int.reduceSub, Int.reduceMul, Int.reduceLT, Int.reduceLE, Int.reduceEq, Int.reduceNe, dg_cells, dg_fold, c1]
  refine call_intro (readhead_spec x ox nx (by omega) s4) ?_
  rintro xh s4 ⟨rfl, hxh⟩
  have hh0 : ∃ (hv : Hd) (eh : Int), hv.ok ∧ xh = .tup [hv.V, .v (.int .i64 eh)] ∧ (match readHeadF x with | none => eh = 21 | some h => eh = 0 ∧ hv = h) := by
    cases hq : readHeadF x with
    | none => rw [hq] at hxh; exact ⟨zh, 21, zh_ok, hxh, rfl⟩
    | some h => rw [hq] at hxh; exact ⟨h, 0, (readHeadF_ok hq).1, hxh, rfl, rfl⟩
  obtain ⟨hv, eh, hvk, rfl, heh⟩ := hh0
  have hc := Hd.cells (h := hv)
  have hl := Hd.lenC hvk
  have hf := Hd.fold hvk
  have hp8 : putAt (hdC zd 0 zd zd) 0 hv.C = hv.C := putAt_all (by rw [hl, hz])
  simp (dsimp := false) (implicitDefEqProofs := false) (disch := first | omega | assumption | (simp only [rL, Nat.reduceAdd]; try omega)) only [↓rA, rZ, List.drop_succ_cons, ne_eq, not_true_eq_false, not_false_eq_true, List.getElem?_cons_zero, List.getElem?_cons_succ, ev, ofConst, ofCell, ↓reduceIte, Nat.reduceEqDiff, Nat.reduceAdd, Nat.reduceSub, Nat.reduceMul, Nat.reduceLeDiff, Nat.reduceLT, Int.reduceNeg, Int.reduceToNat, Int.reduceAdd, Int.reduceSub, Int.reduceMul, Int.reduceLT, Int.reduceLE, Int.reduceEq, Int.reduceNe, dg_cells, dg_fold, hc, hl, hp8]
  refine newK_intro fun l8 n8 => ?_
  have d82 : l8 ≠ l2 := by rintro rfl; rw [n8] at gl; cases gl
  have g8 : (s4.set l8 (.cells hv.C)) l8 = some (.cells hv.C) := Hp.set_same _ _ _
  have gl8 : (s4.set l8 (.cells hv.C)) l2 = some (.cells (hdC zd 0 zd zd)) := by rw [Hp.set_ne _ _ (Ne.symm d82)]; exact gl
  have hs8 : s.sub (s4.set l8 (.cells hv.C)) := Hp.sub_new hss (Hp.sub_none hss n8)
  simp (dsimp := false) (implicitDefEqProofs := false) (disch := first | omega | assumption | (simp only [rL, Nat.reduceAdd]; try omega)) only [↓rA, rZ, List.drop_succ_cons, ne_eq, not_true_eq_false, not_false_eq_true, List.getElem?_cons_zero, List.getElem?_cons_succ, ev, ofConst, ofCell, ↓reduceIte, Nat.reduceEqDiff, Nat.reduceAdd, Nat.reduceSub, Nat.reduceMul, Nat.reduceLeDiff, Nat.reduceLT, Int.reduceNeg, Int.reduceToNat, Int.reduceAdd, Int.reduceSub, Int.reduceMul, Int.reduceLT, Int.reduceLE, Int.reduceEq, Int.reduceNe, dg_cells, dg_fold, hc, hl, hp8]
  generalize (s4.set l8 (.cells hv.C)) = s8 at *
  have hs28 : ∀ ob, s.sub (s8.set l2 ob) := fun ob => Hp.sub_new hs8 n2
  refine call_intro (readops_spec y oy ny (by omega) s8) ?_
  rintro xo s8 ⟨rfl, hxo⟩
  have ho0 : ∃ (lv : AV) (eo : Int), xo = .tup [lv, .v (.int .i64 eo)] ∧ (match readOpsF y with | none => eo = 21 | some l => eo = 0 ∧ ∃ (lr : List OpR) (ol : Own), lr.map (·.d) = l ∧ lv = .sl (OL lr) ol) := by
    cases hq : readOpsF y with
    | none => rw [hq] at hxo; exact ⟨_, 21, hxo, rfl⟩
    | some l => rw [hq] at hxo; obtain ⟨lr, ol, q1, q2⟩ := hxo; exact ⟨_, 0, q2, rfl, lr, ol, q1, rfl⟩
  obtain ⟨lv, eo, rfl, heo⟩ := ho0
  cases hqh : readHeadF x with
  | none =>
    rw [hqh] at heh
    obtain rfl : eh = 21 := heh
    simp (dsimp := false) (implicitDefEqProofs := false) (disch := first | omega | assumption | (simp only [rL, Nat.reduceAdd]; try omega)) only [↓rA, rZ, List.drop_succ_cons, ne_eq, not_true_eq_false, not_false_eq_true, List.getElem?_cons_zero, List.getElem?_cons_succ, ev, ofConst, ofCell, ↓reduceIte, Nat.reduceEqDiff, Nat.reduceAdd, Nat.reduceSub, Nat.reduceMul, Nat.reduceLeDiff, Nat.reduceLT, Int.reduceNeg, Int.reduceToNat, Int.reduceAdd, Int.reduceSub, Int.reduceMul, Int.reduceLT, Int.reduceLE, Int.reduceEq, Int.reduceNe, dg_cells, dg_fold, hz, zf, Hp.stA_of gl8, Hp.read_of gl8]
    exact ⟨s, hs28 _, rfl, by rw [if_pos c1]; trivial⟩
  | some h =>
    rw [hqh] at heh
    obtain ⟨rfl, rfl⟩ := heh
    cases hqo : readOpsF y with
    | none =>
      rw [hqo] at heo
      obtain rfl : eo = 21 := heo
      simp (dsimp := false) (implicitDefEqProofs := false) (disch := first | omega | assumption | (simp only [rL, Nat.reduceAdd]; try omega)) only [↓rA, rZ, List.drop_succ_cons, ne_eq, not_true_eq_false, not_false_eq_true, List.getElem?_cons_zero, List.getElem?_cons_succ, ev, ofConst, ofCell, ↓reduceIte, Nat.reduceEqDiff, Nat.reduceAdd, Nat.reduceSub, Nat.reduceMul, Nat.reduceLeDiff, Nat.reduceLT, Int.reduceNeg, Int.reduceToNat, Int.reduceAdd, Int.reduceSub, Int.reduceMul, Int.reduceLT, Int.reduceLE, Int.reduceEq, Int.reduceNe, dg_cells, dg_fold, hz, zf, Hp.stA_of gl8, Hp.read_of gl8]
      exact ⟨s, hs28 _, rfl, by rw [if_pos c1]; trivial⟩
    | some l =>
      rw [hqo] at heo
      obtain ⟨rfl, lr, ol, rfl, rfl⟩ := heo
      have ho32 := Hd.o32 hvk
      have h32 := hvk.2.1
      simp (dsimp := false) (implicitDefEqProofs := false) (disch := first | omega | assumption | (simp only [rL, Nat.reduceAdd]; try omega)) only [↓rA, rZ, List.drop_succ_cons, ne_eq, not_true_eq_false, not_false_eq_true, List.getElem?_cons_zero, List.getElem?_cons_succ, ev, ofConst, ofCell, ↓reduceIte, Nat.reduceEqDiff, Nat.reduceAdd, Nat.reduceSub, Nat.reduceMul, Nat.reduceLeDiff, Nat.reduceLT, Int.reduceNeg, Int.reduceToNat, Int.reduceAdd, Int.reduceSub, Int.reduceMul, Int.reduceLT, Int.reduceLE, Int.reduceEq, Int.reduceNe, dg_cells, dg_fold, Hp.read_of g8, hl]
      refine call_intro (opssum_spec y oy (by omega) s8) ?_
      rintro _ s8 ⟨rfl, rfl⟩
      have hq := sha256_length (preB 79 [y])
      generalize sha256 (preB 79 [y]) = d at *
      simp (dsimp := false) (implicitDefEqProofs := false) (disch := first | omega | assumption | (simp only [rL, Nat.reduceAdd]; try omega)) only [↓rA, rZ, List.drop_succ_cons, ne_eq, not_true_eq_false, not_false_eq_true, List.getElem?_cons_zero, List.getElem?_cons_succ, ev, ofConst, ofCell, ↓reduceIte, Nat.reduceEqDiff, Nat.reduceAdd, Nat.reduceSub, Nat.reduceMul, Nat.reduceLeDiff, Nat.reduceLT, Int.reduceNeg, Int.reduceToNat, Int.reduceAdd, Int.reduceSub, Int.reduceMul, Int.reduceLT, Int.reduceLE, Int.reduceEq, Int.reduceNe, dg_cells, dg_fold, Hp.read_of g8, hl, ho32, dg_fold', eqvK_dg, hq, h32]
      by_cases hd : d = hv.ops
      · simp (dsimp := false) (implicitDefEqProofs := false) (disch := first | omega | assumption | (simp only [rL, Nat.reduceAdd]; try omega)) only [↓rA, rZ, List.drop_succ_cons, ne_eq, not_true_eq_false, not_false_eq_true, List.getElem?_cons_zero, List.getElem?_cons_succ, ev, ofConst, ofCell, ↓reduceIte, Nat.reduceEqDiff, Nat.reduceAdd, Nat.reduceSub, Nat.reduceMul, Nat.reduceLeDiff, Nat.reduceLT, Int.reduceNeg, Int.reduceToNat, Int.reduceAdd, Int.reduceSub, Int.reduceMul, Int.reduceLT, Int.reduceLE, Int.reduceEq, Int.reduceNe, dg_cells, dg_fold, hd, hc, hl, hf, hz, zf, hp8, Hp.read_of g8, Hp.stA_of gl8, Hp.read_of gl8]
        exact ⟨s, hs28 _, rfl, by rw [if_pos c1]; exact ⟨lr, ol, rfl, rfl⟩⟩
      · simp (dsimp := false) (implicitDefEqProofs := false) (disch := first | omega | assumption | (simp only [rL, Nat.reduceAdd]; try omega)) only [↓rA, rZ, List.drop_succ_cons, ne_eq, not_true_eq_false, not_false_eq_true, List.getElem?_cons_zero, List.getElem?_cons_succ, ev, ofConst, ofCell, ↓reduceIte, Nat.reduceEqDiff, Nat.reduceAdd, Nat.reduceSub, Nat.reduceMul, Nat.reduceLeDiff, Nat.reduceLT, Int.reduceNeg, Int.reduceToNat, Int.reduceAdd, Int.reduceSub, Int.reduceMul, Int.reduceLT, Int.reduceLE, Int.reduceEq, Int.reduceNe, dg_cells, dg_fold, hd, hz, zf, Hp.stA_of gl8, Hp.read_of gl8]
        exact ⟨s, hs28 _, rfl, by rw [if_pos c1]; trivial⟩
end Go.Proofs.YtnnjjmiahcnbaaaGreat
/-
  The plain law of LightKeeps: what grew from a history and has another item at a place makes two unlike texts with one sum.
-/
set_option maxRecDepth 100000
namespace Go.Proofs.YtnnjjmiahcnbaaaGreat
open Go Go.Av
def Cl (ts : List (List UInt8)) : Prop := ∃ a ∈ ts, ∃ b ∈ ts, sha256 a = sha256 b ∧ a ≠ b
theorem Cl.mono {a b : List (List UInt8)} (h : Cl a) (hs : ∀ t ∈ a, t ∈ b) : Cl b := by
  obtain ⟨x, hx, y, hy, h1, h2⟩ := h
  exact ⟨x, hs x hx, y, hs y hy, h1, h2⟩
theorem Cl.of {ts : List (List UInt8)} {a b : List UInt8} (ha : a ∈ ts) (hb : b ∈ ts) (h : sha256 a = sha256 b) (hn : a ≠ b) : Cl ts := ⟨a, ha, b, hb, h, hn⟩
theorem leafB_inj {a b : List UInt8} (ha : a.length = 32) (hb : b.length = 32) (h : leafB a = leafB b) : a = b := by
  simpa [leafB, preB, chunk, ha, hb] using h
theorem nodeB_inj {a b c d : List UInt8} (ha : a.length = 32) (hb : b.length = 32) (hc : c.length = 32) (hd : d.length = 32) (h : nodeB a b = nodeB c d) : a = c ∧ b = d := by
  simp only [nodeB, preB, chunk, ha, hb, hc, hd, List.flatMap_cons, List.flatMap_nil, List.append_nil, List.append_assoc, List.cons.injEq, true_and, List.append_cancel_left_eq] at h
  obtain ⟨h1, h2⟩ := List.append_inj h (by rw [ha, hc])
  exact ⟨h1, List.append_cancel_left h2⟩
theorem half_eq {m n : Nat} (h : half n < m) (h2 : m ≤ n) (hn : 2 ≤ n) : half m = half n := by
  have h3 : (m - 1).log2 = (n - 1).log2 := by
    have hk : 2 ^ (n - 1).log2 ≤ m - 1 := by unfold half at h; omega
    have hu : n - 1 < 2 ^ ((n - 1).log2 + 1) := Nat.lt_log2_self
    exact (Nat.log2_eq_iff (by have := Nat.pow_pos (n := (n - 1).log2) (show 0 < 2 by omega); omega)).2 ⟨hk, by omega⟩
  rw [half, half, h3]
theorem takeF_false {ds d1 : List (List UInt8)} {o : List UInt8} {lk : Bool} (h : takeF ds false = (o, d1, lk)) (hd : Digs ds) : o.length = 32 ∧ Digs d1 := by
  obtain ⟨t1, t2, _⟩ := takeF_digs (lk := false) hd
  rw [h] at t1 t2
  exact ⟨t1, t2⟩
theorem up_up : ∀ (N n i : Nat) (u v : List UInt8) (p q : List (List UInt8)), n = N → i < n → u.length = 32 → v.length = 32 → Digs p → Digs q → (upF n i u p).2.2.2 = false → (upF n i v q).2.2.2 = false →
    (upF n i u p).1 = (upF n i v q).1 → u ≠ v → Cl ((upF n i u p).2.2.1 ++ (upF n i v q).2.2.1) := by
  intro N
  induction N using Nat.strongRecOn with
  | _ N ih =>
  intro n i u v p q hN hi hu hv hp hq l1 l2 he hne
  by_cases h : n < 2
  · rw [upF_leaf h, upF_leaf h] at he ⊢
    exact Cl.of (a := leafB u) (b := leafB v) (by simp) (by simp) he fun hh => hne (leafB_inj hu hv hh)
  · generalize ht : takeF p false = tp at *
    obtain ⟨o1, p1, k1⟩ := tp
    generalize ht2 : takeF q false = tq at *
    obtain ⟨o2, q1, k2⟩ := tq
    obtain ⟨e1, e2⟩ := takeF_false ht hp
    obtain ⟨e3, e4⟩ := takeF_false ht2 hq
    cases k1 with
    | true => rw [upF_lack h ht] at l1; cases l1
    | false =>
    cases k2 with
    | true => rw [upF_lack h ht2] at l2; cases l2
    | false =>
    have hlt := half_lt n (by omega)
    have hpos := half_pos n
    by_cases hk : i < half n
    · rw [upF_left h ht hk] at l1 he ⊢
      rw [upF_left h ht2 hk] at l2 he ⊢
      simp only at l1 l2 he ⊢
      have g1 := (upF_ok _ (half n) i u p1 rfl e2).1
      have g2 := (upF_ok _ (half n) i v q1 rfl e4).1
      by_cases hx : (upF (half n) i u p1).1 = (upF (half n) i v q1).1
      · refine (ih (half n) (by omega) (half n) i u v p1 q1 rfl hk hu hv e2 e4 l1 l2 hx hne).mono ?_
        intro t ht; simp only [List.mem_append] at ht ⊢; rcases ht with ht | ht; exact .inl (.inl ht); exact .inr (.inl ht)
      · exact Cl.of (by simp) (by simp) he fun hh => hx (nodeB_inj g1 e1 g2 e3 hh).1
    · rw [upF_right h ht hk] at l1 he ⊢
      rw [upF_right h ht2 hk] at l2 he ⊢
      simp only at l1 l2 he ⊢
      have g1 := (upF_ok _ (n - half n) (i - half n) u p1 rfl e2).1
      have g2 := (upF_ok _ (n - half n) (i - half n) v q1 rfl e4).1
      by_cases hx : (upF (n - half n) (i - half n) u p1).1 = (upF (n - half n) (i - half n) v q1).1
      · refine (ih (n - half n) (by omega) (n - half n) (i - half n) u v p1 q1 rfl (by omega) hu hv e2 e4 l1 l2 hx hne).mono ?_
        intro t ht; simp only [List.mem_append] at ht ⊢; rcases ht with ht | ht; exact .inl (.inl ht); exact .inr (.inl ht)
      · exact Cl.of (by simp) (by simp) he fun hh => hx (nodeB_inj e1 g1 e3 g2 hh).2
theorem keep_up : ∀ (N : Nat) (a : List UInt8) (m n : Nat) (own : Bool) (g : List (List UInt8)) (i : Nat) (u v : List UInt8) (p q : List (List UInt8)), n = N → i < m → m ≤ n → a.length = 32 → Digs g → u.length = 32 → v.length = 32 → Digs p → Digs q →
    (bothF a m n own g).lk = false → (upF m i u p).2.2.2 = false → (upF n i v q).2.2.2 = false → (upF m i u p).1 = (bothF a m n own g).x → (upF n i v q).1 = (bothF a m n own g).y → u ≠ v →
    Cl ((upF m i u p).2.2.1 ++ (upF n i v q).2.2.1 ++ (bothF a m n own g).ts) := by
  intro N
  induction N using Nat.strongRecOn with
  | _ N ih =>
  intro a m n own g i u v p q hN him hmn ha hg hu hv hp hq l0 l1 l2 hx hy hne
  by_cases hmn0 : m = n ∧ own = true
  · obtain ⟨rfl, rfl⟩ := hmn0
    rw [bothF_own] at hx hy
    refine (up_up _ m i u v p q rfl him hu hv hp hq l1 l2 (hx.trans hy.symm) hne).mono ?_
    intro t ht; exact List.mem_append_left _ ht
  · generalize htg : takeF g false = tg at *
    obtain ⟨o0, g1, k0⟩ := tg
    obtain ⟨eo, eg⟩ := takeF_false htg hg
    by_cases h2 : k0 = true ∨ m = n
    · rw [bothF_end hmn0 htg h2] at l0 hx hy ⊢
      simp only at l0 hx hy
      subst l0
      have hm : m = n := by simpa using h2
      subst hm
      refine (up_up _ m i u v p q rfl him hu hv hp hq l1 l2 (hx.trans hy.symm) hne).mono ?_
      intro t ht; exact List.mem_append_left _ ht
    · have hk0 : k0 = false := by cases k0 <;> simp_all
      subst hk0
      have hmn' : m ≠ n := by omega
      have hn2 : ¬ n < 2 := by omega
      have hlt := half_lt n (by omega)
      have hpos := half_pos n
      generalize htq : takeF q false = tq at *
      obtain ⟨o2, q1, k2⟩ := tq
      obtain ⟨e3, e4⟩ := takeF_false htq hq
      cases k2 with
      | true => rw [upF_lack hn2 htq] at l2; cases l2
      | false =>
      by_cases hk : m ≤ half n
      · rw [bothF_left hmn' (by omega) htg hk] at l0 hx hy ⊢
        have hik : i < half n := by omega
        rw [upF_left hn2 htq hik] at l2 hy ⊢
        simp only at l0 l2 hx hy ⊢
        have gb := (bothF_ok _ a m (half n) own g1 rfl (by omega) hk ha eg).2.1
        have g2 := (upF_ok _ (half n) i v q1 rfl e4).1
        by_cases he : (upF (half n) i v q1).1 = (bothF a m (half n) own g1).y
        · refine (ih (half n) (by omega) a m (half n) own g1 i u v p q1 rfl him hk ha eg hu hv hp e4 l0 l1 l2 hx he hne).mono ?_
          intro t ht; simp only [List.mem_append] at ht ⊢
          rcases ht with (ht | ht) | ht
          · exact .inl (.inl ht)
          · exact .inl (.inr (.inl ht))
          · exact .inr (.inl ht)
        · exact Cl.of (by simp) (by simp) hy fun hh => he (nodeB_inj g2 e3 gb eo hh).1
      · have hhm : half m = half n := half_eq (by omega) hmn (by omega)
        have hm2 : ¬ m < 2 := by omega
        rw [bothF_right hmn' (by omega) htg hk] at l0 hx hy ⊢
        generalize htp : takeF p false = tp at *
        obtain ⟨o1, p1, k1⟩ := tp
        obtain ⟨e1, e2⟩ := takeF_false htp hp
        cases k1 with
        | true => rw [upF_lack hm2 htp] at l1; cases l1
        | false =>
        simp only at l0 hx hy ⊢
        obtain ⟨gx, gy, _⟩ := bothF_ok _ a (m - half n) (n - half n) false g1 rfl (by omega) (by omega) ha eg
        by_cases hik : i < half n
        · rw [upF_left hm2 htp (by omega), hhm] at l1 hx ⊢
          rw [upF_left hn2 htq hik] at l2 hy ⊢
          simp only at l1 l2 hx hy ⊢
          have ga := (upF_ok _ (half n) i u p1 rfl e2).1
          have gb := (upF_ok _ (half n) i v q1 rfl e4).1
          by_cases h1 : (upF (half n) i u p1).1 = o0
          · by_cases h3 : (upF (half n) i v q1).1 = o0
            · refine (up_up _ (half n) i u v p1 q1 rfl hik hu hv e2 e4 l1 l2 (h1.trans h3.symm) hne).mono ?_
              intro t ht; simp only [List.mem_append] at ht ⊢
              rcases ht with ht | ht
              · exact .inl (.inl (.inl ht))
              · exact .inl (.inr (.inl ht))
            · exact Cl.of (by simp) (by simp) hy fun hh => h3 (nodeB_inj gb e3 eo gy hh).1
          · exact Cl.of (by simp) (by simp) hx fun hh => h1 (nodeB_inj ga e1 eo gx hh).1
        · rw [upF_right hm2 htp (by omega), hhm] at l1 hx ⊢
          rw [upF_right hn2 htq hik] at l2 hy ⊢
          simp only at l1 l2 hx hy ⊢
          have ga := (upF_ok _ (m - half n) (i - half n) u p1 rfl e2).1
          have gb := (upF_ok _ (n - half n) (i - half n) v q1 rfl e4).1
          by_cases h1 : (upF (m - half n) (i - half n) u p1).1 = (bothF a (m - half n) (n - half n) false g1).x
          · by_cases h3 : (upF (n - half n) (i - half n) v q1).1 = (bothF a (m - half n) (n - half n) false g1).y
            · refine (ih (n - half n) (by omega) a (m - half n) (n - half n) false g1 (i - half n) u v p1 q1 rfl (by omega) (by omega) ha eg hu hv e2 e4 l0 l1 l2 h1 h3 hne).mono ?_
              intro t ht; simp only [List.mem_append] at ht ⊢
              rcases ht with (ht | ht) | ht
              · exact .inl (.inl (.inl ht))
              · exact .inl (.inr (.inl ht))
              · exact .inr (.inl ht)
            · exact Cl.of (by simp) (by simp) hy fun hh => h3 (nodeB_inj e3 gb eo gy hh).2
          · exact Cl.of (by simp) (by simp) hx fun hh => h1 (nodeB_inj e1 ga eo gx hh).2
end Go.Proofs.YtnnjjmiahcnbaaaGreat
/-
  catalog.Preimage, ledger.Preimage; proofs as values; proof.Preimages.
-/
set_option maxRecDepth 100000
namespace Go.Proofs.YtnnjjmiahcnbaaaGreat
open Go Go.Av
theorem cpre_spec (t : List UInt8) (o : Own) (ht : t.length ≤ 100000000) (s : Hp) :
    AC Tryz.prog 35 [.sl (t.map byteAV) o] s fun r s' => s' = s ∧ ∃ o', r = .sl ((preB 67 [t]).map byteAV) o' := by
  refine AC_run hm prep35 (by simp) ?_
  simp (dsimp := false) (implicitDefEqProofs := false) (disch := first | omega | assumption | (simp only [rL, Nat.reduceAdd]; try omega)) only [↓rA, rZ, List.drop_succ_cons, ne_eq, not_true_eq_false, not_false_eq_true, List.getElem?_cons_zero, List.getElem?_cons_succ, ev, ofConst, ofCell, ↓reduceIte, Nat.reduceEqDiff, Nat.reduceAdd, Nat.reduceSub, Nat.reduceMul, Nat.reduceLeDiff, Nat.reduceLT, Int.reduceNeg, Int.reduceToNat, Int.reduceAdd, Int.reduceSub, Int.reduceMul, Int.reduceLT, Int.reduceLE, Int.reduceEq, Int.reduceNe, dg_cells, dg_fold]
  refine bsl_own Hp.sub_refl (by simp [allLen, AV.cells]) fun o2 s2 h2 => ?_
  simp (dsimp := false) (implicitDefEqProofs := false) (disch := first | omega | assumption | (simp only [rL, Nat.reduceAdd]; try omega)) only [↓rA, rZ, List.drop_succ_cons, ne_eq, not_true_eq_false, not_false_eq_true, List.getElem?_cons_zero, List.getElem?_cons_succ, ev, ofConst, ofCell, ↓reduceIte, Nat.reduceEqDiff, Nat.reduceAdd, Nat.reduceSub, Nat.reduceMul, Nat.reduceLeDiff, Nat.reduceLT, Int.reduceNeg, Int.reduceToNat, Int.reduceAdd, Int.reduceSub, Int.reduceMul, Int.reduceLT, Int.reduceLE, Int.reduceEq, Int.reduceNe, dg_cells, dg_fold]
  refine call_intro (pre_spec 67 [(t, o)] o2 (by simp [preB, chunk, eightB]; omega) s2) ?_
  rintro _ s3 ⟨o3, h3, rfl⟩
  simp (dsimp := false) (implicitDefEqProofs := false) (disch := first | omega | assumption | (simp only [rL, Nat.reduceAdd]; try omega)) only [↓rA, rZ, List.drop_succ_cons, ne_eq, not_true_eq_false, not_false_eq_true, List.getElem?_cons_zero, List.getElem?_cons_succ, ev, ofConst, ofCell, ↓reduceIte, Nat.reduceEqDiff, Nat.reduceAdd, Nat.reduceSub, Nat.reduceMul, Nat.reduceLeDiff, Nat.reduceLT, Int.reduceNeg, Int.reduceToNat, Int.reduceAdd, Int.reduceSub, Int.reduceMul, Int.reduceLT, Int.reduceLE, Int.reduceEq, Int.reduceNe, dg_cells, dg_fold]
  exact ⟨s, Hp.sub_trans h2.sub h3.sub, rfl, o3, rfl⟩
theorem lpre_spec (o : Opn) (ho : o.ok) (s : Hp) :
    AC Tryz.prog 20 [o.V] s fun r s' => s' = s ∧ ∃ o', r = .sl ((digPre o.n o.h o.d).map byteAV) o' := by
  refine AC_run hm prep20 (by simp) ?_
  have hc := Opn.cells (o := o)
  have hl := Opn.lenC ho
  have hf := Opn.fold ho
  simp (dsimp := false) (implicitDefEqProofs := false) (disch := first | omega | assumption | (simp only [rL, Nat.reduceAdd]; try omega)) only [↓rA, rZ, List.drop_succ_cons, ne_eq, not_true_eq_false, not_false_eq_true, List.getElem?_cons_zero, List.getElem?_cons_succ, ev, ofConst, ofCell, ↓reduceIte, Nat.reduceEqDiff, Nat.reduceAdd, Nat.reduceSub, Nat.reduceMul, Nat.reduceLeDiff, Nat.reduceLT, Int.reduceNeg, Int.reduceToNat, Int.reduceAdd, Int.reduceSub, Int.reduceMul, Int.reduceLT, Int.reduceLE, Int.reduceEq, Int.reduceNe, dg_cells, dg_fold, hc, hl]
  refine newK_intro fun l1 n1 => ?_
  simp (dsimp := false) (implicitDefEqProofs := false) (disch := first | omega | assumption | (simp only [rL, Nat.reduceAdd]; try omega)) only [↓rA, rZ, List.drop_succ_cons, ne_eq, not_true_eq_false, not_false_eq_true, List.getElem?_cons_zero, List.getElem?_cons_succ, ev, ofConst, ofCell, ↓reduceIte, Nat.reduceEqDiff, Nat.reduceAdd, Nat.reduceSub, Nat.reduceMul, Nat.reduceLeDiff, Nat.reduceLT, Int.reduceNeg, Int.reduceToNat, Int.reduceAdd, Int.reduceSub, Int.reduceMul, Int.reduceLT, Int.reduceLE, Int.reduceEq, Int.reduceNe, dg_cells, dg_fold, hc, hl, hf]
  refine call_intro (digPre_spec o.n o.h o.d ho.1 ho.2 _) ?_
  rintro _ s3 ⟨o3, h3, rfl⟩
  simp (dsimp := false) (implicitDefEqProofs := false) (disch := first | omega | assumption | (simp only [rL, Nat.reduceAdd]; try omega)) only [↓rA, rZ, List.drop_succ_cons, ne_eq, not_true_eq_false, not_false_eq_true, List.getElem?_cons_zero, List.getElem?_cons_succ, ev, ofConst, ofCell, ↓reduceIte, Nat.reduceEqDiff, Nat.reduceAdd, Nat.reduceSub, Nat.reduceMul, Nat.reduceLeDiff, Nat.reduceLT, Int.reduceNeg, Int.reduceToNat, Int.reduceAdd, Int.reduceSub, Int.reduceMul, Int.reduceLT, Int.reduceLE, Int.reduceEq, Int.reduceNe, dg_cells, dg_fold]
  exact ⟨s, Hp.sub_trans (Hp.sub_new Hp.sub_refl n1) h3.sub, rfl, o3, rfl⟩
structure Pf where
  o : Opn
  h : Hd
  path : List (List UInt8)
  op : Own
  tables : List UInt8
  ot : Own
  kd : Bool
  part : List UInt8
  ow : Own
def Pf.ok (p : Pf) : Prop := p.o.ok ∧ p.h.ok ∧ Digs p.path
def Pf.C (p : Pf) : List AV := p.o.C ++ (p.h.C ++ [.sl (p.path.map dg) p.op, .sl (p.tables.map byteAV) p.ot, .v (.bool p.kd), .sl (p.part.map byteAV) p.ow])
def Pf.V (p : Pf) : AV := .agg p.C
theorem Pf.cells {p : Pf} : p.V.cells = p.C := rfl
theorem Pf.lenC {p : Pf} (h : p.ok) : p.C.length = 166 := by simp [Pf.C, Opn.lenC h.1, Hd.lenC h.2.1]
theorem Pf.fold {p : Pf} (h : p.ok) : (.agg (p.C.take 166) : AV) = p.V := by rw [List.take_of_length_le (by rw [Pf.lenC h]; omega)]; rfl
theorem Pf.fold' {p : Pf} : (.agg p.C : AV) = p.V := rfl
theorem Pf.o65 {p : Pf} (h : p.ok) : p.C.take 65 = p.o.C := by rw [Pf.C, ← Opn.lenC h.1, List.take_left]
theorem Pf.d65 {p : Pf} (h : p.ok) : p.C.drop 65 = p.h.C ++ [.sl (p.path.map dg) p.op, .sl (p.tables.map byteAV) p.ot, .v (.bool p.kd), .sl (p.part.map byteAV) p.ow] := by rw [Pf.C, ← Opn.lenC h.1, List.drop_left]
theorem Pf.h97 {p : Pf} (h : p.ok) : (p.C.drop 65).take 97 = p.h.C := by rw [Pf.d65 h, ← Hd.lenC h.2.1, List.take_left]
theorem Pf.d162 {p : Pf} (h : p.ok) : p.C.drop 162 = [.sl (p.path.map dg) p.op, .sl (p.tables.map byteAV) p.ot, .v (.bool p.kd), .sl (p.part.map byteAV) p.ow] := by
  rw [show (162 : Nat) = 65 + 97 from rfl, ← List.drop_drop, Pf.d65 h, ← Hd.lenC h.2.1, List.drop_left]
theorem Pf.m0 {p : Pf} (h : p.ok) : mkv false 1 p.C = .v (.int .i64 p.o.n) := by rw [Pf.C, Opn.C, opC]; rfl
theorem Pf.m97 {p : Pf} (h : p.ok) : mkv false 1 (p.C.drop 97) = .v (.int .i64 p.h.num) := by
  rw [show (97 : Nat) = 65 + 32 from rfl, ← List.drop_drop, Pf.d65 h, List.drop_append_of_le_length (by rw [Hd.lenC h.2.1]; omega), Hd.d32 h.2.1]; rfl
theorem Pf.m162 {p : Pf} (h : p.ok) : mkv false 1 (p.C.drop 162) = .sl (p.path.map dg) p.op := by rw [Pf.d162 h]; rfl
theorem Pf.m163 {p : Pf} (h : p.ok) : mkv false 1 (p.C.drop 163) = .sl (p.tables.map byteAV) p.ot := by
  rw [show (163 : Nat) = 162 + 1 from rfl, ← List.drop_drop, Pf.d162 h]; rfl
theorem Pf.h32 {p : Pf} (h : p.ok) : (p.C.drop 1).take 32 = p.o.h.map byteAV := by
  rw [Pf.C, List.drop_append_of_le_length (by rw [Opn.lenC h.1]; omega), List.take_append_of_le_length (by rw [List.length_drop, Opn.lenC h.1]; omega), Opn.h32 h.1]
def pathTs (n i : Int) (x : List UInt8) (ds : List (List UInt8)) : List (List UInt8) := if pathOk n i = true then (upF n.toNat i.toNat x ds).2.2.1 else []
def pfTs (p : Pf) : List (List UInt8) := [digPre p.o.n p.o.h p.o.d, bPre p.h] ++ pathTs p.o.n p.h.num (bSum p.h) p.path ++ [preB 67 [p.tables]]
theorem TX_app {a b : List (List UInt8 × Own)} : TX a ++ TX b = TX (a ++ b) := by simp [TX]
theorem TX_len {a : List (List UInt8 × Own)} : (TX a).length = a.length := by simp [TX]
theorem pfpre_spec (p : Pf) (hp : p.ok) (h1 : p.path.length ≤ 100000) (h2t : p.tables.length ≤ 100000000) (s : Hp) :
    AC Tryz.prog 19 [p.V] s fun r s' => s' = s ∧ ∃ tso o', tso.map (·.1) = pfTs p ∧ r = .sl (TX tso) o' := by
  refine AC_run hm prep19 (by simp) ?_
  have hc := Pf.cells (p := p)
  have hl := Pf.lenC hp
  have q1 := Pf.o65 hp
  have q2 := Pf.h97 hp
  have q3 := Pf.m0 hp
  have q4 := Pf.m97 hp
  have q5 := Pf.m162 hp
  have q6 := Pf.m163 hp
  have f1 := Opn.fold' (o := p.o)
  have f2 := Hd.fold' (h := p.h)
  simp (dsimp := false) (implicitDefEqProofs := false) (disch := first | omega | assumption | (simp only [rL, Nat.reduceAdd]; try omega)) only [↓rA, rZ, List.drop_succ_cons, ne_eq, not_true_eq_false, not_false_eq_true, List.getElem?_cons_zero, List.getElem?_cons_succ, ev, ofConst, ofCell, ↓reduceIte, Nat.reduceEqDiff, Nat.reduceAdd, Nat.reduceSub, Nat.reduceMul, Nat.reduceLeDiff, Nat.reduceLT, Int.reduceNeg, Int.reduceToNat, Int.reduceAdd, Int.reduceSub, Int.reduceMul, Int.reduceLT, Int.reduceLE, Int.reduceEq, Int.reduceNe, dg_cells, dg_fold, hc, hl]
  refine newK_intro fun l1 n1 => ?_
  have g1 : (s.set l1 (.cells p.C)) l1 = some (.cells p.C) := Hp.set_same _ _ _
  have b1 : s.sub (s.set l1 (.cells p.C)) := Hp.sub_new Hp.sub_refl n1
  simp (dsimp := false) (implicitDefEqProofs := false) (disch := first | omega | assumption | (simp only [rL, Nat.reduceAdd]; try omega)) only [↓rA, rZ, List.drop_succ_cons, ne_eq, not_true_eq_false, not_false_eq_true, List.getElem?_cons_zero, List.getElem?_cons_succ, ev, ofConst, ofCell, ↓reduceIte, Nat.reduceEqDiff, Nat.reduceAdd, Nat.reduceSub, Nat.reduceMul, Nat.reduceLeDiff, Nat.reduceLT, Int.reduceNeg, Int.reduceToNat, Int.reduceAdd, Int.reduceSub, Int.reduceMul, Int.reduceLT, Int.reduceLE, Int.reduceEq, Int.reduceNe, dg_cells, dg_fold, hc, hl, q1, q2, f1, f2]
  generalize (s.set l1 (.cells p.C)) = sA at *
  refine call_intro (digPre_spec p.o.n p.o.h p.o.d hp.1.1 hp.1.2 sA) ?_
  rintro _ s2 ⟨o2, h2', rfl⟩
  have g2 := h2'.sub _ _ g1
  simp (dsimp := false) (implicitDefEqProofs := false) (disch := first | omega | assumption | (simp only [rL, Nat.reduceAdd]; try omega)) only [↓rA, rZ, List.drop_succ_cons, ne_eq, not_true_eq_false, not_false_eq_true, List.getElem?_cons_zero, List.getElem?_cons_succ, ev, ofConst, ofCell, ↓reduceIte, Nat.reduceEqDiff, Nat.reduceAdd, Nat.reduceSub, Nat.reduceMul, Nat.reduceLeDiff, Nat.reduceLT, Int.reduceNeg, Int.reduceToNat, Int.reduceAdd, Int.reduceSub, Int.reduceMul, Int.reduceLT, Int.reduceLE, Int.reduceEq, Int.reduceNe, dg_cells, dg_fold, hc, hl, q1, q2, f1, f2, Hp.read_of g2]
  refine call_intro (bpre_spec p.h hp.2.1 s2) ?_
  rintro _ s2 ⟨rfl, o3, _, rfl⟩
  simp (dsimp := false) (implicitDefEqProofs := false) (disch := first | omega | assumption | (simp only [rL, Nat.reduceAdd]; try omega)) only [↓rA, rZ, List.drop_succ_cons, ne_eq, not_true_eq_false, not_false_eq_true, List.getElem?_cons_zero, List.getElem?_cons_succ, ev, ofConst, ofCell, ↓reduceIte, Nat.reduceEqDiff, Nat.reduceAdd, Nat.reduceSub, Nat.reduceMul, Nat.reduceLeDiff, Nat.reduceLT, Int.reduceNeg, Int.reduceToNat, Int.reduceAdd, Int.reduceSub, Int.reduceMul, Int.reduceLT, Int.reduceLE, Int.reduceEq, Int.reduceNe, dg_cells, dg_fold, hc, hl, q1, q2, f1, f2, Hp.read_of g2]
  refine bsl_own Hp.sub_refl (by simp [allLen, AV.cells]) fun o4 s4 h4 => ?_
  have g4 := h4.sub _ _ g2
  simp (dsimp := false) (implicitDefEqProofs := false) (disch := first | omega | assumption | (simp only [rL, Nat.reduceAdd]; try omega)) only [↓rA, rZ, List.drop_succ_cons, ne_eq, not_true_eq_false, not_false_eq_true, List.getElem?_cons_zero, List.getElem?_cons_succ, ev, ofConst, ofCell, ↓reduceIte, Nat.reduceEqDiff, Nat.reduceAdd, Nat.reduceSub, Nat.reduceMul, Nat.reduceLeDiff, Nat.reduceLT, Int.reduceNeg, Int.reduceToNat, Int.reduceAdd, Int.reduceSub, Int.reduceMul, Int.reduceLT, Int.reduceLE, Int.reduceEq, Int.reduceNe, dg_cells, dg_fold, hc, hl, q1, q2, q3, q4, q5, f1, f2, Hp.read_of g4]
  refine call_intro (bsum_spec p.h hp.2.1 s4) ?_
  rintro _ s4 ⟨rfl, rfl⟩
  simp (dsimp := false) (implicitDefEqProofs := false) (disch := first | omega | assumption | (simp only [rL, Nat.reduceAdd]; try omega)) only [↓rA, rZ, List.drop_succ_cons, ne_eq, not_true_eq_false, not_false_eq_true, List.getElem?_cons_zero, List.getElem?_cons_succ, ev, ofConst, ofCell, ↓reduceIte, Nat.reduceEqDiff, Nat.reduceAdd, Nat.reduceSub, Nat.reduceMul, Nat.reduceLeDiff, Nat.reduceLT, Int.reduceNeg, Int.reduceToNat, Int.reduceAdd, Int.reduceSub, Int.reduceMul, Int.reduceLT, Int.reduceLE, Int.reduceEq, Int.reduceNe, dg_cells, dg_fold, hc, hl, q1, q2, q3, q4, q5, f1, f2, Hp.read_of g4]
  refine call_intro (PathPre_spec p.o.n p.h.num (bSum p.h) p.path p.op s4 (bSum_length _) hp.2.2 (by omega)) ?_
  rintro _ s5 ⟨tso, o5, rfl, h5, hts⟩
  have g5 := h5.sub _ _ g4
  have h4' := h4.mono h5.sub
  simp (dsimp := false) (implicitDefEqProofs := false) (disch := first | omega | assumption | (simp only [rL, Nat.reduceAdd]; try omega)) only [↓rA, rZ, List.drop_succ_cons, ne_eq, not_true_eq_false, not_false_eq_true, List.getElem?_cons_zero, List.getElem?_cons_succ, ev, ofConst, ofCell, ↓reduceIte, Nat.reduceEqDiff, Nat.reduceAdd, Nat.reduceSub, Nat.reduceMul, Nat.reduceLeDiff, Nat.reduceLT, Int.reduceNeg, Int.reduceToNat, Int.reduceAdd, Int.reduceSub, Int.reduceMul, Int.reduceLT, Int.reduceLE, Int.reduceEq, Int.reduceNe, dg_cells, dg_fold, hc, hl]
  have htl : tso.length ≤ 100001 := by
    have e := congrArg List.length hts
    rw [List.length_map] at e
    rw [e]
    split
    · obtain ⟨_, _, _, u4⟩ := upF_ok _ p.o.n.toNat p.h.num.toNat (bSum p.h) p.path rfl hp.2.2
      omega
    · simp
  have htx := TX_len (a := tso)
  refine app_own h4' (by simp [allLen, AV.cells]) TX_all (by rw [htx]; simp; omega) (by rw [htx]; simp; omega) fun o6 s6 h6 => ?_
  have g6 := h6.sub _ _ g2
  simp (dsimp := false) (implicitDefEqProofs := false) (disch := first | omega | assumption | (simp only [rL, Nat.reduceAdd]; try omega)) only [↓rA, rZ, List.drop_succ_cons, ne_eq, not_true_eq_false, not_false_eq_true, List.getElem?_cons_zero, List.getElem?_cons_succ, ev, ofConst, ofCell, ↓reduceIte, Nat.reduceEqDiff, Nat.reduceAdd, Nat.reduceSub, Nat.reduceMul, Nat.reduceLeDiff, Nat.reduceLT, Int.reduceNeg, Int.reduceToNat, Int.reduceAdd, Int.reduceSub, Int.reduceMul, Int.reduceLT, Int.reduceLE, Int.reduceEq, Int.reduceNe, dg_cells, dg_fold, hc, hl, q6, Hp.read_of g6]
  refine call_intro (cpre_spec p.tables p.ot h2t s6) ?_
  rintro _ s6 ⟨rfl, o7, rfl⟩
  simp (dsimp := false) (implicitDefEqProofs := false) (disch := first | omega | assumption | (simp only [rL, Nat.reduceAdd]; try omega)) only [↓rA, rZ, List.drop_succ_cons, ne_eq, not_true_eq_false, not_false_eq_true, List.getElem?_cons_zero, List.getElem?_cons_succ, ev, ofConst, ofCell, ↓reduceIte, Nat.reduceEqDiff, Nat.reduceAdd, Nat.reduceSub, Nat.reduceMul, Nat.reduceLeDiff, Nat.reduceLT, Int.reduceNeg, Int.reduceToNat, Int.reduceAdd, Int.reduceSub, Int.reduceMul, Int.reduceLT, Int.reduceLE, Int.reduceEq, Int.reduceNe, dg_cells, dg_fold]
  refine bsl_own Hp.sub_refl (by simp [allLen, AV.cells]) fun o8 s8 h8 => ?_
  simp (dsimp := false) (implicitDefEqProofs := false) (disch := first | omega | assumption | (simp only [rL, Nat.reduceAdd]; try omega)) only [↓rA, rZ, List.drop_succ_cons, ne_eq, not_true_eq_false, not_false_eq_true, List.getElem?_cons_zero, List.getElem?_cons_succ, ev, ofConst, ofCell, ↓reduceIte, Nat.reduceEqDiff, Nat.reduceAdd, Nat.reduceSub, Nat.reduceMul, Nat.reduceLeDiff, Nat.reduceLT, Int.reduceNeg, Int.reduceToNat, Int.reduceAdd, Int.reduceSub, Int.reduceMul, Int.reduceLT, Int.reduceLE, Int.reduceEq, Int.reduceNe, dg_cells, dg_fold]
  refine app_own (h6.mono h8.sub) ?_ (by simp [allLen, AV.cells]) (by simp [htx]; omega) (by simp [htx]; omega) fun o9 s9 h9 => ?_
  · intro e he
    rcases List.mem_append.1 he with he | he
    · rcases List.mem_cons.1 he with rfl | he
      · rfl
      · rw [List.mem_singleton.1 he]; rfl
    · exact TX_all e he
  simp (dsimp := false) (implicitDefEqProofs := false) (disch := first | omega | assumption | (simp only [rL, Nat.reduceAdd]; try omega)) only [↓rA, rZ, List.drop_succ_cons, ne_eq, not_true_eq_false, not_false_eq_true, List.getElem?_cons_zero, List.getElem?_cons_succ, ev, ofConst, ofCell, ↓reduceIte, Nat.reduceEqDiff, Nat.reduceAdd, Nat.reduceSub, Nat.reduceMul, Nat.reduceLeDiff, Nat.reduceLT, Int.reduceNeg, Int.reduceToNat, Int.reduceAdd, Int.reduceSub, Int.reduceMul, Int.reduceLT, Int.reduceLE, Int.reduceEq, Int.reduceNe, dg_cells, dg_fold]
  refine ⟨s, Hp.sub_trans b1 (Hp.sub_trans h2'.sub h9.sub), rfl, [(digPre p.o.n p.o.h p.o.d, o2), (bPre p.h, o3)] ++ tso ++ [(preB 67 [p.tables], o7)], o9, ?_, ?_⟩
  · simp only [List.map_append, hts, pfTs, pathTs]; rfl
  · simp [TX]
end Go.Proofs.YtnnjjmiahcnbaaaGreat
/-
  proof.holds, Member, Grows.
-/
set_option maxRecDepth 100000
namespace Go.Proofs.YtnnjjmiahcnbaaaGreat
open Go Go.Av
theorem Hd.inj {h k : Hd} (hh : h.ok) (hk : k.ok) : (AV.agg h.C = AV.agg k.C) ↔ h = k := by
  constructor
  · intro e
    have e := AV.agg.inj e
    have e1 : h.prev.map byteAV = k.prev.map byteAV := by rw [← Hd.p32 hh, ← Hd.p32 hk, e]
    have e2 : (AV.v (.int .i64 h.num)) = .v (.int .i64 k.num) := by rw [← Hd.n32 hh, ← Hd.n32 hk, e]
    have e3 : h.ops.map byteAV = k.ops.map byteAV := by rw [← Hd.o32 hh, ← Hd.o32 hk, e]
    have e4 : h.tabs.map byteAV = k.tabs.map byteAV := by rw [← Hd.t32 hh, ← Hd.t32 hk, e]
    obtain ⟨a, b, c, d⟩ := h
    obtain ⟨a', b', c', d'⟩ := k
    have f1 : a = a' := dg_inj (congrArg AV.agg e1)
    have f3 : c = c' := dg_inj (congrArg AV.agg e3)
    have f4 : d = d' := dg_inj (congrArg AV.agg e4)
    have f2 : b = b' := by simpa using e2
    rw [f1, f2, f3, f4]
  · rintro rfl; rfl
theorem fit_hd {h : Hd} (hh : h.ok) : fitR [(32, .int .u8), (1, .int .i64), (64, .int .u8)] h.C := by
  have hl := Hd.lenC hh
  refine ⟨by omega, ?_, ?_, ?_, ?_, ?_, ?_⟩
  · rw [Hd.p32 hh]
    intro c hc
    obtain ⟨b, _, rfl⟩ := List.mem_map.1 hc
    rfl
  · rw [List.length_drop]; omega
  · rw [Hd.d32 hh]
    intro c hc
    simp only [List.take_succ_cons, List.take_zero, List.mem_singleton] at hc
    subst hc; rfl
  · rw [Hd.d32 hh]; simp [hh.2.1, hh.2.2]
  · rw [Hd.d32 hh]
    intro c hc
    have hc := List.mem_of_mem_take hc
    simp only [List.drop_succ_cons, List.drop_zero, List.mem_append] at hc
    rcases hc with hc | hc
    · obtain ⟨b, _, rfl⟩ := List.mem_map.1 hc; rfl
    · obtain ⟨b, _, rfl⟩ := List.mem_map.1 hc; rfl
  · rw [Hd.d32 hh]
    show List.drop 64 _ = []
    exact List.drop_eq_nil_of_le (by simp [hh.2.1, hh.2.2])
theorem eqvK_hd {neg : Bool} {h k : Hd} {C : AV → Prop} (hh : h.ok) (hk : k.ok) : eqvK neg [(32, .int .u8), (1, .int .i64), (64, .int .u8)] h.V k.V C = C (.v (.bool (xor neg (decide (h = k))))) := by
  have h1 := fit_hd hh
  have h2 := fit_hd hk
  have e : peq (.agg h.C) (.agg k.C) = decide (h = k) := by
    by_cases c : h = k
    · subst c; simp [peq_self]
    · have : ¬ peq (.agg h.C) (.agg k.C) = true := fun hp => c ((Hd.inj hh hk).1 ((peq_iff _ _).1 hp))
      simp only [Bool.not_eq_true] at this; simp [this, c]
  show (fitR _ _ ∧ fitR _ _ ∧ C (.v (.bool (xor neg (peq (.agg h.C) (.agg k.C)))))) = _
  rw [e]; simp [h1, h2]
def holdsF (p : Pf) (d : List UInt8) (i : Int) : Int :=
  if p.o.sum ≠ d then 41 else if i < 0 ∨ p.o.n ≤ i ∨ p.h.num ≠ i then 42 else if inPathF p.o.h p.o.n i (bSum p.h) p.path = true then 0 else 42
theorem holds_spec (p : Pf) (d : List UInt8) (i : Int) (hp : p.ok) (hd : d.length = 32) (h1 : p.path.length ≤ 100000) (s : Hp) :
    AC Tryz.prog 24 [p.V, dg d, .v (.int .i64 i)] s fun r s' => s' = s ∧ r = .v (.int .i64 (holdsF p d i)) := by
  refine AC_run hm prep24 (by simp) ?_
  have hc := Pf.cells (p := p)
  have hl := Pf.lenC hp
  have q1 := Pf.o65 hp
  have q2 := Pf.h97 hp
  have q3 := Pf.m0 hp
  have q4 := Pf.m97 hp
  have q5 := Pf.m162 hp
  have q7 := Pf.h32 hp
  have f1 := Opn.fold' (o := p.o)
  have f2 := Hd.fold' (h := p.h)
  simp (dsimp := false) (implicitDefEqProofs := false) (disch := first | omega | assumption | (simp only [rL, Nat.reduceAdd]; try omega)) only [↓rA, rZ, List.drop_succ_cons, ne_eq, not_true_eq_false, not_false_eq_true, List.getElem?_cons_zero, List.getElem?_cons_succ, ev, ofConst, ofCell, ↓reduceIte, Nat.reduceEqDiff, Nat.reduceAdd, Nat.reduceSub, Nat.reduceMul, Nat.reduceLeDiff, Nat.reduceLT, Int.reduceNeg, Int.reduceToNat, Int.reduceAdd, Int.reduceSub, Int.reduceMul, Int.reduceLT, Int.reduceLE, Int.reduceEq, Int.reduceNe, dg_cells, dg_fold, hc, hl, hd]
  refine newK_intro fun l3 n3 => ?_
  simp (dsimp := false) (implicitDefEqProofs := false) (disch := first | omega | assumption | (simp only [rL, Nat.reduceAdd]; try omega)) only [↓rA, rZ, List.drop_succ_cons, ne_eq, not_true_eq_false, not_false_eq_true, List.getElem?_cons_zero, List.getElem?_cons_succ, ev, ofConst, ofCell, ↓reduceIte, Nat.reduceEqDiff, Nat.reduceAdd, Nat.reduceSub, Nat.reduceMul, Nat.reduceLeDiff, Nat.reduceLT, Int.reduceNeg, Int.reduceToNat, Int.reduceAdd, Int.reduceSub, Int.reduceMul, Int.reduceLT, Int.reduceLE, Int.reduceEq, Int.reduceNe, dg_cells, dg_fold, hc, hl, hd]
  refine newK_intro fun l4 n4 => ?_
  obtain ⟨d34, e4⟩ := Hp.set_none n4
  have b4 : s.sub ((s.set l3 (.cells p.C)).set l4 (.cells (d.map byteAV))) := Hp.sub_new (Hp.sub_new Hp.sub_refl n3) e4
  have g3 : ((s.set l3 (.cells p.C)).set l4 (.cells (d.map byteAV))) l3 = some (.cells p.C) := by rw [Hp.set_ne _ _ (Ne.symm d34)]; exact Hp.set_same _ _ _
  have g4 : ((s.set l3 (.cells p.C)).set l4 (.cells (d.map byteAV))) l4 = some (.cells (d.map byteAV)) := Hp.set_same _ _ _
  simp (dsimp := false) (implicitDefEqProofs := false) (disch := first | omega | assumption | (simp only [rL, Nat.reduceAdd]; try omega)) only [↓rA, rZ, List.drop_succ_cons, ne_eq, not_true_eq_false, not_false_eq_true, List.getElem?_cons_zero, List.getElem?_cons_succ, ev, ofConst, ofCell, ↓reduceIte, Nat.reduceEqDiff, Nat.reduceAdd, Nat.reduceSub, Nat.reduceMul, Nat.reduceLeDiff, Nat.reduceLT, Int.reduceNeg, Int.reduceToNat, Int.reduceAdd, Int.reduceSub, Int.reduceMul, Int.reduceLT, Int.reduceLE, Int.reduceEq, Int.reduceNe, dg_cells, dg_fold, hc, hl, hd]
  generalize ((s.set l3 (.cells p.C)).set l4 (.cells (d.map byteAV))) = sA at *
  simp (dsimp := false) (implicitDefEqProofs := false) (disch := first | omega | assumption | (simp only [rL, Nat.reduceAdd]; try omega)) only [↓rA, rZ, List.drop_succ_cons, ne_eq, not_true_eq_false, not_false_eq_true, List.getElem?_cons_zero, List.getElem?_cons_succ, ev, ofConst, ofCell, ↓reduceIte, Nat.reduceEqDiff, Nat.reduceAdd, Nat.reduceSub, Nat.reduceMul, Nat.reduceLeDiff, Nat.reduceLT, Int.reduceNeg, Int.reduceToNat, Int.reduceAdd, Int.reduceSub, Int.reduceMul, Int.reduceLT, Int.reduceLE, Int.reduceEq, Int.reduceNe, dg_cells, dg_fold, hc, hl, hd, q1, f1, Hp.read_of g3, Hp.read_of g4]
  refine call_intro (bdigest_spec p.o.n p.o.h p.o.d hp.1.1 hp.1.2 sA) ?_
  rintro _ sA ⟨rfl, rfl⟩
  have hsum : sha256 (digPre p.o.n p.o.h p.o.d) = p.o.sum := rfl
  rw [hsum]
  have hsl : p.o.sum.length = 32 := sha256_length _
  unfold holdsF
  generalize p.o.sum = x at *
  simp (dsimp := false) (implicitDefEqProofs := false) (disch := first | omega | assumption | (simp only [rL, Nat.reduceAdd]; try omega)) only [↓rA, rZ, List.drop_succ_cons, ne_eq, not_true_eq_false, not_false_eq_true, List.getElem?_cons_zero, List.getElem?_cons_succ, ev, ofConst, ofCell, ↓reduceIte, Nat.reduceEqDiff, Nat.reduceAdd, Nat.reduceSub, Nat.reduceMul, Nat.reduceLeDiff, Nat.reduceLT, Int.reduceNeg, Int.reduceToNat, Int.reduceAdd, Int.reduceSub, Int.reduceMul, Int.reduceLT, Int.reduceLE, Int.reduceEq, Int.reduceNe, dg_cells, dg_fold, hc, hl, hd, Hp.read_of g4, hsl, eqvK_dg]
  by_cases c1 : ¬ x = d
  · simp (dsimp := false) (implicitDefEqProofs := false) (disch := first | omega | assumption | (simp only [rL, Nat.reduceAdd]; try omega)) only [↓rA, rZ, List.drop_succ_cons, ne_eq, not_true_eq_false, not_false_eq_true, List.getElem?_cons_zero, List.getElem?_cons_succ, ev, ofConst, ofCell, ↓reduceIte, Nat.reduceEqDiff, Nat.reduceAdd, Nat.reduceSub, Nat.reduceMul, Nat.reduceLeDiff, Nat.reduceLT, Int.reduceNeg, Int.reduceToNat, Int.reduceAdd, Int.reduceSub, Int.reduceMul, Int.reduceLT, Int.reduceLE, Int.reduceEq, Int.reduceNe, dg_cells, dg_fold, c1]
    first
      | exact ⟨s, b4, rfl⟩
      | exact ⟨s, b4, rfl, by simp⟩
      | exact ⟨s, b4, rfl, by simp; omega⟩
      | (simp only [c2, c3, c4, not_true_eq_false, not_false_eq_true, false_or, or_false, or_true, if_true, if_false, reduceCtorEq]; exact ⟨s, b4, rfl, rfl⟩)
  have c1 : x = d := Decidable.not_not.1 c1
  subst c1
  by_cases c2 : i < 0
  · simp (dsimp := false) (implicitDefEqProofs := false) (disch := first | omega | assumption | (simp only [rL, Nat.reduceAdd]; try omega)) only [↓rA, rZ, List.drop_succ_cons, ne_eq, not_true_eq_false, not_false_eq_true, List.getElem?_cons_zero, List.getElem?_cons_succ, ev, ofConst, ofCell, ↓reduceIte, Nat.reduceEqDiff, Nat.reduceAdd, Nat.reduceSub, Nat.reduceMul, Nat.reduceLeDiff, Nat.reduceLT, Int.reduceNeg, Int.reduceToNat, Int.reduceAdd, Int.reduceSub, Int.reduceMul, Int.reduceLT, Int.reduceLE, Int.reduceEq, Int.reduceNe, dg_cells, dg_fold, c2]
    first
      | exact ⟨s, b4, rfl⟩
      | exact ⟨s, b4, rfl, by simp⟩
      | exact ⟨s, b4, rfl, by simp; omega⟩
      | (simp only [c2, c3, c4, not_true_eq_false, not_false_eq_true, false_or, or_false, or_true, if_true, if_false, reduceCtorEq]; exact ⟨s, b4, rfl, rfl⟩)
  by_cases c3 : p.o.n ≤ i
  · simp (dsimp := false) (implicitDefEqProofs := false) (disch := first | omega | assumption | (simp only [rL, Nat.reduceAdd]; try omega)) only [↓rA, rZ, List.drop_succ_cons, ne_eq, not_true_eq_false, not_false_eq_true, List.getElem?_cons_zero, List.getElem?_cons_succ, ev, ofConst, ofCell, ↓reduceIte, Nat.reduceEqDiff, Nat.reduceAdd, Nat.reduceSub, Nat.reduceMul, Nat.reduceLeDiff, Nat.reduceLT, Int.reduceNeg, Int.reduceToNat, Int.reduceAdd, Int.reduceSub, Int.reduceMul, Int.reduceLT, Int.reduceLE, Int.reduceEq, Int.reduceNe, dg_cells, dg_fold, c2, c3, hl, q3, Hp.read_of g3]
    first
      | exact ⟨s, b4, rfl⟩
      | exact ⟨s, b4, rfl, by simp⟩
      | exact ⟨s, b4, rfl, by simp; omega⟩
      | (simp only [c2, c3, c4, not_true_eq_false, not_false_eq_true, false_or, or_false, or_true, if_true, if_false, reduceCtorEq]; exact ⟨s, b4, rfl, rfl⟩)
  by_cases c4 : ¬ p.h.num = i
  · simp (dsimp := false) (implicitDefEqProofs := false) (disch := first | omega | assumption | (simp only [rL, Nat.reduceAdd]; try omega)) only [↓rA, rZ, List.drop_succ_cons, ne_eq, not_true_eq_false, not_false_eq_true, List.getElem?_cons_zero, List.getElem?_cons_succ, ev, ofConst, ofCell, ↓reduceIte, Nat.reduceEqDiff, Nat.reduceAdd, Nat.reduceSub, Nat.reduceMul, Nat.reduceLeDiff, Nat.reduceLT, Int.reduceNeg, Int.reduceToNat, Int.reduceAdd, Int.reduceSub, Int.reduceMul, Int.reduceLT, Int.reduceLE, Int.reduceEq, Int.reduceNe, dg_cells, dg_fold, c2, c3, c4, hl, q3, q4, Hp.read_of g3]
    first
      | exact ⟨s, b4, rfl⟩
      | exact ⟨s, b4, rfl, by simp⟩
      | exact ⟨s, b4, rfl, by simp; omega⟩
      | (simp only [c2, c3, c4, not_true_eq_false, not_false_eq_true, false_or, or_false, or_true, if_true, if_false, reduceCtorEq]; exact ⟨s, b4, rfl, rfl⟩)
  have c4 : p.h.num = i := Decidable.not_not.1 c4
  simp (dsimp := false) (implicitDefEqProofs := false) (disch := first | omega | assumption | (simp only [rL, Nat.reduceAdd]; try omega)) only [↓rA, rZ, List.drop_succ_cons, ne_eq, not_true_eq_false, not_false_eq_true, List.getElem?_cons_zero, List.getElem?_cons_succ, ev, ofConst, ofCell, ↓reduceIte, Nat.reduceEqDiff, Nat.reduceAdd, Nat.reduceSub, Nat.reduceMul, Nat.reduceLeDiff, Nat.reduceLT, Int.reduceNeg, Int.reduceToNat, Int.reduceAdd, Int.reduceSub, Int.reduceMul, Int.reduceLT, Int.reduceLE, Int.reduceEq, Int.reduceNe, dg_cells, dg_fold, c2, c3, c4, hl, q2, q3, q4, q7, f2, dg_fold', Hp.read_of g3]
  refine call_intro (bsum_spec p.h hp.2.1 sA) ?_
  rintro _ sA ⟨rfl, rfl⟩
  simp (dsimp := false) (implicitDefEqProofs := false) (disch := first | omega | assumption | (simp only [rL, Nat.reduceAdd]; try omega)) only [↓rA, rZ, List.drop_succ_cons, ne_eq, not_true_eq_false, not_false_eq_true, List.getElem?_cons_zero, List.getElem?_cons_succ, ev, ofConst, ofCell, ↓reduceIte, Nat.reduceEqDiff, Nat.reduceAdd, Nat.reduceSub, Nat.reduceMul, Nat.reduceLeDiff, Nat.reduceLT, Int.reduceNeg, Int.reduceToNat, Int.reduceAdd, Int.reduceSub, Int.reduceMul, Int.reduceLT, Int.reduceLE, Int.reduceEq, Int.reduceNe, dg_cells, dg_fold, c2, c3, c4, hl, q2, q3, q4, q5, q7, f2, dg_fold', Hp.read_of g3]
  refine call_intro (InPath_spec p.o.h p.o.n i (bSum p.h) p.path p.op sA hp.1.1 (bSum_length _) hp.2.2 (by omega)) ?_
  rintro _ sA ⟨rfl, rfl⟩
  have c5 : ¬ (i < 0 ∨ p.o.n ≤ i ∨ p.h.num ≠ i) := by omega
  rw [if_neg c5]
  cases hq : inPathF p.o.h p.o.n i (bSum p.h) p.path
  · simp (dsimp := false) (implicitDefEqProofs := false) (disch := first | omega | assumption | (simp only [rL, Nat.reduceAdd]; try omega)) only [↓rA, rZ, List.drop_succ_cons, ne_eq, not_true_eq_false, not_false_eq_true, List.getElem?_cons_zero, List.getElem?_cons_succ, ev, ofConst, ofCell, ↓reduceIte, Nat.reduceEqDiff, Nat.reduceAdd, Nat.reduceSub, Nat.reduceMul, Nat.reduceLeDiff, Nat.reduceLT, Int.reduceNeg, Int.reduceToNat, Int.reduceAdd, Int.reduceSub, Int.reduceMul, Int.reduceLT, Int.reduceLE, Int.reduceEq, Int.reduceNe, dg_cells, dg_fold]
    first
      | exact ⟨s, b4, rfl⟩
      | exact ⟨s, b4, rfl, by simp⟩
      | exact ⟨s, b4, rfl, by simp; omega⟩
      | (simp only [c2, c3, c4, not_true_eq_false, not_false_eq_true, false_or, or_false, or_true, if_true, if_false, reduceCtorEq]; exact ⟨s, b4, rfl, rfl⟩)
  · simp (dsimp := false) (implicitDefEqProofs := false) (disch := first | omega | assumption | (simp only [rL, Nat.reduceAdd]; try omega)) only [↓rA, rZ, List.drop_succ_cons, ne_eq, not_true_eq_false, not_false_eq_true, List.getElem?_cons_zero, List.getElem?_cons_succ, ev, ofConst, ofCell, ↓reduceIte, Nat.reduceEqDiff, Nat.reduceAdd, Nat.reduceSub, Nat.reduceMul, Nat.reduceLeDiff, Nat.reduceLT, Int.reduceNeg, Int.reduceToNat, Int.reduceAdd, Int.reduceSub, Int.reduceMul, Int.reduceLT, Int.reduceLE, Int.reduceEq, Int.reduceNe, dg_cells, dg_fold]
    first
      | exact ⟨s, b4, rfl⟩
      | exact ⟨s, b4, rfl, by simp⟩
      | exact ⟨s, b4, rfl, by simp; omega⟩
      | (simp only [c2, c3, c4, not_true_eq_false, not_false_eq_true, false_or, or_false, or_true, if_true, if_false, reduceCtorEq]; exact ⟨s, b4, rfl, rfl⟩)
def memberE (p : Pf) (d bs : List UInt8) : Int :=
  match readBlockF bs with
  | none => 21
  | some (h, _) => if holdsF p d h.num ≠ 0 then holdsF p d h.num else if h ≠ p.h then 42 else 0
theorem readBlockF_ok {bs : List UInt8} {h : Hd} {l : List OpD} (e : readBlockF bs = some (h, l)) : h.ok ∧ h.may = true := by
  unfold readBlockF at e
  simp only at e
  split at e
  · split at e
    · rename_i h' l' e1 e2
      split at e
      · cases e
        exact readHeadF_ok e1
      · cases e
    · cases e
  · cases e
theorem member_spec (p : Pf) (d bs : List UInt8) (o : Own) (hp : p.ok) (hd : d.length = 32) (h1 : p.path.length ≤ 100000) (ho : o = .nil → bs = []) (hb : bs.length ≤ 100000000) (s : Hp) :
    AC Tryz.prog 10 [dg d, p.V, .sl (bs.map byteAV) o] s fun r s' => s' = s ∧ ∃ (hv : Hd) (lv : AV), hv.ok ∧ r = .tup [hv.V, lv, .v (.int .i64 (memberE p d bs))] ∧ (memberE p d bs = 0 → hv = p.h) := by
  refine AC_run hm prep10 (by simp) ?_
  rw [zh_C]
  have hz : (hdC zd 0 zd zd).length = 97 := rfl
  have zf : (.agg ((hdC zd 0 zd zd).take 97) : AV) = zh.V := rfl
  have hc := Pf.cells (p := p)
  have hl := Pf.lenC hp
  have q2 := Pf.h97 hp
  have f0 := Pf.fold hp
  have f2 := Hd.fold' (h := p.h)
  simp (dsimp := false) (implicitDefEqProofs := false) (disch := first | omega | assumption | (simp only [rL, Nat.reduceAdd]; try omega)) only [↓rA, rZ, List.drop_succ_cons, ne_eq, not_true_eq_false, not_false_eq_true, List.getElem?_cons_zero, List.getElem?_cons_succ, ev, ofConst, ofCell, ↓reduceIte, Nat.reduceEqDiff, Nat.reduceAdd, Nat.reduceSub, Nat.reduceMul, Nat.reduceLeDiff, Nat.reduceLT, Int.reduceNeg, Int.reduceToNat, Int.reduceAdd, Int.reduceSub, Int.reduceMul, Int.reduceLT, Int.reduceLE, Int.reduceEq, Int.reduceNe, dg_cells, dg_fold, hc, hl, hd]
  refine newK_intro fun l3 n3 => ?_
  simp (dsimp := false) (implicitDefEqProofs := false) (disch := first | omega | assumption | (simp only [rL, Nat.reduceAdd]; try omega)) only [↓rA, rZ, List.drop_succ_cons, ne_eq, not_true_eq_false, not_false_eq_true, List.getElem?_cons_zero, List.getElem?_cons_succ, ev, ofConst, ofCell, ↓reduceIte, Nat.reduceEqDiff, Nat.reduceAdd, Nat.reduceSub, Nat.reduceMul, Nat.reduceLeDiff, Nat.reduceLT, Int.reduceNeg, Int.reduceToNat, Int.reduceAdd, Int.reduceSub, Int.reduceMul, Int.reduceLT, Int.reduceLE, Int.reduceEq, Int.reduceNe, dg_cells, dg_fold, hc, hl, hd]
  refine newK_intro fun l4 n4 => ?_
  obtain ⟨d34, e4⟩ := Hp.set_none n4
  have b4 : s.sub ((s.set l3 (.cells (d.map byteAV))).set l4 (.cells p.C)) := Hp.sub_new (Hp.sub_new Hp.sub_refl n3) e4
  have g3 : ((s.set l3 (.cells (d.map byteAV))).set l4 (.cells p.C)) l3 = some (.cells (d.map byteAV)) := by rw [Hp.set_ne _ _ (Ne.symm d34)]; exact Hp.set_same _ _ _
  have g4 : ((s.set l3 (.cells (d.map byteAV))).set l4 (.cells p.C)) l4 = some (.cells p.C) := Hp.set_same _ _ _
  simp (dsimp := false) (implicitDefEqProofs := false) (disch := first | omega | assumption | (simp only [rL, Nat.reduceAdd]; try omega)) only [↓rA, rZ, List.drop_succ_cons, ne_eq, not_true_eq_false, not_false_eq_true, List.getElem?_cons_zero, List.getElem?_cons_succ, ev, ofConst, ofCell, ↓reduceIte, Nat.reduceEqDiff, Nat.reduceAdd, Nat.reduceSub, Nat.reduceMul, Nat.reduceLeDiff, Nat.reduceLT, Int.reduceNeg, Int.reduceToNat, Int.reduceAdd, Int.reduceSub, Int.reduceMul, Int.reduceLT, Int.reduceLE, Int.reduceEq, Int.reduceNe, dg_cells, dg_fold, hc, hl, hd]
  refine newK_intro fun l6 n6 => ?_
  simp (dsimp := false) (implicitDefEqProofs := false) (disch := first | omega | assumption | (simp only [rL, Nat.reduceAdd]; try omega)) only [↓rA, rZ, List.drop_succ_cons, ne_eq, not_true_eq_false, not_false_eq_true, List.getElem?_cons_zero, List.getElem?_cons_succ, ev, ofConst, ofCell, ↓reduceIte, Nat.reduceEqDiff, Nat.reduceAdd, Nat.reduceSub, Nat.reduceMul, Nat.reduceLeDiff, Nat.reduceLT, Int.reduceNeg, Int.reduceToNat, Int.reduceAdd, Int.reduceSub, Int.reduceMul, Int.reduceLT, Int.reduceLE, Int.reduceEq, Int.reduceNe, dg_cells, dg_fold, hc, hl, hd]
  generalize ((s.set l3 (.cells (d.map byteAV))).set l4 (.cells p.C)) = sA at *
  have d63 : l3 ≠ l6 := by rintro rfl; rw [g3] at n6; cases n6
  have d64 : l4 ≠ l6 := by rintro rfl; rw [g4] at n6; cases n6
  have b6 : s.sub (sA.set l6 (.cells (hdC zd 0 zd zd))) := Hp.sub_new b4 (Hp.sub_none b4 n6)
  have k3 : (sA.set l6 (.cells (hdC zd 0 zd zd))) l3 = some (.cells (d.map byteAV)) := by rw [Hp.set_ne _ _ d63]; exact g3
  have k4 : (sA.set l6 (.cells (hdC zd 0 zd zd))) l4 = some (.cells p.C) := by rw [Hp.set_ne _ _ d64]; exact g4
  have k6 : (sA.set l6 (.cells (hdC zd 0 zd zd))) l6 = some (.cells (hdC zd 0 zd zd)) := Hp.set_same _ _ _
  have e6 : s l6 = none := Hp.sub_none b4 n6
  generalize (sA.set l6 (.cells (hdC zd 0 zd zd))) = sB at *
  refine call_intro (readblock_spec bs o ho hb sB) ?_
  rintro x sB ⟨rfl, hx⟩
  have hx0 : ∃ (hv : Hd) (lv : AV) (e : Int), hv.ok ∧ x = .tup [hv.V, lv, .v (.int .i64 e)] ∧ (match readBlockF bs with | none => e = 21 | some (h, _) => e = 0 ∧ hv = h) := by
    cases hq : readBlockF bs with
    | none => rw [hq] at hx; exact ⟨zh, _, 21, zh_ok, hx, rfl⟩
    | some hl => obtain ⟨h, l⟩ := hl; rw [hq] at hx; obtain ⟨lr, ol, _, q⟩ := hx; exact ⟨h, _, 0, (readBlockF_ok hq).1, q, rfl, rfl⟩
  obtain ⟨hv, lv, e, hvk, rfl, he⟩ := hx0
  have hvc := Hd.cells (h := hv)
  have hvl := Hd.lenC hvk
  have hvn := Hd.n32 hvk
  have hvf := Hd.fold hvk
  have hp9 : putAt (hdC zd 0 zd zd) 0 hv.C = hv.C := putAt_all (by rw [hvl, hz])
  simp (dsimp := false) (implicitDefEqProofs := false) (disch := first | omega | assumption | (simp only [rL, Nat.reduceAdd]; try omega)) only [↓rA, rZ, List.drop_succ_cons, ne_eq, not_true_eq_false, not_false_eq_true, List.getElem?_cons_zero, List.getElem?_cons_succ, ev, ofConst, ofCell, ↓reduceIte, Nat.reduceEqDiff, Nat.reduceAdd, Nat.reduceSub, Nat.reduceMul, Nat.reduceLeDiff, Nat.reduceLT, Int.reduceNeg, Int.reduceToNat, Int.reduceAdd, Int.reduceSub, Int.reduceMul, Int.reduceLT, Int.reduceLE, Int.reduceEq, Int.reduceNe, dg_cells, dg_fold, hvc, hvl, hp9]
  refine newK_intro fun l9 n9 => ?_
  have d96 : l6 ≠ l9 := by rintro rfl; rw [k6] at n9; cases n9
  have d93 : l3 ≠ l9 := by rintro rfl; rw [k3] at n9; cases n9
  have d94 : l4 ≠ l9 := by rintro rfl; rw [k4] at n9; cases n9
  have m9 : (sB.set l9 (.cells hv.C)) l9 = some (.cells hv.C) := Hp.set_same _ _ _
  have m6 : (sB.set l9 (.cells hv.C)) l6 = some (.cells (hdC zd 0 zd zd)) := by rw [Hp.set_ne _ _ d96]; exact k6
  have m3 : (sB.set l9 (.cells hv.C)) l3 = some (.cells (d.map byteAV)) := by rw [Hp.set_ne _ _ d93]; exact k3
  have m4 : (sB.set l9 (.cells hv.C)) l4 = some (.cells p.C) := by rw [Hp.set_ne _ _ d94]; exact k4
  have b9 : s.sub (sB.set l9 (.cells hv.C)) := Hp.sub_new b6 (Hp.sub_none b6 n9)
  simp (dsimp := false) (implicitDefEqProofs := false) (disch := first | omega | assumption | (simp only [rL, Nat.reduceAdd]; try omega)) only [↓rA, rZ, List.drop_succ_cons, ne_eq, not_true_eq_false, not_false_eq_true, List.getElem?_cons_zero, List.getElem?_cons_succ, ev, ofConst, ofCell, ↓reduceIte, Nat.reduceEqDiff, Nat.reduceAdd, Nat.reduceSub, Nat.reduceMul, Nat.reduceLeDiff, Nat.reduceLT, Int.reduceNeg, Int.reduceToNat, Int.reduceAdd, Int.reduceSub, Int.reduceMul, Int.reduceLT, Int.reduceLE, Int.reduceEq, Int.reduceNe, dg_cells, dg_fold, hvc, hvl, hp9]
  rw [Hp.set_set]
  generalize (sB.set l9 (.cells hv.C)) = sC at *
  have b6' : ∀ ob, s.sub (sC.set l6 ob) := fun ob => Hp.sub_new b9 e6
  have hpk := hp.2.1
  unfold memberE
  cases hq : readBlockF bs with
  | none =>
    rw [hq] at he
    obtain rfl : e = 21 := he
    simp (dsimp := false) (implicitDefEqProofs := false) (disch := first | omega | assumption | (simp only [rL, Nat.reduceAdd]; try omega)) only [↓rA, rZ, List.drop_succ_cons, ne_eq, not_true_eq_false, not_false_eq_true, List.getElem?_cons_zero, List.getElem?_cons_succ, ev, ofConst, ofCell, ↓reduceIte, Nat.reduceEqDiff, Nat.reduceAdd, Nat.reduceSub, Nat.reduceMul, Nat.reduceLeDiff, Nat.reduceLT, Int.reduceNeg, Int.reduceToNat, Int.reduceAdd, Int.reduceSub, Int.reduceMul, Int.reduceLT, Int.reduceLE, Int.reduceEq, Int.reduceNe, dg_cells, dg_fold, hz, zf, Hp.read_of m6, Hp.stA_of m6]
    exact ⟨s, b6' _, rfl, zh, _, zh_ok, rfl, fun h => h.elim⟩
  | some hl2 =>
    obtain ⟨h, l⟩ := hl2
    rw [hq] at he
    obtain ⟨rfl, rfl⟩ := he
    simp (dsimp := false) (implicitDefEqProofs := false) (disch := first | omega | assumption | (simp only [rL, Nat.reduceAdd]; try omega)) only [↓rA, rZ, List.drop_succ_cons, ne_eq, not_true_eq_false, not_false_eq_true, List.getElem?_cons_zero, List.getElem?_cons_succ, ev, ofConst, ofCell, ↓reduceIte, Nat.reduceEqDiff, Nat.reduceAdd, Nat.reduceSub, Nat.reduceMul, Nat.reduceLeDiff, Nat.reduceLT, Int.reduceNeg, Int.reduceToNat, Int.reduceAdd, Int.reduceSub, Int.reduceMul, Int.reduceLT, Int.reduceLE, Int.reduceEq, Int.reduceNe, dg_cells, dg_fold, hc, hl, hd, hvl, hvn, f0, Hp.read_of m3, Hp.read_of m4, Hp.read_of m9]
    refine call_intro (holds_spec p d hv.num hp hd h1 sC) ?_
    rintro _ sC ⟨rfl, rfl⟩
    simp only
    generalize holdsF p d hv.num = eh at *
    by_cases c1 : ¬ eh = 0
    · simp (dsimp := false) (implicitDefEqProofs := false) (disch := first | omega | assumption | (simp only [rL, Nat.reduceAdd]; try omega)) only [↓rA, rZ, List.drop_succ_cons, ne_eq, not_true_eq_false, not_false_eq_true, List.getElem?_cons_zero, List.getElem?_cons_succ, ev, ofConst, ofCell, ↓reduceIte, Nat.reduceEqDiff, Nat.reduceAdd, Nat.reduceSub, Nat.reduceMul, Nat.reduceLeDiff, Nat.reduceLT, Int.reduceNeg, Int.reduceToNat, Int.reduceAdd, Int.reduceSub, Int.reduceMul, Int.reduceLT, Int.reduceLE, Int.reduceEq, Int.reduceNe, dg_cells, dg_fold, c1, hz, zf, Hp.read_of m6, Hp.stA_of m6]
      exact ⟨s, b6' _, rfl, zh, _, zh_ok, rfl, fun h => h.elim⟩
    have c1 : eh = 0 := Decidable.not_not.1 c1
    subst c1
    simp (dsimp := false) (implicitDefEqProofs := false) (disch := first | omega | assumption | (simp only [rL, Nat.reduceAdd]; try omega)) only [↓rA, rZ, List.drop_succ_cons, ne_eq, not_true_eq_false, not_false_eq_true, List.getElem?_cons_zero, List.getElem?_cons_succ, ev, ofConst, ofCell, ↓reduceIte, Nat.reduceEqDiff, Nat.reduceAdd, Nat.reduceSub, Nat.reduceMul, Nat.reduceLeDiff, Nat.reduceLT, Int.reduceNeg, Int.reduceToNat, Int.reduceAdd, Int.reduceSub, Int.reduceMul, Int.reduceLT, Int.reduceLE, Int.reduceEq, Int.reduceNe, dg_cells, dg_fold, hc, hl, hvl, hvf, q2, f2, Hp.read_of m4, Hp.read_of m9, eqvK_hd]
    by_cases c2 : hv = p.h
    · have c2t : (hv = p.h) = True := eq_true c2
      simp (dsimp := false) (implicitDefEqProofs := false) (disch := first | omega | assumption | (simp only [rL, Nat.reduceAdd]; try omega)) only [↓rA, rZ, List.drop_succ_cons, ne_eq, not_true_eq_false, not_false_eq_true, List.getElem?_cons_zero, List.getElem?_cons_succ, ev, ofConst, ofCell, ↓reduceIte, Nat.reduceEqDiff, Nat.reduceAdd, Nat.reduceSub, Nat.reduceMul, Nat.reduceLeDiff, Nat.reduceLT, Int.reduceNeg, Int.reduceToNat, Int.reduceAdd, Int.reduceSub, Int.reduceMul, Int.reduceLT, Int.reduceLE, Int.reduceEq, Int.reduceNe, dg_cells, dg_fold, c2t, hz, zf, Hp.read_of m6, Hp.stA_of m6, Hp.read_of m9, hvc, hvl, hvf, hp9]
      exact ⟨s, b6' _, rfl, hv, _, hvk, rfl, fun _ => c2⟩
    · have c2t : (hv = p.h) = False := eq_false c2
      simp (dsimp := false) (implicitDefEqProofs := false) (disch := first | omega | assumption | (simp only [rL, Nat.reduceAdd]; try omega)) only [↓rA, rZ, List.drop_succ_cons, ne_eq, not_true_eq_false, not_false_eq_true, List.getElem?_cons_zero, List.getElem?_cons_succ, ev, ofConst, ofCell, ↓reduceIte, Nat.reduceEqDiff, Nat.reduceAdd, Nat.reduceSub, Nat.reduceMul, Nat.reduceLeDiff, Nat.reduceLT, Int.reduceNeg, Int.reduceToNat, Int.reduceAdd, Int.reduceSub, Int.reduceMul, Int.reduceLT, Int.reduceLE, Int.reduceEq, Int.reduceNe, dg_cells, dg_fold, c2t, hz, zf, Hp.read_of m6, Hp.stA_of m6]
      exact ⟨s, b6' _, rfl, zh, _, zh_ok, rfl, fun h => h.elim⟩
def pGrows (d : List UInt8) (o : Opn) (e : List UInt8) (q : Opn) (l : List (List UInt8)) : Bool := decide (o.sum = d) && (decide (q.sum = e) && growsF o.h o.n q.h q.n l)
theorem pgrows_spec (d : List UInt8) (o : Opn) (e : List UInt8) (q : Opn) (l : List (List UInt8)) (ol : Own) (hd : d.length = 32) (ho : o.ok) (he : e.length = 32) (hq : q.ok) (hl : Digs l) (hll : l.length ≤ 400000) (s : Hp) :
    AC Tryz.prog 11 [dg d, o.V, dg e, q.V, .sl (l.map dg) ol] s fun r s' => s' = s ∧ r = .v (.bool (pGrows d o e q l)) := by
  refine AC_run hm prep11 (by simp) ?_
  have c1 := Opn.cells (o := o)
  have c2 := Opn.cells (o := q)
  have l1 := Opn.lenC ho
  have l2 := Opn.lenC hq
  have f1 := Opn.fold ho
  have f2 := Opn.fold hq
  have h1 := Opn.h32 ho
  have h2 := Opn.h32 hq
  have m1 := Opn.m0 (o := o)
  have m2 := Opn.m0 (o := q)
  simp (dsimp := false) (implicitDefEqProofs := false) (disch := first | omega | assumption | (simp only [rL, Nat.reduceAdd]; try omega)) only [↓rA, rZ, List.drop_succ_cons, ne_eq, not_true_eq_false, not_false_eq_true, List.getElem?_cons_zero, List.getElem?_cons_succ, ev, ofConst, ofCell, ↓reduceIte, Nat.reduceEqDiff, Nat.reduceAdd, Nat.reduceSub, Nat.reduceMul, Nat.reduceLeDiff, Nat.reduceLT, Int.reduceNeg, Int.reduceToNat, Int.reduceAdd, Int.reduceSub, Int.reduceMul, Int.reduceLT, Int.reduceLE, Int.reduceEq, Int.reduceNe, dg_cells, dg_fold, c1, c2, l1, l2, hd, he]
  refine newK_intro fun a5 n5 => ?_
  simp (dsimp := false) (implicitDefEqProofs := false) (disch := first | omega | assumption | (simp only [rL, Nat.reduceAdd]; try omega)) only [↓rA, rZ, List.drop_succ_cons, ne_eq, not_true_eq_false, not_false_eq_true, List.getElem?_cons_zero, List.getElem?_cons_succ, ev, ofConst, ofCell, ↓reduceIte, Nat.reduceEqDiff, Nat.reduceAdd, Nat.reduceSub, Nat.reduceMul, Nat.reduceLeDiff, Nat.reduceLT, Int.reduceNeg, Int.reduceToNat, Int.reduceAdd, Int.reduceSub, Int.reduceMul, Int.reduceLT, Int.reduceLE, Int.reduceEq, Int.reduceNe, dg_cells, dg_fold, c1, c2, l1, l2, hd, he]
  refine newK_intro fun a6 n6 => ?_
  obtain ⟨d65, e6⟩ := Hp.set_none n6
  simp (dsimp := false) (implicitDefEqProofs := false) (disch := first | omega | assumption | (simp only [rL, Nat.reduceAdd]; try omega)) only [↓rA, rZ, List.drop_succ_cons, ne_eq, not_true_eq_false, not_false_eq_true, List.getElem?_cons_zero, List.getElem?_cons_succ, ev, ofConst, ofCell, ↓reduceIte, Nat.reduceEqDiff, Nat.reduceAdd, Nat.reduceSub, Nat.reduceMul, Nat.reduceLeDiff, Nat.reduceLT, Int.reduceNeg, Int.reduceToNat, Int.reduceAdd, Int.reduceSub, Int.reduceMul, Int.reduceLT, Int.reduceLE, Int.reduceEq, Int.reduceNe, dg_cells, dg_fold, c1, c2, l1, l2, hd, he]
  refine newK_intro fun a7 n7 => ?_
  obtain ⟨d76, e7⟩ := Hp.set_none n7
  obtain ⟨d75, e7⟩ := Hp.set_none e7
  simp (dsimp := false) (implicitDefEqProofs := false) (disch := first | omega | assumption | (simp only [rL, Nat.reduceAdd]; try omega)) only [↓rA, rZ, List.drop_succ_cons, ne_eq, not_true_eq_false, not_false_eq_true, List.getElem?_cons_zero, List.getElem?_cons_succ, ev, ofConst, ofCell, ↓reduceIte, Nat.reduceEqDiff, Nat.reduceAdd, Nat.reduceSub, Nat.reduceMul, Nat.reduceLeDiff, Nat.reduceLT, Int.reduceNeg, Int.reduceToNat, Int.reduceAdd, Int.reduceSub, Int.reduceMul, Int.reduceLT, Int.reduceLE, Int.reduceEq, Int.reduceNe, dg_cells, dg_fold, c1, c2, l1, l2, hd, he]
  refine newK_intro fun a8 n8 => ?_
  obtain ⟨d87, e8⟩ := Hp.set_none n8
  obtain ⟨d86, e8⟩ := Hp.set_none e8
  obtain ⟨d85, e8⟩ := Hp.set_none e8
  have b8 : s.sub ((((s.set a5 (.cells (d.map byteAV))).set a6 (.cells o.C)).set a7 (.cells (e.map byteAV))).set a8 (.cells q.C)) := Hp.sub_new (Hp.sub_new (Hp.sub_new (Hp.sub_new Hp.sub_refl n5) e6) e7) e8
  have g8 : ((((s.set a5 (.cells (d.map byteAV))).set a6 (.cells o.C)).set a7 (.cells (e.map byteAV))).set a8 (.cells q.C)) a8 = some (.cells q.C) := Hp.set_same _ _ _
  have g7 : ((((s.set a5 (.cells (d.map byteAV))).set a6 (.cells o.C)).set a7 (.cells (e.map byteAV))).set a8 (.cells q.C)) a7 = some (.cells (e.map byteAV)) := by rw [Hp.set_ne _ _ (Ne.symm d87)]; exact Hp.set_same _ _ _
  have g6 : ((((s.set a5 (.cells (d.map byteAV))).set a6 (.cells o.C)).set a7 (.cells (e.map byteAV))).set a8 (.cells q.C)) a6 = some (.cells o.C) := by rw [Hp.set_ne _ _ (Ne.symm d86), Hp.set_ne _ _ (Ne.symm d76)]; exact Hp.set_same _ _ _
  have g5 : ((((s.set a5 (.cells (d.map byteAV))).set a6 (.cells o.C)).set a7 (.cells (e.map byteAV))).set a8 (.cells q.C)) a5 = some (.cells (d.map byteAV)) := by rw [Hp.set_ne _ _ (Ne.symm d85), Hp.set_ne _ _ (Ne.symm d75), Hp.set_ne _ _ (Ne.symm d65)]; exact Hp.set_same _ _ _
  rw [c1, c2]
  simp (dsimp := false) (implicitDefEqProofs := false) (disch := first | omega | assumption | (simp only [rL, Nat.reduceAdd]; try omega)) only [↓rA, rZ, List.drop_succ_cons, ne_eq, not_true_eq_false, not_false_eq_true, List.getElem?_cons_zero, List.getElem?_cons_succ, ev, ofConst, ofCell, ↓reduceIte, Nat.reduceEqDiff, Nat.reduceAdd, Nat.reduceSub, Nat.reduceMul, Nat.reduceLeDiff, Nat.reduceLT, Int.reduceNeg, Int.reduceToNat, Int.reduceAdd, Int.reduceSub, Int.reduceMul, Int.reduceLT, Int.reduceLE, Int.reduceEq, Int.reduceNe, dg_cells, dg_fold, c1, c2, l1, l2, hd, he, f1, f2, d65, d75, d76, d85, d86, d87, Ne.symm d65, Ne.symm d75, Ne.symm d76, Ne.symm d85, Ne.symm d86, Ne.symm d87]
  generalize ((((s.set a5 (.cells (d.map byteAV))).set a6 (.cells o.C)).set a7 (.cells (e.map byteAV))).set a8 (.cells q.C)) = sA at *
  refine call_intro (bdigest_spec o.n o.h o.d ho.1 ho.2 sA) ?_
  rintro _ sA ⟨rfl, rfl⟩
  have hs1 : sha256 (digPre o.n o.h o.d) = o.sum := rfl
  have hs2 : sha256 (digPre q.n q.h q.d) = q.sum := rfl
  have k1 : o.sum.length = 32 := sha256_length _
  have k2 : q.sum.length = 32 := sha256_length _
  rw [hs1]
  unfold pGrows
  generalize o.sum = x at *
  by_cases e1 : ¬ x = d
  · have e1t : (x = d) = False := eq_false e1
    simp (dsimp := false) (implicitDefEqProofs := false) (disch := first | omega | assumption | (simp only [rL, Nat.reduceAdd]; try omega)) only [↓rA, rZ, List.drop_succ_cons, ne_eq, not_true_eq_false, not_false_eq_true, List.getElem?_cons_zero, List.getElem?_cons_succ, ev, ofConst, ofCell, ↓reduceIte, Nat.reduceEqDiff, Nat.reduceAdd, Nat.reduceSub, Nat.reduceMul, Nat.reduceLeDiff, Nat.reduceLT, Int.reduceNeg, Int.reduceToNat, Int.reduceAdd, Int.reduceSub, Int.reduceMul, Int.reduceLT, Int.reduceLE, Int.reduceEq, Int.reduceNe, dg_cells, dg_fold, hd, k1, eqvK_dg, Hp.read_of g5, e1t]
    exact ⟨s, b8, rfl⟩
  have e1 : x = d := Decidable.not_not.1 e1
  have e1t : (x = d) = True := eq_true e1
  simp (dsimp := false) (implicitDefEqProofs := false) (disch := first | omega | assumption | (simp only [rL, Nat.reduceAdd]; try omega)) only [↓rA, rZ, List.drop_succ_cons, ne_eq, not_true_eq_false, not_false_eq_true, List.getElem?_cons_zero, List.getElem?_cons_succ, ev, ofConst, ofCell, ↓reduceIte, Nat.reduceEqDiff, Nat.reduceAdd, Nat.reduceSub, Nat.reduceMul, Nat.reduceLeDiff, Nat.reduceLT, Int.reduceNeg, Int.reduceToNat, Int.reduceAdd, Int.reduceSub, Int.reduceMul, Int.reduceLT, Int.reduceLE, Int.reduceEq, Int.reduceNe, dg_cells, dg_fold, hd, he, k1, eqvK_dg, Hp.read_of g5, Hp.read_of g7, Hp.read_of g8, e1t, c2, l2, f2]
  refine call_intro (bdigest_spec q.n q.h q.d hq.1 hq.2 sA) ?_
  rintro _ sA ⟨rfl, rfl⟩
  rw [hs2]
  generalize q.sum = y at *
  by_cases e2 : ¬ y = e
  · have e2t : (y = e) = False := eq_false e2
    simp (dsimp := false) (implicitDefEqProofs := false) (disch := first | omega | assumption | (simp only [rL, Nat.reduceAdd]; try omega)) only [↓rA, rZ, List.drop_succ_cons, ne_eq, not_true_eq_false, not_false_eq_true, List.getElem?_cons_zero, List.getElem?_cons_succ, ev, ofConst, ofCell, ↓reduceIte, Nat.reduceEqDiff, Nat.reduceAdd, Nat.reduceSub, Nat.reduceMul, Nat.reduceLeDiff, Nat.reduceLT, Int.reduceNeg, Int.reduceToNat, Int.reduceAdd, Int.reduceSub, Int.reduceMul, Int.reduceLT, Int.reduceLE, Int.reduceEq, Int.reduceNe, dg_cells, dg_fold, he, k2, eqvK_dg, Hp.read_of g7, e2t]
    exact ⟨s, b8, rfl, by simp⟩
  have e2 : y = e := Decidable.not_not.1 e2
  have e2t : (y = e) = True := eq_true e2
  have te : e.take 32 = e := List.take_of_length_le (by omega)
  simp (dsimp := false) (implicitDefEqProofs := false) (disch := first | omega | assumption | (simp only [rL, Nat.reduceAdd]; try omega)) only [↓rA, rZ, List.drop_succ_cons, ne_eq, not_true_eq_false, not_false_eq_true, List.getElem?_cons_zero, List.getElem?_cons_succ, ev, ofConst, ofCell, ↓reduceIte, Nat.reduceEqDiff, Nat.reduceAdd, Nat.reduceSub, Nat.reduceMul, Nat.reduceLeDiff, Nat.reduceLT, Int.reduceNeg, Int.reduceToNat, Int.reduceAdd, Int.reduceSub, Int.reduceMul, Int.reduceLT, Int.reduceLE, Int.reduceEq, Int.reduceNe, dg_cells, dg_fold, he, te, k2, eqvK_dg, Hp.read_of g7, Hp.read_of g6, Hp.read_of g8, e2t, l1, l2, h1, h2, m1, m2, dg_fold']
  refine call_intro (Grows_spec o.h o.n q.h q.n l ol sA ho.1 hq.1 hl hll) ?_
  rintro _ sA ⟨rfl, rfl⟩
  simp (dsimp := false) (implicitDefEqProofs := false) (disch := first | omega | assumption | (simp only [rL, Nat.reduceAdd]; try omega)) only [↓rA, rZ, List.drop_succ_cons, ne_eq, not_true_eq_false, not_false_eq_true, List.getElem?_cons_zero, List.getElem?_cons_succ, ev, ofConst, ofCell, ↓reduceIte, Nat.reduceEqDiff, Nat.reduceAdd, Nat.reduceSub, Nat.reduceMul, Nat.reduceLeDiff, Nat.reduceLT, Int.reduceNeg, Int.reduceToNat, Int.reduceAdd, Int.reduceSub, Int.reduceMul, Int.reduceLT, Int.reduceLE, Int.reduceEq, Int.reduceNe, dg_cells, dg_fold]
  refine ⟨s, b8, rfl, ?_⟩
  simp [e1, e2]
end Go.Proofs.YtnnjjmiahcnbaaaGreat
/-
  What is read is what was written: numbers, digests, texts, heads, blocks.
-/
set_option maxRecDepth 100000
namespace Go.Proofs.YtnnjjmiahcnbaaaGreat
open Go Go.Av
theorem takeR_inv {r : Rd} {n : Nat} (h : (takeR r n).2.e = 0) : r.e = 0 ∧ ∃ bs, (takeR r n).1 = some bs ∧ bs.length = n ∧ r.b = bs ++ (takeR r n).2.b := by
  unfold takeR at h ⊢
  by_cases c : r.e = 0
  · rw [if_pos c] at h ⊢
    by_cases c2 : r.b.length < n
    · rw [if_pos c2] at h; exact absurd h (by show ¬ ((20 : Int) = 0); decide)
    · rw [if_neg c2]
      exact ⟨c, r.b.take n, rfl, by rw [List.length_take]; omega, (List.take_append_drop n r.b).symm⟩
  · rw [if_neg c] at h; exact absurd h c
theorem failF_e (r : Rd) (e : Int) (he : e ≠ 0) (h : (failF r e).e = 0) : False := by
  unfold failF at h
  split at h
  · exact he h
  · rename_i c; exact c h
theorem countB_beN (a b c : UInt8) : countB (beN [a, b, c]) = [a, b, c] := by
  have ha := a.toNat_lt; have hb := b.toNat_lt; have hc := c.toNat_lt
  have e : beN [a, b, c] = (a.toNat * 256 + b.toNat) * 256 + c.toNat := by simp [beN]
  rw [e, countB, Nat.shiftRight_eq_div_pow, Nat.shiftRight_eq_div_pow]
  have h1 : UInt8.ofNat (((a.toNat * 256 + b.toNat) * 256 + c.toNat) / 2 ^ 16) = a := by
    apply UInt8.toNat_inj.1; rw [UInt8.toNat_ofNat']; omega
  have h2 : UInt8.ofNat (((a.toNat * 256 + b.toNat) * 256 + c.toNat) / 2 ^ 8) = b := by
    apply UInt8.toNat_inj.1; rw [UInt8.toNat_ofNat']; omega
  have h3 : UInt8.ofNat ((a.toNat * 256 + b.toNat) * 256 + c.toNat) = c := by
    apply UInt8.toNat_inj.1; rw [UInt8.toNat_ofNat']; omega
  rw [h1, h2, h3]
theorem countR_inv {most : Nat} {r : Rd} (h : (countR most r).2.e = 0) : r.e = 0 ∧ r.b = countB (countR most r).1 ++ (countR most r).2.b := by
  unfold countR at h ⊢
  split at h
  · rename_i hn
    obtain ⟨_, bs, hb, _⟩ := takeR_inv h
    rw [hn] at hb; cases hb
  · rename_i bs hs
    split at h
    · exact (failF_e _ _ (by decide) h).elim
    · rename_i c
      obtain ⟨h1, bs', hb, hl, hr⟩ := takeR_inv h
      rw [hs] at hb; cases hb
      simp only [if_neg c]
      refine ⟨h1, ?_⟩
      match bs, hl with
      | [x, y, z], _ => rw [countB_beN]; exact hr
theorem textR_inv {most : Nat} {r : Rd} (h : (textR most r).2.e = 0) : r.e = 0 ∧ r.b = textB (textR most r).1 ++ (textR most r).2.b := by
  unfold textR at h ⊢
  obtain ⟨h1, bs, h2, h3, h4⟩ := takeR_inv h
  obtain ⟨h5, h6⟩ := countR_inv h1
  refine ⟨h5, ?_⟩
  rw [h2, Option.getD_some, textB, h3, List.append_assoc, ← h4]
  exact h6
theorem digR_inv {r : Rd} (h : (digR r).2.e = 0) : r.e = 0 ∧ r.b = (digR r).1 ++ (digR r).2.b := by
  unfold digR at h ⊢
  obtain ⟨h1, bs, h2, h3, h4⟩ := takeR_inv h
  rw [h2]; exact ⟨h1, h4⟩
theorem numB_beN (bs : List UInt8) (hl : bs.length = 8) : numB (BitVec.ofNat 64 (beN bs) ^^^ 9223372036854775808#64).toInt = bs := by
  have hb := beN_lt bs
  rw [hl] at hb
  have hb : beN bs < 18446744073709551616 := hb
  have e : numN (BitVec.ofNat 64 (beN bs) ^^^ 9223372036854775808#64).toInt = beN bs := by
    rw [numN, BitVec.ofInt_toInt, BitVec.xor_assoc]
    have : (9223372036854775808#64 ^^^ BitVec.ofInt 64 9223372036854775808) = 0#64 := by decide
    rw [this, BitVec.xor_zero, BitVec.toNat_ofNat, Nat.mod_eq_of_lt hb]
  rw [numB, e]
  match bs, hl with
  | [a, b, c, d, x, y, z, w], _ =>
    have h1 := a.toNat_lt; have h2 := b.toNat_lt; have h3 := c.toNat_lt; have h4 := d.toNat_lt
    have h5 := x.toNat_lt; have h6 := y.toNat_lt; have h7 := z.toNat_lt; have h8 := w.toNat_lt
    have e : beN [a, b, c, d, x, y, z, w] = ((((((a.toNat * 256 + b.toNat) * 256 + c.toNat) * 256 + d.toNat) * 256 + x.toNat) * 256 + y.toNat) * 256 + z.toNat) * 256 + w.toNat := by simp [beN]
    rw [e]
    simp only [eightB, Nat.shiftRight_eq_div_pow, Nat.reducePow]
    have key : ∀ (n : Nat) (u : UInt8), n % 256 = u.toNat → UInt8.ofNat n = u := fun n u h => by
      apply UInt8.toNat_inj.1; rw [UInt8.toNat_ofNat']; exact h
    rw [key _ a (by omega), key _ b (by omega), key _ c (by omega), key _ d (by omega), key _ x (by omega), key _ y (by omega), key _ z (by omega), key _ w (by omega)]
theorem numR_inv {r : Rd} (h : (numR r).2.e = 0) : r.e = 0 ∧ r.b = numB (numR r).1 ++ (numR r).2.b := by
  unfold numR at h ⊢
  split at h
  · rename_i hn
    obtain ⟨_, bs, hb, _⟩ := takeR_inv h
    rw [hn] at hb; cases hb
  · rename_i bs hs
    obtain ⟨h1, bs', hb, hl, hr⟩ := takeR_inv h
    rw [hs] at hb; cases hb
    refine ⟨h1, ?_⟩
    simp only
    rw [numB_beN bs hl]; exact hr
theorem endR_inv {r : Rd} (h : (endR r).e = 0) : r.e = 0 ∧ r.b = [] := by
  unfold endR at h
  split at h
  · exact (failF_e _ _ (by decide) h).elim
  · rename_i c
    exact ⟨h, List.eq_nil_of_length_eq_zero (by omega)⟩
theorem readHeadF_inv {bs : List UInt8} {h : Hd} (e : readHeadF bs = some h) : bs = headB h := by
  unfold readHeadF at e
  simp only at e
  split at e
  · rename_i c
    obtain ⟨c1, c2⟩ := endR_inv c.1
    obtain ⟨t1, t2⟩ := digR_inv c1
    obtain ⟨o1, o2⟩ := digR_inv t1
    obtain ⟨n1, n2⟩ := numR_inv o1
    obtain ⟨p1, p2⟩ := digR_inv n1
    cases e
    simp only [headB]
    refine p2.trans ?_
    rw [n2, o2, t2, c2]
    simp
  · cases e
theorem readBlockF_inv {bs : List UInt8} {h : Hd} {l : List OpD} (e : readBlockF bs = some (h, l)) : ∃ y, bs = textB (headB h) ++ textB y ∧ readOpsF y = some l ∧ sha256 (preB 79 [y]) = h.ops := by
  unfold readBlockF at e
  simp only at e
  split at e
  · rename_i c
    split at e
    · rename_i h' l' e1 e2
      split at e
      · rename_i c2
        cases e
        obtain ⟨c1, c3⟩ := endR_inv c
        obtain ⟨y1, y2⟩ := textR_inv c1
        obtain ⟨x1, x2⟩ := textR_inv y1
        refine ⟨_, ?_, e2, c2⟩
        rw [← readHeadF_inv e1]
        refine x2.trans ?_
        rw [y2, c3]
        simp
      · cases e
    · cases e
  · cases e
end Go.Proofs.YtnnjjmiahcnbaaaGreat
/-
  DERIVED: THE SHELF's CONTRACTS AT THIS DUMP, IN PLAIN WORDS (tools/lay-plain.mjs out of 'YtnnjjmiahcnbaaaGreatGrow0.lean', which tools/lay-shelf.mjs wrote): THE SAME DECLARATIONS UNDER THE SAME NAMES: 'import', 'namespace', 'open', 'def', 'theorem' AND NOTHING ELSE: no command of the shelf's: FOR A HAND-IN. Each laying: the table of numbers ('.._ren') and one theorem, a field a fact of the dump's own or the kernel's comparison; each contract: ONE APPLICATION.
-/
namespace Go.Proofs
open Go.Shelf
def Tryz.growT_ren : Go.Shelf.Ren := ⟨fun | 4 => 76 | n => n, fun | 22 => 22 | 25 => 24 | 3 => 3 | 4 => 4 | 9 => 9 | 20 => 20 | 0 => 0 | n => n, fun | n => n⟩
theorem Tryz.growT : Go.Proofs.Lays8.n4 Tryz.prog Tryz.growT_ren := {
  mixed := by kernel_rfl
  f4 := ⟨Tryz.f76.name, by decide, Tryz.func76.trans (congrArg some (by kernel_rfl))⟩
  t0 := Tryz.underlying0
  a0 := Tryz.isAgg0
  z0 := Tryz.sizeOf0
  v0 := Tryz.zeroValue0
  t3 := Tryz.underlying3
  a3 := Tryz.isAgg3
  z3 := Tryz.sizeOf3
  v3 := Tryz.zeroValue3
  t4 := Tryz.underlying4
  a4 := Tryz.isAgg4
  z4 := Tryz.sizeOf4
  v4 := Tryz.zeroValue4
  t9 := Tryz.underlying9
  a9 := Tryz.isAgg9
  z9 := Tryz.sizeOf9
  v9 := Tryz.zeroValue9
  t20 := Tryz.underlying20
  a20 := Tryz.isAgg20
  z20 := Tryz.sizeOf20
  v20 := Tryz.zeroValue20
  t22 := Tryz.underlying22
  a22 := Tryz.isAgg22
  z22 := Tryz.sizeOf22
  v22 := Tryz.zeroValue22 }
end Go.Proofs
/-
  extract.Pair, plain: what the map of sums holds; which pair is found.
-/
set_option maxRecDepth 100000
namespace Go.Proofs.YtnnjjmiahcnbaaaGreat
open Go Go.Av
def ixs (ms : List (List UInt8)) (n : Nat) (d : List UInt8) : List Nat := (List.range n).filter fun i => decide (sha256 (ms.getD i []) = d)
theorem ixs_same {ms : List (List UInt8)} {n : Nat} : ixs ms (n + 1) (sha256 (ms.getD n [])) = ixs ms n (sha256 (ms.getD n [])) ++ [n] := by
  simp [ixs, List.range_succ, List.filter_append]
theorem ixs_ne {ms : List (List UInt8)} {n : Nat} {d : List UInt8} (h : d ≠ sha256 (ms.getD n [])) : ixs ms (n + 1) d = ixs ms n d := by
  have : ¬ sha256 (ms.getD n []) = d := fun e => h e.symm
  simp [ixs, List.range_succ, List.filter_append, -List.getD_eq_getElem?_getD, this]
theorem ixs_lt {ms : List (List UInt8)} {n : Nat} {d : List UInt8} : ∀ i ∈ ixs ms n d, i < n := by
  intro i hi; simp [ixs] at hi; exact hi.1
theorem ixs_sum {ms : List (List UInt8)} {n : Nat} {d : List UInt8} : ∀ i ∈ ixs ms n d, sha256 (ms.getD i []) = d := by
  intro i hi; simp only [ixs, List.mem_filter, decide_eq_true_eq] at hi; exact hi.2
theorem ixs_length {ms : List (List UInt8)} {n : Nat} {d : List UInt8} : (ixs ms n d).length ≤ n := by
  have := List.length_filter_le (fun i => decide (sha256 (ms.getD i []) = d)) (List.range n)
  simpa [ixs] using this
def IL (is : List Nat) : List AV := is.map fun i => .v (.int .i64 ((i : Nat) : Int))
theorem IL_app {a b : List Nat} : IL (a ++ b) = IL a ++ IL b := by simp [IL]
theorem IL_length {a : List Nat} : (IL a).length = a.length := by simp [IL]
def qAt (ms : List (List UInt8)) (t : List UInt8) : Option Nat := (ixs ms ms.length (sha256 t)).find? fun i => decide (t ≠ ms.getD i [])
def pairF (ls ms : List (List UInt8)) : Option (List UInt8 × List UInt8) := ls.findSome? fun t => (qAt ms t).map fun k => (t, ms.getD k [])
theorem pairF_clash {ls ms : List (List UInt8)} {a b : List UInt8} (h : pairF ls ms = some (a, b)) : a ≠ b ∧ sha256 a = sha256 b := by
  obtain ⟨t, _, ht⟩ := List.exists_of_findSome?_eq_some h
  cases hq : qAt ms t with
  | none => rw [hq] at ht; cases ht
  | some k =>
    rw [hq] at ht
    simp only [Option.map_some, Option.some.injEq, Prod.mk.injEq] at ht
    obtain ⟨rfl, rfl⟩ := ht
    have h1 := List.find?_some hq
    have h2 := ixs_sum _ (List.mem_of_find?_eq_some hq)
    exact ⟨by simpa using h1, h2.symm⟩
theorem pairF_none {ls ms : List (List UInt8)} (h : pairF ls ms = none) {a b : List UInt8} (ha : a ∈ ls) (hb : b ∈ ms) (hs : sha256 a = sha256 b) : a = b := by
  have h1 := List.findSome?_eq_none_iff.1 h a ha
  cases hq : qAt ms a with
  | some k => rw [hq] at h1; cases h1
  | none =>
    obtain ⟨i, hi, rfl⟩ := List.getElem_of_mem hb
    have e : ms.getD i [] = ms[i] := by simp [List.getD, hi]
    have hm : i ∈ ixs ms ms.length (sha256 a) := by
      simp only [ixs, List.mem_filter, List.mem_range, decide_eq_true_eq]
      exact ⟨hi, by rw [e, hs]⟩
    have := List.find?_eq_none.1 hq i hm
    rw [e] at this; simpa using this
theorem qAt_ref {ms : List (List UInt8)} {t : List UInt8} : qAt ms t = (List.range ms.length).find? fun i => decide (t ≠ ms.getD i []) && decide (sha256 t = sha256 (ms.getD i [])) := by
  unfold qAt ixs
  rw [List.find?_filter]
  congr 1
  funext i
  generalize ms.getD i [] = u
  by_cases h1 : sha256 u = sha256 t
  · simp [h1]
  · simp [h1, Ne.symm h1]
def PairR (o : Option (List UInt8 × List UInt8)) (r : AV) : Prop :=
  match o with
  | none => r = .tup [.sl [] .nil, .sl [] .nil, .v (.bool false)]
  | some (a, b) => ∃ oa ob, r = .tup [.sl (a.map byteAV) oa, .sl (b.map byteAV) ob, .v (.bool true)]
/-! what lies in the map -/
abbrev kRs : List (Nat × CK) := [(32, .int .u8)]
theorem fit_dg {d : List UInt8} (h : d.length = 32) : fitR kRs (d.map byteAV) := by
  refine ⟨by simp [h], fun c hc => ?_, ?_⟩
  · rw [List.take_of_length_le (by simp [h])] at hc
    obtain ⟨b, _, rfl⟩ := List.mem_map.1 hc
    rfl
  · show List.drop 32 _ = []
    exact List.drop_eq_nil_of_le (by simp [h])
structure PB (s0 s : Hp) (lM : Nat) (ms : List (List UInt8)) (n : Nat) (F : AV → Option AV) : Prop where
  sub : s0.sub s
  new : s0 lM = none
  val : ∀ d, d.length = 32 → (ixs ms n d = [] ∧ F (dg d) = none) ∨ (ixs ms n d ≠ [] ∧ ∃ g c, F (dg d) = some (.sl (IL (ixs ms n d)) (.buf g c)) ∧ s0 g = none ∧ g ≠ lM ∧ s g = some (.buf 1 (ixs ms n d).length c))
  inj : ∀ d d' x x' g c c', d.length = 32 → d'.length = 32 → F (dg d) = some (.sl x (.buf g c)) → F (dg d') = some (.sl x' (.buf g c')) → d = d'
theorem PB.mono {s0 s s' : Hp} {lM : Nat} {ms : List (List UInt8)} {n : Nat} {F : AV → Option AV} (h : PB s0 s lM ms n F) (hs : ∀ x o, x ≠ lM → s x = some o → s' x = some o) : PB s0 s' lM ms n F where
  sub := fun x o hx => by
    have hne : x ≠ lM := by rintro rfl; rw [h.new] at hx; cases hx
    exact hs x o hne (h.sub x o hx)
  new := h.new
  val := fun d hd => by
    rcases h.val d hd with q | ⟨q1, g, c, q2, q3, q4, q5⟩
    · exact .inl q
    · exact .inr ⟨q1, g, c, q2, q3, q4, hs _ _ q4 q5⟩
  inj := h.inj
theorem PB.own {s0 s : Hp} {lM : Nat} {ms : List (List UInt8)} {n : Nat} {F : AV → Option AV} (h : PB s0 s lM ms n F) (hl : ∃ o, s lM = some o) {d : List UInt8} (hd : d = sha256 (ms.getD n [])) :
    ∃ sb o, (F (dg d)).getD (.sl [] .nil) = .sl (IL (ixs ms n d)) o ∧ Owned sb s 1 (IL (ixs ms n d)) o ∧ sb lM = s lM ∧ (∀ x, x ≠ lM → s0 x ≠ none → sb x = s x) ∧
      ∀ s' o', Owned sb s' 1 (IL (ixs ms n d) ++ [.v (.int .i64 (n : Int))]) o' → PB s0 s' lM ms (n + 1) (putM F (dg d) (.sl (IL (ixs ms n d) ++ [.v (.int .i64 (n : Int))]) o')) := by
  have hdl : d.length = 32 := by rw [hd]; exact sha256_length _
  obtain ⟨oM, hM⟩ := hl
  have key : ∀ sb : Hp, sb lM = s lM → s0.sub sb → (∀ d', d'.length = 32 → d' ≠ d → ∀ x g c, F (dg d') = some (.sl x (.buf g c)) → sb g = s g) →
      ∀ s' o', Owned sb s' 1 (IL (ixs ms n d) ++ [.v (.int .i64 (n : Int))]) o' → PB s0 s' lM ms (n + 1) (putM F (dg d) (.sl (IL (ixs ms n d) ++ [.v (.int .i64 (n : Int))]) o')) := by
    intro sb e1 e2 e3 s' o' hO
    obtain ⟨o1, o2⟩ := hO
    obtain ⟨g', c', rfl, hg1, hg2⟩ : ∃ g' c', o' = .buf g' c' ∧ sb g' = none ∧ s' g' = some (.buf 1 (IL (ixs ms n d) ++ [AV.v (.int .i64 (n : Int))]).length c') := by
      cases o' with
      | buf g c => exact ⟨g, c, rfl, o2.1, o2.2⟩
      | any => exact o2.elim
      | nil => simp at o2
      | zero => simp at o2
    have hgM : g' ≠ lM := by rintro rfl; rw [e1, hM] at hg1; cases hg1
    have hil : IL (ixs ms n d) ++ [AV.v (.int .i64 (n : Int))] = IL (ixs ms (n + 1) d) := by rw [hd, ixs_same, IL_app]; rfl
    refine ⟨Hp.sub_trans e2 o1, h.new, fun d' hd' => ?_, fun d1 d2 x1 x2 g c1 c2 hl1 hl2 h1 h2 => ?_⟩
    · by_cases hdd : d' = d
      · subst hdd
        refine .inr ⟨?_, g', c', ?_, Hp.sub_none e2 hg1, hgM, ?_⟩
        · rw [hd, ixs_same]; simp
        · rw [putM_same, hil]
        · rw [hg2, hil, IL_length]
      · have hne : dg d' ≠ dg d := fun e => hdd (dg_inj e)
        rw [putM_ne hne, ixs_ne (by rw [← hd]; exact hdd)]
        rcases h.val d' hd' with q | ⟨q1, g, c, q2, q3, q4, q5⟩
        · exact .inl q
        · refine .inr ⟨q1, g, c, q2, q3, q4, o1 _ _ ?_⟩
          rw [e3 d' hd' hdd _ g c q2]; exact q5
    · have other : ∀ d' x c, d'.length = 32 → d' ≠ d → F (dg d') = some (.sl x (.buf g' c)) → False := by
        intro d' x c hl' hne hF
        rcases h.val d' hl' with q | ⟨_, g, c3, q2, _, _, q5⟩
        · rw [q.2] at hF; cases hF
        · rw [q2] at hF
          simp only [Option.some.injEq, AV.sl.injEq, Own.buf.injEq] at hF
          obtain ⟨_, rfl, _⟩ := hF
          rw [e3 d' hl' hne _ _ _ q2, q5] at hg1
          cases hg1
      by_cases a1 : d1 = d
      · by_cases a2 : d2 = d
        · rw [a1, a2]
        · subst a1
          rw [putM_same] at h1
          rw [putM_ne (fun e => a2 (dg_inj e))] at h2
          simp only [Option.some.injEq, AV.sl.injEq, Own.buf.injEq] at h1
          obtain ⟨_, rfl, _⟩ := h1
          exact (other d2 _ _ hl2 a2 h2).elim
      · rw [putM_ne (fun e => a1 (dg_inj e))] at h1
        by_cases a2 : d2 = d
        · subst a2
          rw [putM_same] at h2
          simp only [Option.some.injEq, AV.sl.injEq, Own.buf.injEq] at h2
          obtain ⟨_, rfl, _⟩ := h2
          exact (other d1 _ _ hl1 a1 h1).elim
        · rw [putM_ne (fun e => a2 (dg_inj e))] at h2
          exact h.inj d1 d2 x1 x2 g c1 c2 hl1 hl2 h1 h2
  rcases h.val d hdl with ⟨q1, q2⟩ | ⟨q1, g, c, q2, q3, q4, q5⟩
  · refine ⟨s, .nil, by rw [q2, q1]; rfl, by rw [q1]; exact Owned.nil Hp.sub_refl, rfl, fun _ _ _ => rfl, key s rfl h.sub fun _ _ _ _ _ _ _ => rfl⟩
  · refine ⟨s.del g, .buf g c, by rw [q2]; rfl, ⟨fun x o hx => ?_, Hp.del_same _ _, by rw [IL_length]; exact q5⟩, Hp.del_ne _ (Ne.symm q4), fun x _ hx => ?_, key (s.del g) (Hp.del_ne _ (Ne.symm q4)) (fun x o hx => ?_) ?_⟩
    · have hne : x ≠ g := by rintro rfl; rw [Hp.del_same] at hx; cases hx
      rw [Hp.del_ne _ hne] at hx; exact hx
    · have hne : x ≠ g := by rintro rfl; exact hx q3
      exact Hp.del_ne _ hne
    · have hne : x ≠ g := by rintro rfl; rw [q3] at hx; cases hx
      rw [Hp.del_ne _ hne]; exact h.sub x o hx
    · intro d' hd' hne x g2 c2 hF
      refine Hp.del_ne _ ?_
      rintro rfl
      exact hne (h.inj d' d x _ g2 c2 c hd' hdl hF q2)
theorem PB.zero {s0 : Hp} {lM : Nat} {ms : List (List UInt8)} {ob : Ob} (hn : s0 lM = none) : PB s0 (s0.set lM ob) lM ms 0 fun _ => none :=
  ⟨Hp.sub_new Hp.sub_refl hn, hn, fun d _ => .inl ⟨rfl, rfl⟩, fun d d' x x' g c c' _ _ h => by cases h⟩
end Go.Proofs.YtnnjjmiahcnbaaaGreat
