/- Merged by program from smaller texts; what is proved stands in the last text of the claim. -/
import Derived.Test.YtpbicmjkjihhnaaDoorME
set_option linter.all false
/-
  ref23.Lex.
-/
set_option maxRecDepth 100000
namespace Go.Proofs.YtpbicmjkjihhnaaDoor
open Go Go.Av

section
variable {P : Ctx} {f : Fr} {s : Hp} {K : Ex → Fr → Hp → Prop}
/-- what the first part leaves is all that the second part needs -/
theorem seq_cut {a b : ACode} (Q : Fr → Hp → Prop) (ha : awp P a (seqK Q K) f s) (hb : ∀ f s, Q f s → awp P b K f s) : awp P (.seq a b) K f s := by
  rw [awp_seq]
  refine awp_mono a (fun e f s h => ?_) f s ha
  cases e with
  | norm => exact hb f s h
  | exit i => exact h
  | ret => exact h
end

theorem ix {l : List UInt8} {i : Nat} {c : UInt8} {n : Int} (h : l[i]? = some c) (hn : n = (i : Int)) : idxSA (strV l) (.v (.int .i64 n)) = some (.v (.int .u8 c.toNat)) := by
  obtain ⟨hlt, rfl⟩ := List.getElem?_eq_some_iff.1 h
  subst hn
  rw [strV, idxSA_str (by omega) (by omega)]
  simp [List.getD, hlt]
theorem cells_strv {l : List UInt8} : (AV.v (.string ⟨l.toArray⟩)).cells = [strV l] := rfl
theorem lenTS {l : List UInt8} : lenTA (strV l) = some (.v (.int .i64 l.length)) := lenTA_str
theorem drop_at {l q : List UInt8} {c : UInt8} {i : Nat} (h : l.drop i = c :: q) : l[i]? = some c ∧ l.drop (i + 1) = q ∧ i < l.length := by
  have hlt : i < l.length := by
    rcases Nat.lt_or_ge i l.length with h1 | h1
    · exact h1
    · rw [List.drop_of_length_le h1] at h; cases h
  rw [List.drop_eq_getElem_cons hlt] at h
  obtain ⟨h1, h2⟩ := List.cons.inj h
  exact ⟨by rw [List.getElem?_eq_getElem hlt, h1], h2, hlt⟩
theorem u8_eq {c : UInt8} {n : Nat} {m : UInt8} (h : m.toNat = n) : ((c.toNat : Int) = (n : Int)) ↔ c = m := kind_eq h

/-- one token more -/
theorem adv {N i n : Nat} {q : List UInt8} {t : Tok} {acc : List (Tok × Nat)} (hne : q ≠ []) (hsk : skip false q = q) (ht : tokP q = .ok (t, n)) (hi : N - q.length = i) :
    appE (acc ++ [(t, i)]) (lexQ N (q.drop n)) = appE acc (lexQ N q) := by
  rw [lexQ_eq N q, hsk, if_neg hne, ht]
  simp only
  cases lexQ N (q.drop n) with
  | error e => rfl
  | ok ts => simp [appE, hi]
theorem lexQ_err {N e : Nat} {q : List UInt8} (hne : q ≠ []) (hsk : skip false q = q) (ht : tokP q = .error e) : lexQ N q = .error e := by
  rw [lexQ_eq N q, hsk, if_neg hne, ht]

def limOf (m : Bool) : Nat := if m then 9223372036854775808 else 9223372036854775807
theorem mul_u64 {n : Nat} : binV .mul (.int .u64 10) (.int .u64 (n : Int)) = some (.int .u64 ((10 * n % 18446744073709551616 : Nat) : Int)) := by
  simp only [binV, isShift, binInt, Bool.false_eq_true, if_false, if_true]
  rw [wrap_u64_mod]; congr 2
theorem add_u64 {n d : Nat} : binV .add (.int .u64 ((10 * n % 18446744073709551616 : Nat) : Int)) (.int .u64 (d : Int)) = some (.int .u64 (((10 * n + d) % 18446744073709551616 : Nat) : Int)) := by
  simp only [binV, isShift, binInt, Bool.false_eq_true, if_false, if_true]
  rw [wrap_u64_mod]; congr 2; omega
/-- one digit more, and whether it is too many -/
theorem over_step {m : Bool} {D d : Nat} (hd : d ≤ 9) (n X : Nat) (hn : n = if limOf m < D then 0 else D) (hX : X = (10 * n + d) % 18446744073709551616) :
    ((decide (limOf m < D) || decide (922337203685477580 < n)) || (decide (9223372036854775808 < X) || (!m && decide (9223372036854775807 < X)))) = decide (limOf m < D * 10 + d) ∧
    (limOf m < D * 10 + d ∨ X = D * 10 + d) := by
  unfold limOf at *
  cases m <;> simp only [Bool.false_eq_true, if_false, if_true, Bool.not_false, Bool.not_true, Bool.true_and, Bool.false_and, Bool.or_false] at * <;> (rw [Bool.eq_iff_iff]; simp only [Bool.or_eq_true, decide_eq_true_eq]; split at hn <;> omega)
theorem sign_two {c d : UInt8} {r : List UInt8} (h : c = 60 ∨ c = 62) (hd : d = 61) : signs.find? (fun p => isPre p (c :: d :: r)) = some [c, d] := by
  subst hd
  rcases h with rfl | rfl <;> simp [signs, isPre, pre, List.find?]
def one7 (c : UInt8) : Bool := decide (c = 40) || (decide (c = 41) || (decide (c = 44) || (decide (c = 42) || (decide (c = 61) || (decide (c = 60) || decide (c = 62))))))
theorem sign_one {c : UInt8} {r : List UInt8} (h1 : ¬ (c :: r).take 2 = [60, 61]) (h2 : ¬ (c :: r).take 2 = [62, 61]) : signs.find? (fun p => isPre p (c :: r)) = if one7 c then some [c] else none := by
  have e : ∀ x, isPre [x] (c :: r) = decide (c = x) := fun x => by simp [isPre, pre]
  have e1 : isPre [60, 61] (c :: r) = false := by simp only [isPre, pre]; rw [Bool.and_eq_false_iff]; right; exact decide_eq_false h1
  have e2 : isPre [62, 61] (c :: r) = false := by simp only [isPre, pre]; rw [Bool.and_eq_false_iff]; right; exact decide_eq_false h2
  simp only [signs, List.find?_cons, List.find?_nil, e, e1, e2]
  by_cases a1 : c = 40
  · subst a1; rfl
  by_cases a2 : c = 41
  · subst a2; rfl
  by_cases a3 : c = 44
  · subst a3; rfl
  by_cases a4 : c = 42
  · subst a4; rfl
  by_cases a5 : c = 61
  · subst a5; rfl
  by_cases a6 : c = 60
  · subst a6; rfl
  by_cases a7 : c = 62
  · subst a7; rfl
  simp [one7, a1, a2, a3, a4, a5, a6, a7]
theorem refLex_spec (l : List UInt8) (s : Hp) : AC Tryd.prog 11 [strV l] s fun r s' => LexPost s s' r (lexT l) := by
  refine AC_run hm prep11 (by simp) ?_
  by_cases h1000 : (1000 : Int) < (l.length : Int)
  · simp (dsimp := false) (implicitDefEqProofs := false) (maxSteps := 1000000) (disch := first | omega | assumption | (simp only [rL, Nat.reduceAdd]; done) | (simp only [rL, Nat.reduceAdd]; omega)) only [↓rD, rU, ev, ofConst, ofCell, ↓reduceIte, Nat.reduceEqDiff, Nat.reduceAdd, Nat.reduceSub, Nat.reduceMul, Nat.reduceLeDiff, Nat.reduceLT, Int.reduceNeg, Int.reduceToNat, Int.reduceAdd, Int.reduceSub, Int.reduceMul, Int.reduceLT, Int.reduceLE, Int.reduceEq, rX, List.drop_succ_cons, ↓rF, rG, ne_eq, not_true_eq_false, not_false_eq_true, Int.reduceNe, List.getElem?_cons_zero, List.getElem?_cons_succ, ↓rK, rM, lenTS, h1000]
    have e : lexT l = .error 10 := by simp only [lexT]; rw [if_pos (by omega)]
    exact ⟨_, Hp.sub_refl, by rw [e]; exact ⟨Hp.sub_refl, rfl⟩⟩
  have hl : l.length ≤ 1000 := by omega
  have e : lexT l = lexQ l.length l := by simp only [lexT, lexQ]; rw [if_neg (by omega)]
  rw [e]
  simp (dsimp := false) (implicitDefEqProofs := false) (maxSteps := 1000000) (disch := first | omega | assumption | (simp only [rL, Nat.reduceAdd]; done) | (simp only [rL, Nat.reduceAdd]; omega)) only [↓rD, rU, ev, ofConst, ofCell, ↓reduceIte, Nat.reduceEqDiff, Nat.reduceAdd, Nat.reduceSub, Nat.reduceMul, Nat.reduceLeDiff, Nat.reduceLT, Int.reduceNeg, Int.reduceToNat, Int.reduceAdd, Int.reduceSub, Int.reduceMul, Int.reduceLT, Int.reduceLE, Int.reduceEq, rX, List.drop_succ_cons, ↓rF, rG, ne_eq, not_true_eq_false, not_false_eq_true, Int.reduceNe, List.getElem?_cons_zero, List.getElem?_cons_succ, ↓rK, rM, lenTS, h1000]
  refine loop_intro (fun f s' => ∃ (i : Nat) (acc : List (Tok × Nat)) (o : Own), i ≤ l.length ∧ appE acc (lexQ l.length (l.drop i)) = lexQ l.length l ∧ acc.length ≤ i ∧
      Owned s s' 4 (TL acc) o ∧ f 0 = strV l ∧ f 4 = .sl (TL acc) o ∧ f 5 = .v (.int .i64 (i : Nat)))
    (fun f _ => match f 5 with | .v (.int _ n) => l.length - n.toNat | _ => 0) ⟨0, [], .nil, by omega, ?_, by simp, Owned.nil Hp.sub_refl, ?_⟩ ?_
  · rw [List.drop_zero]; cases lexQ l.length l <;> rfl
  · simp (dsimp := false) (implicitDefEqProofs := false) (maxSteps := 1000000) (disch := first | omega | assumption | (simp only [rL, Nat.reduceAdd]; done) | (simp only [rL, Nat.reduceAdd]; omega)) only [↓rD, rU, ev, ofConst, ofCell, ↓reduceIte, Nat.reduceEqDiff, Nat.reduceAdd, Nat.reduceSub, Nat.reduceMul, Nat.reduceLeDiff, Nat.reduceLT, Int.reduceNeg, Int.reduceToNat, Int.reduceAdd, Int.reduceSub, Int.reduceMul, Int.reduceLT, Int.reduceLE, Int.reduceEq, rX, List.drop_succ_cons, ↓rF, rG, ne_eq, not_true_eq_false, not_false_eq_true, Int.reduceNe, List.getElem?_cons_zero, List.getElem?_cons_succ, ↓rK, rM]
    rfl
  · rintro f s' ⟨i, acc, o, hi, happ, hacc, hown, f0, f4, f5⟩
    have hlenT : (TL acc).length = acc.length := by simp [TL]
    have M5 := f5
    by_cases hlt : (i : Int) < (l.length : Int)
    · have hi' : i < l.length := by omega
      obtain ⟨c, r, hq⟩ : ∃ c r, l.drop i = c :: r := ⟨_, _, List.drop_eq_getElem_cons hi'⟩
      obtain ⟨hc, hr, _⟩ := drop_at hq
      have hrl : r.length = l.length - i - 1 := by rw [← hr, List.length_drop]; omega
      have hix := ix (n := (i : Int)) hc rfl
      simp (dsimp := false) (implicitDefEqProofs := false) (maxSteps := 1000000) (disch := first | omega | assumption | (simp only [rL, Nat.reduceAdd]; done) | (simp only [rL, Nat.reduceAdd]; omega)) only [↓rD, rU, ev, ofConst, ofCell, ↓reduceIte, Nat.reduceEqDiff, Nat.reduceAdd, Nat.reduceSub, Nat.reduceMul, Nat.reduceLeDiff, Nat.reduceLT, Int.reduceNeg, Int.reduceToNat, Int.reduceAdd, Int.reduceSub, Int.reduceMul, Int.reduceLT, Int.reduceLE, Int.reduceEq, rX, List.drop_succ_cons, ↓rF, rG, ne_eq, not_true_eq_false, not_false_eq_true, Int.reduceNe, List.getElem?_cons_zero, List.getElem?_cons_succ, ↓rK, rM, lenTS, f0, f4, f5, hlt, hix]
      refine call_intro (rblank_spec _ _) ?_
      rintro _ s1 ⟨rfl, rfl⟩
      simp (dsimp := false) (implicitDefEqProofs := false) (maxSteps := 1000000) (disch := first | omega | assumption | (simp only [rL, Nat.reduceAdd]; done) | (simp only [rL, Nat.reduceAdd]; omega)) only [↓rD, rU, ev, ofConst, ofCell, ↓reduceIte, Nat.reduceEqDiff, Nat.reduceAdd, Nat.reduceSub, Nat.reduceMul, Nat.reduceLeDiff, Nat.reduceLT, Int.reduceNeg, Int.reduceToNat, Int.reduceAdd, Int.reduceSub, Int.reduceMul, Int.reduceLT, Int.reduceLE, Int.reduceEq, rX, List.drop_succ_cons, ↓rF, rG, ne_eq, not_true_eq_false, not_false_eq_true, Int.reduceNe, List.getElem?_cons_zero, List.getElem?_cons_succ, ↓rK, rM]
      refine cond_join (fun f s' => blankR c.toNat = false ∧ s' = s1 ∧ f 0 = strV l ∧ f 4 = .sl (TL acc) o ∧ f 5 = .v (.int .i64 (i : Nat))) ?_ ?_ ?_
      · intro hb
        simp (dsimp := false) (implicitDefEqProofs := false) (maxSteps := 1000000) (disch := first | omega | assumption | (simp only [rL, Nat.reduceAdd]; done) | (simp only [rL, Nat.reduceAdd]; omega)) only [↓rD, rU, ev, ofConst, ofCell, ↓reduceIte, Nat.reduceEqDiff, Nat.reduceAdd, Nat.reduceSub, Nat.reduceMul, Nat.reduceLeDiff, Nat.reduceLT, Int.reduceNeg, Int.reduceToNat, Int.reduceAdd, Int.reduceSub, Int.reduceMul, Int.reduceLT, Int.reduceLE, Int.reduceEq, rX, List.drop_succ_cons, ↓rF, rG, ne_eq, not_true_eq_false, not_false_eq_true, Int.reduceNe, List.getElem?_cons_zero, List.getElem?_cons_succ, ↓rK, rM, lenTS, f0, f4, f5]
        refine ⟨⟨i + 1, acc, o, by omega, ?_, by omega, hown, rfl, by simp⟩, by omega⟩
        rw [← happ, hr, hq, ← lexQ_skip l.length (c :: r)]
        simp only [skip, hb, if_true]
        rw [lexQ_skip]
      · intro hb
        simp (dsimp := false) (implicitDefEqProofs := false) (maxSteps := 1000000) (disch := first | omega | assumption | (simp only [rL, Nat.reduceAdd]; done) | (simp only [rL, Nat.reduceAdd]; omega)) only [↓rD, rU, ev, ofConst, ofCell, ↓reduceIte, Nat.reduceEqDiff, Nat.reduceAdd, Nat.reduceSub, Nat.reduceMul, Nat.reduceLeDiff, Nat.reduceLT, Int.reduceNeg, Int.reduceToNat, Int.reduceAdd, Int.reduceSub, Int.reduceMul, Int.reduceLT, Int.reduceLE, Int.reduceEq, rX, List.drop_succ_cons, ↓rF, rG, ne_eq, not_true_eq_false, not_false_eq_true, Int.reduceNe, List.getElem?_cons_zero, List.getElem?_cons_succ, ↓rK, rM, lenTS, f0, f4, f5]
        exact hb
      · clear f0 f4 f5
        rintro f s' ⟨hb, rfl, f0, f4, f5⟩
        -- two hyphens?
        obtain ⟨dash, hdash⟩ : ∃ b : Bool, b = decide (c = 45 ∧ r.head? = some 45) := ⟨_, rfl⟩
        rw [awp_seq]
        refine seq_cut (fun f s2 => s2 = s' ∧ f 0 = strV l ∧ f 4 = .sl (TL acc) o ∧ f 5 = .v (.int .i64 (i : Nat)) ∧ f 46 = .v (.bool dash)) ?_ ?_
        · by_cases h45 : c = 45
          · subst h45
            have h45t : (((45 : UInt8).toNat : Nat) : Int) = 45 := rfl
            cases hrr : r with
            | nil =>
              have hz : ¬ ((i : Int) + 1 < (l.length : Int)) := by rw [hrr] at hrl; simp at hrl; omega
              have : dash = false := by rw [hdash, hrr]; rfl
              subst this
              simp (dsimp := false) (implicitDefEqProofs := false) (maxSteps := 1000000) (disch := first | omega | assumption | (simp only [rL, Nat.reduceAdd]; done) | (simp only [rL, Nat.reduceAdd]; omega)) only [↓rD, rU, ev, ofConst, ofCell, ↓reduceIte, Nat.reduceEqDiff, Nat.reduceAdd, Nat.reduceSub, Nat.reduceMul, Nat.reduceLeDiff, Nat.reduceLT, Int.reduceNeg, Int.reduceToNat, Int.reduceAdd, Int.reduceSub, Int.reduceMul, Int.reduceLT, Int.reduceLE, Int.reduceEq, rX, List.drop_succ_cons, ↓rF, rG, ne_eq, not_true_eq_false, not_false_eq_true, Int.reduceNe, List.getElem?_cons_zero, List.getElem?_cons_succ, ↓rK, rM, lenTS, f0, f4, f5, hix, hz, h45t]
            | cons d r2 =>
              rw [hrr] at hr hrl
              obtain ⟨hd, _, _⟩ := drop_at hr
              have hixd := ix (n := (i : Int) + 1) hd (by omega)
              have hz : (i : Int) + 1 < (l.length : Int) := by simp at hrl; omega
              by_cases hd45 : d = 45
              · subst hd45
                have : dash = true := by rw [hdash, hrr]; rfl
                subst this
                simp (dsimp := false) (implicitDefEqProofs := false) (maxSteps := 1000000) (disch := first | omega | assumption | (simp only [rL, Nat.reduceAdd]; done) | (simp only [rL, Nat.reduceAdd]; omega)) only [↓rD, rU, ev, ofConst, ofCell, ↓reduceIte, Nat.reduceEqDiff, Nat.reduceAdd, Nat.reduceSub, Nat.reduceMul, Nat.reduceLeDiff, Nat.reduceLT, Int.reduceNeg, Int.reduceToNat, Int.reduceAdd, Int.reduceSub, Int.reduceMul, Int.reduceLT, Int.reduceLE, Int.reduceEq, rX, List.drop_succ_cons, ↓rF, rG, ne_eq, not_true_eq_false, not_false_eq_true, Int.reduceNe, List.getElem?_cons_zero, List.getElem?_cons_succ, ↓rK, rM, lenTS, f0, f4, f5, hix, hz, h45t, hixd]
              · have hdI : ¬ ((d.toNat : Nat) : Int) = 45 := fun h => hd45 ((u8_eq (m := 45) (n := 45) rfl).1 h)
                have : dash = false := by rw [hdash, hrr]; simp [hd45]
                subst this
                simp (dsimp := false) (implicitDefEqProofs := false) (maxSteps := 1000000) (disch := first | omega | assumption | (simp only [rL, Nat.reduceAdd]; done) | (simp only [rL, Nat.reduceAdd]; omega)) only [↓rD, rU, ev, ofConst, ofCell, ↓reduceIte, Nat.reduceEqDiff, Nat.reduceAdd, Nat.reduceSub, Nat.reduceMul, Nat.reduceLeDiff, Nat.reduceLT, Int.reduceNeg, Int.reduceToNat, Int.reduceAdd, Int.reduceSub, Int.reduceMul, Int.reduceLT, Int.reduceLE, Int.reduceEq, rX, List.drop_succ_cons, ↓rF, rG, ne_eq, not_true_eq_false, not_false_eq_true, Int.reduceNe, List.getElem?_cons_zero, List.getElem?_cons_succ, ↓rK, rM, lenTS, f0, f4, f5, hix, hz, h45t, hixd, hdI]
          · have hcI : ¬ ((c.toNat : Nat) : Int) = 45 := fun h => h45 ((u8_eq (m := 45) (n := 45) rfl).1 h)
            have : dash = false := by rw [hdash]; simp [h45]
            subst this
            simp (dsimp := false) (implicitDefEqProofs := false) (maxSteps := 1000000) (disch := first | omega | assumption | (simp only [rL, Nat.reduceAdd]; done) | (simp only [rL, Nat.reduceAdd]; omega)) only [↓rD, rU, ev, ofConst, ofCell, ↓reduceIte, Nat.reduceEqDiff, Nat.reduceAdd, Nat.reduceSub, Nat.reduceMul, Nat.reduceLeDiff, Nat.reduceLT, Int.reduceNeg, Int.reduceToNat, Int.reduceAdd, Int.reduceSub, Int.reduceMul, Int.reduceLT, Int.reduceLE, Int.reduceEq, rX, List.drop_succ_cons, ↓rF, rG, ne_eq, not_true_eq_false, not_false_eq_true, Int.reduceNe, List.getElem?_cons_zero, List.getElem?_cons_succ, ↓rK, rM, lenTS, f0, f4, f5, hix, hcI]
        rintro f s2 ⟨rfl, f0, f4, f5, f46⟩
        simp (dsimp := false) (implicitDefEqProofs := false) (maxSteps := 1000000) (disch := first | omega | assumption | (simp only [rL, Nat.reduceAdd]; done) | (simp only [rL, Nat.reduceAdd]; omega)) only [↓rD, rU, ev, ofConst, ofCell, ↓reduceIte, Nat.reduceEqDiff, Nat.reduceAdd, Nat.reduceSub, Nat.reduceMul, Nat.reduceLeDiff, Nat.reduceLT, Int.reduceNeg, Int.reduceToNat, Int.reduceAdd, Int.reduceSub, Int.reduceMul, Int.reduceLT, Int.reduceLE, Int.reduceEq, rX, List.drop_succ_cons, ↓rF, rG, ne_eq, not_true_eq_false, not_false_eq_true, Int.reduceNe, List.getElem?_cons_zero, List.getElem?_cons_succ, ↓rK, rM, lenTS, f0, f4, f5, f46]
        refine cond_join (fun f s' => dash = false ∧ s' = s2 ∧ f 0 = strV l ∧ f 4 = .sl (TL acc) o ∧ f 5 = .v (.int .i64 (i : Nat))) ?_ ?_ ?_
        · intro hd1
          rw [hd1] at hdash
          have hdd : c = 45 ∧ r.head? = some 45 := of_decide_eq_true hdash.symm
          have hsk0 : skip true (l.drop i) = skip false (l.drop i) := by
            rw [hq, hdd.1]
            cases r with
            | nil => simp at hdd
            | cons d r2 =>
              have : d = 45 := by simpa using hdd.2
              subst this
              simp [skip, blankR]
          simp (dsimp := false) (implicitDefEqProofs := false) (maxSteps := 1000000) (disch := first | omega | assumption | (simp only [rL, Nat.reduceAdd]; done) | (simp only [rL, Nat.reduceAdd]; omega)) only [↓rD, rU, ev, ofConst, ofCell, ↓reduceIte, Nat.reduceEqDiff, Nat.reduceAdd, Nat.reduceSub, Nat.reduceMul, Nat.reduceLeDiff, Nat.reduceLT, Int.reduceNeg, Int.reduceToNat, Int.reduceAdd, Int.reduceSub, Int.reduceMul, Int.reduceLT, Int.reduceLE, Int.reduceEq, rX, List.drop_succ_cons, ↓rF, rG, ne_eq, not_true_eq_false, not_false_eq_true, Int.reduceNe, List.getElem?_cons_zero, List.getElem?_cons_succ, ↓rK, rM, lenTS, f0, f4, f5]
          refine loop_intro (fun f s' => ∃ j : Nat, i ≤ j ∧ j ≤ l.length ∧ skip true (l.drop j) = skip false (l.drop i) ∧ s' = s2 ∧ f 0 = strV l ∧ f 4 = .sl (TL acc) o ∧ f 5 = .v (.int .i64 (j : Nat)))
            (fun f _ => match f 5 with | .v (.int _ n) => l.length - n.toNat | _ => 0) ⟨i, by omega, by omega, hsk0, rfl, ?_⟩ ?_
          · simp (dsimp := false) (implicitDefEqProofs := false) (maxSteps := 1000000) (disch := first | omega | assumption | (simp only [rL, Nat.reduceAdd]; done) | (simp only [rL, Nat.reduceAdd]; omega)) only [↓rD, rU, ev, ofConst, ofCell, ↓reduceIte, Nat.reduceEqDiff, Nat.reduceAdd, Nat.reduceSub, Nat.reduceMul, Nat.reduceLeDiff, Nat.reduceLT, Int.reduceNeg, Int.reduceToNat, Int.reduceAdd, Int.reduceSub, Int.reduceMul, Int.reduceLT, Int.reduceLE, Int.reduceEq, rX, List.drop_succ_cons, ↓rF, rG, ne_eq, not_true_eq_false, not_false_eq_true, Int.reduceNe, List.getElem?_cons_zero, List.getElem?_cons_succ, ↓rK, rM, f0, f4, f5]
          · clear f0 f4 f5 f46
            rintro f s2 ⟨j, hij, hjl, hsk, rfl, f0, f4, f5⟩
            by_cases hj : (j : Int) < (l.length : Int)
            · obtain ⟨b, r3, hq3⟩ : ∃ c r, l.drop j = c :: r := ⟨_, _, List.drop_eq_getElem_cons (by omega)⟩
              obtain ⟨hbj, hr3, _⟩ := drop_at hq3
              have hixb := ix (n := (j : Int)) hbj rfl
              by_cases hb10 : b = 10
              · subst hb10
                have h10 : (((10 : UInt8).toNat : Nat) : Int) = 10 := rfl
                simp (dsimp := false) (implicitDefEqProofs := false) (maxSteps := 1000000) (disch := first | omega | assumption | (simp only [rL, Nat.reduceAdd]; done) | (simp only [rL, Nat.reduceAdd]; omega)) only [↓rD, rU, ev, ofConst, ofCell, ↓reduceIte, Nat.reduceEqDiff, Nat.reduceAdd, Nat.reduceSub, Nat.reduceMul, Nat.reduceLeDiff, Nat.reduceLT, Int.reduceNeg, Int.reduceToNat, Int.reduceAdd, Int.reduceSub, Int.reduceMul, Int.reduceLT, Int.reduceLE, Int.reduceEq, rX, List.drop_succ_cons, ↓rF, rG, ne_eq, not_true_eq_false, not_false_eq_true, Int.reduceNe, List.getElem?_cons_zero, List.getElem?_cons_succ, ↓rK, rM, lenTS, f0, f4, f5, hj, hixb, h10, M5]
                have hne : j ≠ i := by
                  rintro rfl
                  rw [hc] at hbj
                  have : c = 10 := Option.some.inj hbj
                  rw [hdd.1] at this; cases this
                refine ⟨⟨j, acc, o, by omega, ?_, by omega, hown, rfl, rfl⟩, by omega⟩
                rw [← happ, ← lexQ_skip l.length (l.drop i), ← hsk, hq3, ← lexQ_skip l.length (10 :: r3)]
                simp [skip, blankR]
              · have h10 : ¬ ((b.toNat : Nat) : Int) = 10 := fun h => hb10 ((u8_eq (m := 10) (n := 10) rfl).1 h)
                simp (dsimp := false) (implicitDefEqProofs := false) (maxSteps := 1000000) (disch := first | omega | assumption | (simp only [rL, Nat.reduceAdd]; done) | (simp only [rL, Nat.reduceAdd]; omega)) only [↓rD, rU, ev, ofConst, ofCell, ↓reduceIte, Nat.reduceEqDiff, Nat.reduceAdd, Nat.reduceSub, Nat.reduceMul, Nat.reduceLeDiff, Nat.reduceLT, Int.reduceNeg, Int.reduceToNat, Int.reduceAdd, Int.reduceSub, Int.reduceMul, Int.reduceLT, Int.reduceLE, Int.reduceEq, rX, List.drop_succ_cons, ↓rF, rG, ne_eq, not_true_eq_false, not_false_eq_true, Int.reduceNe, List.getElem?_cons_zero, List.getElem?_cons_succ, ↓rK, rM, lenTS, f0, f4, f5, hj, hixb, h10]
                refine ⟨⟨j + 1, by omega, by omega, ?_, by simp⟩, by omega⟩
                rw [← hsk, hr3, hq3]
                simp [skip, hb10]
            · obtain rfl : j = l.length := by omega
              simp (dsimp := false) (implicitDefEqProofs := false) (maxSteps := 1000000) (disch := first | omega | assumption | (simp only [rL, Nat.reduceAdd]; done) | (simp only [rL, Nat.reduceAdd]; omega)) only [↓rD, rU, ev, ofConst, ofCell, ↓reduceIte, Nat.reduceEqDiff, Nat.reduceAdd, Nat.reduceSub, Nat.reduceMul, Nat.reduceLeDiff, Nat.reduceLT, Int.reduceNeg, Int.reduceToNat, Int.reduceAdd, Int.reduceSub, Int.reduceMul, Int.reduceLT, Int.reduceLE, Int.reduceEq, rX, List.drop_succ_cons, ↓rF, rG, ne_eq, not_true_eq_false, not_false_eq_true, Int.reduceNe, List.getElem?_cons_zero, List.getElem?_cons_succ, ↓rK, rM, lenTS, f0, f4, f5, hj, M5]
              refine ⟨⟨l.length, acc, o, by omega, ?_, by omega, hown, rfl, rfl⟩, by omega⟩
              rw [List.drop_length] at hsk ⊢
              rw [← happ, ← lexQ_skip l.length (l.drop i), ← hsk]
              rfl
        · intro hd0
          simp (dsimp := false) (implicitDefEqProofs := false) (maxSteps := 1000000) (disch := first | omega | assumption | (simp only [rL, Nat.reduceAdd]; done) | (simp only [rL, Nat.reduceAdd]; omega)) only [↓rD, rU, ev, ofConst, ofCell, ↓reduceIte, Nat.reduceEqDiff, Nat.reduceAdd, Nat.reduceSub, Nat.reduceMul, Nat.reduceLeDiff, Nat.reduceLT, Int.reduceNeg, Int.reduceToNat, Int.reduceAdd, Int.reduceSub, Int.reduceMul, Int.reduceLT, Int.reduceLE, Int.reduceEq, rX, List.drop_succ_cons, ↓rF, rG, ne_eq, not_true_eq_false, not_false_eq_true, Int.reduceNe, List.getElem?_cons_zero, List.getElem?_cons_succ, ↓rK, rM, lenTS, f0, f4, f5]
          exact hd0
        clear f0 f4 f5 f46
        rintro f s3 ⟨hd0, rfl, f0, f4, f5⟩
        have hnd : ¬ (c = 45 ∧ r.head? = some 45) := by rw [hd0] at hdash; exact of_decide_eq_false hdash.symm
        have hne : l.drop i ≠ [] := by rw [hq]; simp
        have hsk : skip false (l.drop i) = l.drop i := by rw [hq]; simp only [skip, hb]; rw [if_neg (by simp), if_neg hnd]
        have hNi : l.length - (l.drop i).length = i := by rw [List.length_drop]; omega
        simp (dsimp := false) (implicitDefEqProofs := false) (maxSteps := 1000000) (disch := first | omega | assumption | (simp only [rL, Nat.reduceAdd]; done) | (simp only [rL, Nat.reduceAdd]; omega)) only [↓rD, rU, ev, ofConst, ofCell, ↓reduceIte, Nat.reduceEqDiff, Nat.reduceAdd, Nat.reduceSub, Nat.reduceMul, Nat.reduceLeDiff, Nat.reduceLT, Int.reduceNeg, Int.reduceToNat, Int.reduceAdd, Int.reduceSub, Int.reduceMul, Int.reduceLT, Int.reduceLE, Int.reduceEq, rX, List.drop_succ_cons, ↓rF, rG, ne_eq, not_true_eq_false, not_false_eq_true, Int.reduceNe, List.getElem?_cons_zero, List.getElem?_cons_succ, ↓rK, rM, lenTS, f0, f4, f5, hix]
        refine call_intro (rletter_spec _ _) ?_
        rintro _ s1 ⟨rfl, rfl⟩
        simp (dsimp := false) (implicitDefEqProofs := false) (maxSteps := 1000000) (disch := first | omega | assumption | (simp only [rL, Nat.reduceAdd]; done) | (simp only [rL, Nat.reduceAdd]; omega)) only [↓rD, rU, ev, ofConst, ofCell, ↓reduceIte, Nat.reduceEqDiff, Nat.reduceAdd, Nat.reduceSub, Nat.reduceMul, Nat.reduceLeDiff, Nat.reduceLT, Int.reduceNeg, Int.reduceToNat, Int.reduceAdd, Int.reduceSub, Int.reduceMul, Int.reduceLT, Int.reduceLE, Int.reduceEq, rX, List.drop_succ_cons, ↓rF, rG, ne_eq, not_true_eq_false, not_false_eq_true, Int.reduceNe, List.getElem?_cons_zero, List.getElem?_cons_succ, ↓rK, rM]
        refine cond_join (fun f s' => letterR c.toNat = false ∧ s' = s1 ∧ f 0 = strV l ∧ f 4 = .sl (TL acc) o ∧ f 5 = .v (.int .i64 (i : Nat)) ∧ f 6 = .v (.int .i64 (i : Nat))) ?_ ?_ ?_
        · intro hL
          have hcl : c ≠ 45 := (let_plain hL).2
          obtain ⟨txt, htxt⟩ : ∃ t, t = (tw wordR (l.drop i)).map Lib.lowerB := ⟨_, rfl⟩
          have htl : txt.length = (tw wordR (l.drop i)).length := by rw [htxt, List.length_map]
          have htle := tw_le wordR (l.drop i)
          have hdl : (l.drop i).length = l.length - i := List.length_drop
          refine seq_cut (fun f s' => s' = s1 ∧ f 0 = strV l ∧ f 4 = .sl (TL acc) o ∧ f 5 = .v (.int .i64 (i : Nat)) ∧ f 6 = .v (.int .i64 (i : Nat)) ∧ f 7 = .sl [] .nil) ?_ ?_
          · simp (dsimp := false) (implicitDefEqProofs := false) (maxSteps := 1000000) (disch := first | omega | assumption | (simp only [rL, Nat.reduceAdd]; done) | (simp only [rL, Nat.reduceAdd]; omega)) only [↓rD, rU, ev, ofConst, ofCell, ↓reduceIte, Nat.reduceEqDiff, Nat.reduceAdd, Nat.reduceSub, Nat.reduceMul, Nat.reduceLeDiff, Nat.reduceLT, Int.reduceNeg, Int.reduceToNat, Int.reduceAdd, Int.reduceSub, Int.reduceMul, Int.reduceLT, Int.reduceLE, Int.reduceEq, rX, List.drop_succ_cons, ↓rF, rG, ne_eq, not_true_eq_false, not_false_eq_true, Int.reduceNe, List.getElem?_cons_zero, List.getElem?_cons_succ, ↓rK, rM, f0, f4, f5]
          clear f0 f4 f5
          rintro f s2 ⟨rfl, f0, f4, f5, f6, f7⟩
          refine seq_cut (fun f s' => ∃ o7, Owned s2 s' 1 (txt.map byteAV) o7 ∧ f 0 = strV l ∧ f 4 = .sl (TL acc) o ∧ f 5 = .v (.int .i64 ((i + txt.length : Nat) : Int)) ∧ f 6 = .v (.int .i64 (i : Nat)) ∧ f 7 = .sl (txt.map byteAV) o7) ?_ ?_
          · simp (dsimp := false) (implicitDefEqProofs := false) (maxSteps := 1000000) (disch := first | omega | assumption | (simp only [rL, Nat.reduceAdd]; done) | (simp only [rL, Nat.reduceAdd]; omega)) only [↓rD, rU, ev, ofConst, ofCell, ↓reduceIte, Nat.reduceEqDiff, Nat.reduceAdd, Nat.reduceSub, Nat.reduceMul, Nat.reduceLeDiff, Nat.reduceLT, Int.reduceNeg, Int.reduceToNat, Int.reduceAdd, Int.reduceSub, Int.reduceMul, Int.reduceLT, Int.reduceLE, Int.reduceEq, rX, List.drop_succ_cons, ↓rF, rG, ne_eq, not_true_eq_false, not_false_eq_true, Int.reduceNe, List.getElem?_cons_zero, List.getElem?_cons_succ, ↓rK, rM, f0, f4, f5, f6, f7]
            refine loop_intro (fun f s' => ∃ (j : Nat) (o7 : Own), i ≤ j ∧ j ≤ l.length ∧ (∀ b ∈ (l.drop i).take (j - i), wordR b.toNat = true) ∧ Owned s2 s' 1 ((((l.drop i).take (j - i)).map Lib.lowerB).map byteAV) o7 ∧
                f 0 = strV l ∧ f 4 = .sl (TL acc) o ∧ f 5 = .v (.int .i64 (j : Nat)) ∧ f 6 = .v (.int .i64 (i : Nat)) ∧ f 7 = .sl ((((l.drop i).take (j - i)).map Lib.lowerB).map byteAV) o7)
              (fun f _ => match f 5 with | .v (.int _ n) => l.length - n.toNat | _ => 0) ⟨i, .nil, by omega, by omega, by simp, ?_⟩ ?_
            · simp only [Nat.sub_self, List.take_zero, List.map_nil]
              exact ⟨Owned.nil Hp.sub_refl, f0, f4, f5, f6, f7⟩
            · clear f0 f4 f5 f6 f7
              rintro f s3 ⟨j, o7, hij, hjl, hall, hown7, f0, f4, f5, f6, f7⟩
              have fin : nxt wordR (l.drop j) = false → (l.drop i).take (j - i) = tw wordR (l.drop i) := fun h => by
                have e1 : l.drop i = (l.drop i).take (j - i) ++ l.drop j := by
                  have : l.drop j = (l.drop i).drop (j - i) := by rw [List.drop_drop]; congr 1; omega
                  rw [this, List.take_append_drop]
                conv => rhs; rw [e1]
                rw [tw_app hall h]
              have fin2 : nxt wordR (l.drop j) = false → ((l.drop i).take (j - i)).map Lib.lowerB = txt ∧ j = i + txt.length := fun h => by
                have h1 := fin h
                refine ⟨by rw [htxt, h1], ?_⟩
                rw [htl, ← h1, List.length_take, hdl]; omega
              by_cases hj : (j : Int) < (l.length : Int)
              · obtain ⟨b, r3, hq3⟩ : ∃ c r, l.drop j = c :: r := ⟨_, _, List.drop_eq_getElem_cons (by omega)⟩
                obtain ⟨hbj, hr3, _⟩ := drop_at hq3
                have hixb := ix (n := (j : Int)) hbj rfl
                simp (dsimp := false) (implicitDefEqProofs := false) (maxSteps := 1000000) (disch := first | omega | assumption | (simp only [rL, Nat.reduceAdd]; done) | (simp only [rL, Nat.reduceAdd]; omega)) only [↓rD, rU, ev, ofConst, ofCell, ↓reduceIte, Nat.reduceEqDiff, Nat.reduceAdd, Nat.reduceSub, Nat.reduceMul, Nat.reduceLeDiff, Nat.reduceLT, Int.reduceNeg, Int.reduceToNat, Int.reduceAdd, Int.reduceSub, Int.reduceMul, Int.reduceLT, Int.reduceLE, Int.reduceEq, rX, List.drop_succ_cons, ↓rF, rG, ne_eq, not_true_eq_false, not_false_eq_true, Int.reduceNe, List.getElem?_cons_zero, List.getElem?_cons_succ, ↓rK, rM, lenTS, f0, f4, f5, f6, f7, hj, hixb]
                refine call_intro (rword_spec _ _) ?_
                rintro _ s3 ⟨rfl, rfl⟩
                simp (dsimp := false) (implicitDefEqProofs := false) (maxSteps := 1000000) (disch := first | omega | assumption | (simp only [rL, Nat.reduceAdd]; done) | (simp only [rL, Nat.reduceAdd]; omega)) only [↓rD, rU, ev, ofConst, ofCell, ↓reduceIte, Nat.reduceEqDiff, Nat.reduceAdd, Nat.reduceSub, Nat.reduceMul, Nat.reduceLeDiff, Nat.reduceLT, Int.reduceNeg, Int.reduceToNat, Int.reduceAdd, Int.reduceSub, Int.reduceMul, Int.reduceLT, Int.reduceLE, Int.reduceEq, rX, List.drop_succ_cons, ↓rF, rG, ne_eq, not_true_eq_false, not_false_eq_true, Int.reduceNe, List.getElem?_cons_zero, List.getElem?_cons_succ, ↓rK, rM]
                refine cond_join (fun f s' => wordR b.toNat = true ∧ s' = s3 ∧ f 0 = strV l ∧ f 4 = .sl (TL acc) o ∧ f 5 = .v (.int .i64 (j : Nat)) ∧ f 6 = .v (.int .i64 (i : Nat)) ∧ f 7 = .sl ((((l.drop i).take (j - i)).map Lib.lowerB).map byteAV) o7) ?_ ?_ ?_
                · intro hw
                  simp (dsimp := false) (implicitDefEqProofs := false) (maxSteps := 1000000) (disch := first | omega | assumption | (simp only [rL, Nat.reduceAdd]; done) | (simp only [rL, Nat.reduceAdd]; omega)) only [↓rD, rU, ev, ofConst, ofCell, ↓reduceIte, Nat.reduceEqDiff, Nat.reduceAdd, Nat.reduceSub, Nat.reduceMul, Nat.reduceLeDiff, Nat.reduceLT, Int.reduceNeg, Int.reduceToNat, Int.reduceAdd, Int.reduceSub, Int.reduceMul, Int.reduceLT, Int.reduceLE, Int.reduceEq, rX, List.drop_succ_cons, ↓rF, rG, ne_eq, not_true_eq_false, not_false_eq_true, Int.reduceNe, List.getElem?_cons_zero, List.getElem?_cons_succ, ↓rK, rM, f0, f4, f5, f6, f7]
                  exact hw
                · intro hw
                  obtain ⟨g1, g2⟩ := fin2 (by rw [hq3]; exact hw)
                  simp (dsimp := false) (implicitDefEqProofs := false) (maxSteps := 1000000) (disch := first | omega | assumption | (simp only [rL, Nat.reduceAdd]; done) | (simp only [rL, Nat.reduceAdd]; omega)) only [↓rD, rU, ev, ofConst, ofCell, ↓reduceIte, Nat.reduceEqDiff, Nat.reduceAdd, Nat.reduceSub, Nat.reduceMul, Nat.reduceLeDiff, Nat.reduceLT, Int.reduceNeg, Int.reduceToNat, Int.reduceAdd, Int.reduceSub, Int.reduceMul, Int.reduceLT, Int.reduceLE, Int.reduceEq, rX, List.drop_succ_cons, ↓rF, rG, ne_eq, not_true_eq_false, not_false_eq_true, Int.reduceNe, List.getElem?_cons_zero, List.getElem?_cons_succ, ↓rK, rM, f0, f4, f5, f6, f7]
                  rw [g1] at hown7 ⊢
                  exact ⟨o7, hown7, by rw [g2], rfl⟩
                · have N5 := f5
                  clear f0 f4 f5 f6 f7
                  rintro f s4 ⟨hw, rfl, f0, f4, f5, f6, f7⟩
                  rw [awp_block]
                  refine seq_cut (fun f s' => s' = s4 ∧ f 0 = strV l ∧ f 4 = .sl (TL acc) o ∧ f 5 = .v (.int .i64 (j : Nat)) ∧ f 6 = .v (.int .i64 (i : Nat)) ∧ f 7 = .sl ((((l.drop i).take (j - i)).map Lib.lowerB).map byteAV) o7 ∧ f 8 = .v (.int .u8 b.toNat)) ?_ ?_
                  · simp (dsimp := false) (implicitDefEqProofs := false) (maxSteps := 1000000) (disch := first | omega | assumption | (simp only [rL, Nat.reduceAdd]; done) | (simp only [rL, Nat.reduceAdd]; omega)) only [↓rD, rU, ev, ofConst, ofCell, ↓reduceIte, Nat.reduceEqDiff, Nat.reduceAdd, Nat.reduceSub, Nat.reduceMul, Nat.reduceLeDiff, Nat.reduceLT, Int.reduceNeg, Int.reduceToNat, Int.reduceAdd, Int.reduceSub, Int.reduceMul, Int.reduceLT, Int.reduceLE, Int.reduceEq, rX, List.drop_succ_cons, ↓rF, rG, ne_eq, not_true_eq_false, not_false_eq_true, Int.reduceNe, List.getElem?_cons_zero, List.getElem?_cons_succ, ↓rK, rM, f0, f4, f5, f6, f7, hixb]
                  clear f0 f4 f5 f6 f7
                  rintro f s4 ⟨rfl, f0, f4, f5, f6, f7, f8⟩
                  refine seq_cut (fun f s' => s' = s4 ∧ f 0 = strV l ∧ f 4 = .sl (TL acc) o ∧ f 5 = .v (.int .i64 (j : Nat)) ∧ f 6 = .v (.int .i64 (i : Nat)) ∧ f 7 = .sl ((((l.drop i).take (j - i)).map Lib.lowerB).map byteAV) o7 ∧ f 8 = .v (.int .u8 (Lib.lowerB b).toNat)) ?_ ?_
                  · by_cases h65 : (65 : Int) ≤ (b.toNat : Int)
                    · by_cases h90 : (b.toNat : Int) ≤ 90
                      · have w : IntKind.u8.wrap ((b.toNat : Int) + 32) = ((Lib.lowerB b).toNat : Int) := by
                          have h1 : 65 ≤ b ∧ b ≤ 90 := by
                            constructor
                            · rw [UInt8.le_iff_toNat_le]; show 65 ≤ b.toNat; omega
                            · rw [UInt8.le_iff_toNat_le]; show b.toNat ≤ 90; omega
                          rw [wrap_u8 (by omega) (by omega), Lib.lowerB, if_pos (by simp [Lib.isUpperB, h1]), UInt8.toNat_add]
                          show (b.toNat : Int) + 32 = ((b.toNat + 32) % 256 : Nat)
                          omega
                        have gw : binV .add (.int .u8 (b.toNat : Int)) (.int .u8 32) = some (.int .u8 (Lib.lowerB b).toNat) := by
                          simp only [binV, isShift, binInt, Bool.false_eq_true, if_false, if_true, w]
                        simp (dsimp := false) (implicitDefEqProofs := false) (maxSteps := 1000000) (disch := first | omega | assumption | (simp only [rL, Nat.reduceAdd]; done) | (simp only [rL, Nat.reduceAdd]; omega)) only [↓rD, rU, ev, ofConst, ofCell, ↓reduceIte, Nat.reduceEqDiff, Nat.reduceAdd, Nat.reduceSub, Nat.reduceMul, Nat.reduceLeDiff, Nat.reduceLT, Int.reduceNeg, Int.reduceToNat, Int.reduceAdd, Int.reduceSub, Int.reduceMul, Int.reduceLT, Int.reduceLE, Int.reduceEq, rX, List.drop_succ_cons, ↓rF, rG, ne_eq, not_true_eq_false, not_false_eq_true, Int.reduceNe, List.getElem?_cons_zero, List.getElem?_cons_succ, ↓rK, rM, f0, f4, f5, f6, f7, f8, h65, h90, gw]
                      · have w : Lib.lowerB b = b := by
                          rw [Lib.lowerB, if_neg]
                          intro h
                          simp only [Lib.isUpperB, Bool.and_eq_true, decide_eq_true_eq, UInt8.le_iff_toNat_le] at h
                          have := h.2
                          change b.toNat ≤ 90 at this
                          omega
                        simp (dsimp := false) (implicitDefEqProofs := false) (maxSteps := 1000000) (disch := first | omega | assumption | (simp only [rL, Nat.reduceAdd]; done) | (simp only [rL, Nat.reduceAdd]; omega)) only [↓rD, rU, ev, ofConst, ofCell, ↓reduceIte, Nat.reduceEqDiff, Nat.reduceAdd, Nat.reduceSub, Nat.reduceMul, Nat.reduceLeDiff, Nat.reduceLT, Int.reduceNeg, Int.reduceToNat, Int.reduceAdd, Int.reduceSub, Int.reduceMul, Int.reduceLT, Int.reduceLE, Int.reduceEq, rX, List.drop_succ_cons, ↓rF, rG, ne_eq, not_true_eq_false, not_false_eq_true, Int.reduceNe, List.getElem?_cons_zero, List.getElem?_cons_succ, ↓rK, rM, f0, f4, f5, f6, f7, f8, h65, h90, w]
                    · have w : Lib.lowerB b = b := by
                        rw [Lib.lowerB, if_neg]
                        intro h
                        simp only [Lib.isUpperB, Bool.and_eq_true, decide_eq_true_eq, UInt8.le_iff_toNat_le] at h
                        have := h.1
                        change 65 ≤ b.toNat at this
                        omega
                      simp (dsimp := false) (implicitDefEqProofs := false) (maxSteps := 1000000) (disch := first | omega | assumption | (simp only [rL, Nat.reduceAdd]; done) | (simp only [rL, Nat.reduceAdd]; omega)) only [↓rD, rU, ev, ofConst, ofCell, ↓reduceIte, Nat.reduceEqDiff, Nat.reduceAdd, Nat.reduceSub, Nat.reduceMul, Nat.reduceLeDiff, Nat.reduceLT, Int.reduceNeg, Int.reduceToNat, Int.reduceAdd, Int.reduceSub, Int.reduceMul, Int.reduceLT, Int.reduceLE, Int.reduceEq, rX, List.drop_succ_cons, ↓rF, rG, ne_eq, not_true_eq_false, not_false_eq_true, Int.reduceNe, List.getElem?_cons_zero, List.getElem?_cons_succ, ↓rK, rM, f0, f4, f5, f6, f7, f8, h65, w]
                  clear f0 f4 f5 f6 f7 f8
                  rintro f s4 ⟨rfl, f0, f4, f5, f6, f7, f8⟩
                  have htake : (l.drop i).take (j + 1 - i) = (l.drop i).take (j - i) ++ [b] := by
                    have e1 : (l.drop i)[j - i]? = some b := by rw [List.getElem?_drop, ← hbj]; congr 1; omega
                    rw [show j + 1 - i = (j - i) + 1 by omega, List.take_succ, e1]; rfl
                  simp (dsimp := false) (implicitDefEqProofs := false) (maxSteps := 1000000) (disch := first | omega | assumption | (simp only [rL, Nat.reduceAdd]; done) | (simp only [rL, Nat.reduceAdd]; omega)) only [↓rD, rU, ev, ofConst, ofCell, ↓reduceIte, Nat.reduceEqDiff, Nat.reduceAdd, Nat.reduceSub, Nat.reduceMul, Nat.reduceLeDiff, Nat.reduceLT, Int.reduceNeg, Int.reduceToNat, Int.reduceAdd, Int.reduceSub, Int.reduceMul, Int.reduceLT, Int.reduceLE, Int.reduceEq, rX, List.drop_succ_cons, ↓rF, rG, ne_eq, not_true_eq_false, not_false_eq_true, Int.reduceNe, List.getElem?_cons_zero, List.getElem?_cons_succ, ↓rK, rM, f0, f4, f5, f6, f7, f8]
                  refine bsl_byte Hp.sub_refl fun o8 s5 h5 => ?_
                  simp (dsimp := false) (implicitDefEqProofs := false) (maxSteps := 1000000) (disch := first | omega | assumption | (simp only [rL, Nat.reduceAdd]; done) | (simp only [rL, Nat.reduceAdd]; omega)) only [↓rD, rU, ev, ofConst, ofCell, ↓reduceIte, Nat.reduceEqDiff, Nat.reduceAdd, Nat.reduceSub, Nat.reduceMul, Nat.reduceLeDiff, Nat.reduceLT, Int.reduceNeg, Int.reduceToNat, Int.reduceAdd, Int.reduceSub, Int.reduceMul, Int.reduceLT, Int.reduceLE, Int.reduceEq, rX, List.drop_succ_cons, ↓rF, rG, ne_eq, not_true_eq_false, not_false_eq_true, Int.reduceNe, List.getElem?_cons_zero, List.getElem?_cons_succ, ↓rK, rM, f0, f4, f5, f6, f7, f8]
                  have hb1 : [byteAV (Lib.lowerB b)] = [Lib.lowerB b].map byteAV := rfl
                  rw [hb1]
                  refine app_bytes (hown7.mono h5.sub) (by simp; omega) fun o9 s6 h6 => ?_
                  have eacc : ((l.drop i).take (j - i)).map Lib.lowerB ++ [Lib.lowerB b] = ((l.drop i).take (j + 1 - i)).map Lib.lowerB := by rw [htake]; simp
                  rw [eacc] at h6 ⊢
                  simp (dsimp := false) (implicitDefEqProofs := false) (maxSteps := 1000000) (disch := first | omega | assumption | (simp only [rL, Nat.reduceAdd]; done) | (simp only [rL, Nat.reduceAdd]; omega)) only [↓rD, rU, ev, ofConst, ofCell, ↓reduceIte, Nat.reduceEqDiff, Nat.reduceAdd, Nat.reduceSub, Nat.reduceMul, Nat.reduceLeDiff, Nat.reduceLT, Int.reduceNeg, Int.reduceToNat, Int.reduceAdd, Int.reduceSub, Int.reduceMul, Int.reduceLT, Int.reduceLE, Int.reduceEq, rX, List.drop_succ_cons, ↓rF, rG, ne_eq, not_true_eq_false, not_false_eq_true, Int.reduceNe, List.getElem?_cons_zero, List.getElem?_cons_succ, ↓rK, rM, f0, f4, f5, f6, N5]
                  refine ⟨⟨j + 1, o9, by omega, by omega, ?_, h6, by simp⟩, by omega⟩
                  intro x hx
                  rw [htake] at hx
                  rcases List.mem_append.1 hx with hx | hx
                  · exact hall x hx
                  · simp at hx; subst hx; exact hw
              · obtain rfl : j = l.length := by omega
                obtain ⟨g1, g2⟩ := fin2 (by rw [List.drop_length]; rfl)
                simp (dsimp := false) (implicitDefEqProofs := false) (maxSteps := 1000000) (disch := first | omega | assumption | (simp only [rL, Nat.reduceAdd]; done) | (simp only [rL, Nat.reduceAdd]; omega)) only [↓rD, rU, ev, ofConst, ofCell, ↓reduceIte, Nat.reduceEqDiff, Nat.reduceAdd, Nat.reduceSub, Nat.reduceMul, Nat.reduceLeDiff, Nat.reduceLT, Int.reduceNeg, Int.reduceToNat, Int.reduceAdd, Int.reduceSub, Int.reduceMul, Int.reduceLT, Int.reduceLE, Int.reduceEq, rX, List.drop_succ_cons, ↓rF, rG, ne_eq, not_true_eq_false, not_false_eq_true, Int.reduceNe, List.getElem?_cons_zero, List.getElem?_cons_succ, ↓rK, rM, lenTS, f0, f4, f5, f6, f7, hj]
                rw [g1] at hown7 ⊢
                exact ⟨o7, hown7, by rw [← g2], rfl⟩
          · clear f0 f4 f5 f6 f7
            rintro f s3 ⟨o7, hown7, f0, f4, f5, f6, f7⟩
            simp (dsimp := false) (implicitDefEqProofs := false) (maxSteps := 1000000) (disch := first | omega | assumption | (simp only [rL, Nat.reduceAdd]; done) | (simp only [rL, Nat.reduceAdd]; omega)) only [↓rD, rU, ev, ofConst, ofCell, ↓reduceIte, Nat.reduceEqDiff, Nat.reduceAdd, Nat.reduceSub, Nat.reduceMul, Nat.reduceLeDiff, Nat.reduceLT, Int.reduceNeg, Int.reduceToNat, Int.reduceAdd, Int.reduceSub, Int.reduceMul, Int.reduceLT, Int.reduceLE, Int.reduceEq, rX, List.drop_succ_cons, ↓rF, rG, ne_eq, not_true_eq_false, not_false_eq_true, Int.reduceNe, List.getElem?_cons_zero, List.getElem?_cons_succ, ↓rK, rM, f0, f4, f5, f6, f7, rTok, cells_strv, M5]
            refine bsl_own Hp.sub_refl ?_ fun o1 s4 h4 => ?_
            · intro e he; simp at he; subst he; rfl
            simp (dsimp := false) (implicitDefEqProofs := false) (maxSteps := 1000000) (disch := first | omega | assumption | (simp only [rL, Nat.reduceAdd]; done) | (simp only [rL, Nat.reduceAdd]; omega)) only [↓rD, rU, ev, ofConst, ofCell, ↓reduceIte, Nat.reduceEqDiff, Nat.reduceAdd, Nat.reduceSub, Nat.reduceMul, Nat.reduceLeDiff, Nat.reduceLT, Int.reduceNeg, Int.reduceToNat, Int.reduceAdd, Int.reduceSub, Int.reduceMul, Int.reduceLT, Int.reduceLE, Int.reduceEq, rX, List.drop_succ_cons, ↓rF, rG, ne_eq, not_true_eq_false, not_false_eq_true, Int.reduceNe, List.getElem?_cons_zero, List.getElem?_cons_succ, ↓rK, rM, f0, f4, f5, f6, f7]
            refine app_own (hown.mono (Hp.sub_trans hown7.sub h4.sub)) TL_len ?_ (by simp [hlenT]; omega) (by simp [hlenT]; omega) fun o4 s5 h5 => ?_
            · intro e he; simp at he; subst he; rfl
            have eacc : TL acc ++ [(⟨1, txt, zTok.num⟩ : Tok).V i] = TL (acc ++ [(⟨1, txt, 0⟩, i)]) := by simp [TL, zTok]
            rw [eacc] at h5 ⊢
            simp (dsimp := false) (implicitDefEqProofs := false) (maxSteps := 1000000) (disch := first | omega | assumption | (simp only [rL, Nat.reduceAdd]; done) | (simp only [rL, Nat.reduceAdd]; omega)) only [↓rD, rU, ev, ofConst, ofCell, ↓reduceIte, Nat.reduceEqDiff, Nat.reduceAdd, Nat.reduceSub, Nat.reduceMul, Nat.reduceLeDiff, Nat.reduceLT, Int.reduceNeg, Int.reduceToNat, Int.reduceAdd, Int.reduceSub, Int.reduceMul, Int.reduceLT, Int.reduceLE, Int.reduceEq, rX, List.drop_succ_cons, ↓rF, rG, ne_eq, not_true_eq_false, not_false_eq_true, Int.reduceNe, List.getElem?_cons_zero, List.getElem?_cons_succ, ↓rK, rM, f0, f4, f5, M5]
            have ht : tokP (l.drop i) = .ok (⟨1, txt, 0⟩, txt.length) := by
              rw [htl, tokP, if_pos (by rw [hq]; exact hL), htxt]
            have hpos : 1 ≤ txt.length := (tokP_n hne ht).1
            refine ⟨⟨i + txt.length, acc ++ [(⟨1, txt, 0⟩, i)], o4, by omega, ?_, by simp; omega, h5, rfl, rfl⟩, by omega⟩
            rw [← List.drop_drop, adv hne hsk ht hNi, happ]
        · intro hL
          simp (dsimp := false) (implicitDefEqProofs := false) (maxSteps := 1000000) (disch := first | omega | assumption | (simp only [rL, Nat.reduceAdd]; done) | (simp only [rL, Nat.reduceAdd]; omega)) only [↓rD, rU, ev, ofConst, ofCell, ↓reduceIte, Nat.reduceEqDiff, Nat.reduceAdd, Nat.reduceSub, Nat.reduceMul, Nat.reduceLeDiff, Nat.reduceLT, Int.reduceNeg, Int.reduceToNat, Int.reduceAdd, Int.reduceSub, Int.reduceMul, Int.reduceLT, Int.reduceLE, Int.reduceEq, rX, List.drop_succ_cons, ↓rF, rG, ne_eq, not_true_eq_false, not_false_eq_true, Int.reduceNe, List.getElem?_cons_zero, List.getElem?_cons_succ, ↓rK, rM, f0, f4, f5]
          exact hL
        clear f0 f4 f5
        rintro f s2 ⟨hL, rfl, f0, f4, f5, f6⟩
        obtain ⟨isnum, hisnum⟩ : ∃ b, b = (nxt digitR (l.drop i) || (decide ((l.drop i).head? = some 45) && nxt digitR ((l.drop i).drop 1))) := ⟨_, rfl⟩
        have hnD : nxt digitR (l.drop i) = digitR c.toNat := by rw [hq]; rfl
        have hh : (l.drop i).head? = some c := by rw [hq]; rfl
        have hd1 : (l.drop i).drop 1 = r := by rw [hq]; rfl
        rw [hnD, hh, hd1] at hisnum
        rw [awp_seq]
        refine seq_cut (fun f s' => s' = s2 ∧ f 0 = strV l ∧ f 4 = .sl (TL acc) o ∧ f 5 = .v (.int .i64 (i : Nat)) ∧ f 6 = .v (.int .i64 (i : Nat)) ∧ f 121 = .v (.bool isnum)) ?_ ?_
        · simp (dsimp := false) (implicitDefEqProofs := false) (maxSteps := 1000000) (disch := first | omega | assumption | (simp only [rL, Nat.reduceAdd]; done) | (simp only [rL, Nat.reduceAdd]; omega)) only [↓rD, rU, ev, ofConst, ofCell, ↓reduceIte, Nat.reduceEqDiff, Nat.reduceAdd, Nat.reduceSub, Nat.reduceMul, Nat.reduceLeDiff, Nat.reduceLT, Int.reduceNeg, Int.reduceToNat, Int.reduceAdd, Int.reduceSub, Int.reduceMul, Int.reduceLT, Int.reduceLE, Int.reduceEq, rX, List.drop_succ_cons, ↓rF, rG, ne_eq, not_true_eq_false, not_false_eq_true, Int.reduceNe, List.getElem?_cons_zero, List.getElem?_cons_succ, ↓rK, rM, f0, f4, f5, f6, hix]
          refine call_intro (rdigit_spec _ _) ?_
          rintro _ s3 ⟨rfl, rfl⟩
          cases hD : digitR c.toNat with
          | true =>
            have : isnum = true := by rw [hisnum, hD]; rfl
            subst this
            simp (dsimp := false) (implicitDefEqProofs := false) (maxSteps := 1000000) (disch := first | omega | assumption | (simp only [rL, Nat.reduceAdd]; done) | (simp only [rL, Nat.reduceAdd]; omega)) only [↓rD, rU, ev, ofConst, ofCell, ↓reduceIte, Nat.reduceEqDiff, Nat.reduceAdd, Nat.reduceSub, Nat.reduceMul, Nat.reduceLeDiff, Nat.reduceLT, Int.reduceNeg, Int.reduceToNat, Int.reduceAdd, Int.reduceSub, Int.reduceMul, Int.reduceLT, Int.reduceLE, Int.reduceEq, rX, List.drop_succ_cons, ↓rF, rG, ne_eq, not_true_eq_false, not_false_eq_true, Int.reduceNe, List.getElem?_cons_zero, List.getElem?_cons_succ, ↓rK, rM, f0, f4, f5, f6, hix]
          | false =>
            rw [hD, Bool.false_or] at hisnum
            by_cases h45 : c = 45
            · have h45t : ((c.toNat : Nat) : Int) = 45 := (u8_eq (m := 45) (n := 45) rfl).2 h45
              cases hrr : r with
              | nil =>
                have hz : ¬ ((i : Int) + 1 < (l.length : Int)) := by rw [hrr] at hrl; simp at hrl; omega
                have : isnum = false := by rw [hisnum, hrr]; simp [nxt]
                subst this
                simp (dsimp := false) (implicitDefEqProofs := false) (maxSteps := 1000000) (disch := first | omega | assumption | (simp only [rL, Nat.reduceAdd]; done) | (simp only [rL, Nat.reduceAdd]; omega)) only [↓rD, rU, ev, ofConst, ofCell, ↓reduceIte, Nat.reduceEqDiff, Nat.reduceAdd, Nat.reduceSub, Nat.reduceMul, Nat.reduceLeDiff, Nat.reduceLT, Int.reduceNeg, Int.reduceToNat, Int.reduceAdd, Int.reduceSub, Int.reduceMul, Int.reduceLT, Int.reduceLE, Int.reduceEq, rX, List.drop_succ_cons, ↓rF, rG, ne_eq, not_true_eq_false, not_false_eq_true, Int.reduceNe, List.getElem?_cons_zero, List.getElem?_cons_succ, ↓rK, rM, lenTS, f0, f4, f5, f6, hix, hz, h45t]
              | cons d r2 =>
                rw [hrr] at hr hrl
                obtain ⟨hd, _, _⟩ := drop_at hr
                have hixd := ix (n := (i : Int) + 1) hd (by omega)
                have hz : (i : Int) + 1 < (l.length : Int) := by simp at hrl; omega
                simp (dsimp := false) (implicitDefEqProofs := false) (maxSteps := 1000000) (disch := first | omega | assumption | (simp only [rL, Nat.reduceAdd]; done) | (simp only [rL, Nat.reduceAdd]; omega)) only [↓rD, rU, ev, ofConst, ofCell, ↓reduceIte, Nat.reduceEqDiff, Nat.reduceAdd, Nat.reduceSub, Nat.reduceMul, Nat.reduceLeDiff, Nat.reduceLT, Int.reduceNeg, Int.reduceToNat, Int.reduceAdd, Int.reduceSub, Int.reduceMul, Int.reduceLT, Int.reduceLE, Int.reduceEq, rX, List.drop_succ_cons, ↓rF, rG, ne_eq, not_true_eq_false, not_false_eq_true, Int.reduceNe, List.getElem?_cons_zero, List.getElem?_cons_succ, ↓rK, rM, lenTS, f0, f4, f5, f6, hix, hz, h45t, hixd]
                refine call_intro (rdigit_spec _ _) ?_
                rintro _ s4 ⟨rfl, rfl⟩
                have : isnum = digitR d.toNat := by rw [hisnum, hrr, h45]; simp [nxt]
                subst this
                simp (dsimp := false) (implicitDefEqProofs := false) (maxSteps := 1000000) (disch := first | omega | assumption | (simp only [rL, Nat.reduceAdd]; done) | (simp only [rL, Nat.reduceAdd]; omega)) only [↓rD, rU, ev, ofConst, ofCell, ↓reduceIte, Nat.reduceEqDiff, Nat.reduceAdd, Nat.reduceSub, Nat.reduceMul, Nat.reduceLeDiff, Nat.reduceLT, Int.reduceNeg, Int.reduceToNat, Int.reduceAdd, Int.reduceSub, Int.reduceMul, Int.reduceLT, Int.reduceLE, Int.reduceEq, rX, List.drop_succ_cons, ↓rF, rG, ne_eq, not_true_eq_false, not_false_eq_true, Int.reduceNe, List.getElem?_cons_zero, List.getElem?_cons_succ, ↓rK, rM, lenTS, f0, f4, f5, f6, hix, hz, h45t]
            · have hcI : ¬ ((c.toNat : Nat) : Int) = 45 := fun h => h45 ((u8_eq (m := 45) (n := 45) rfl).1 h)
              have : isnum = false := by rw [hisnum]; simp [h45]
              subst this
              simp (dsimp := false) (implicitDefEqProofs := false) (maxSteps := 1000000) (disch := first | omega | assumption | (simp only [rL, Nat.reduceAdd]; done) | (simp only [rL, Nat.reduceAdd]; omega)) only [↓rD, rU, ev, ofConst, ofCell, ↓reduceIte, Nat.reduceEqDiff, Nat.reduceAdd, Nat.reduceSub, Nat.reduceMul, Nat.reduceLeDiff, Nat.reduceLT, Int.reduceNeg, Int.reduceToNat, Int.reduceAdd, Int.reduceSub, Int.reduceMul, Int.reduceLT, Int.reduceLE, Int.reduceEq, rX, List.drop_succ_cons, ↓rF, rG, ne_eq, not_true_eq_false, not_false_eq_true, Int.reduceNe, List.getElem?_cons_zero, List.getElem?_cons_succ, ↓rK, rM, lenTS, f0, f4, f5, f6, hix, hcI]
        clear f0 f4 f5 f6
        rintro f s3 ⟨rfl, f0, f4, f5, f6, f121⟩
        simp (dsimp := false) (implicitDefEqProofs := false) (maxSteps := 1000000) (disch := first | omega | assumption | (simp only [rL, Nat.reduceAdd]; done) | (simp only [rL, Nat.reduceAdd]; omega)) only [↓rD, rU, ev, ofConst, ofCell, ↓reduceIte, Nat.reduceEqDiff, Nat.reduceAdd, Nat.reduceSub, Nat.reduceMul, Nat.reduceLeDiff, Nat.reduceLT, Int.reduceNeg, Int.reduceToNat, Int.reduceAdd, Int.reduceSub, Int.reduceMul, Int.reduceLT, Int.reduceLE, Int.reduceEq, rX, List.drop_succ_cons, ↓rF, rG, ne_eq, not_true_eq_false, not_false_eq_true, Int.reduceNe, List.getElem?_cons_zero, List.getElem?_cons_succ, ↓rK, rM, f0, f4, f5, f6, f121]
        refine cond_join (fun f s' => isnum = false ∧ s' = s3 ∧ f 0 = strV l ∧ f 4 = .sl (TL acc) o ∧ f 5 = .v (.int .i64 (i : Nat)) ∧ f 6 = .v (.int .i64 (i : Nat))) ?_ ?_ ?_
        · intro hN
          obtain ⟨m, hm⟩ : ∃ m : Bool, m = decide (c = 45) := ⟨_, rfl⟩
          obtain ⟨k0, hk0⟩ : ∃ k : Nat, k = i + sg (l.drop i) := ⟨_, rfl⟩
          have hsg : sg (l.drop i) = if m then 1 else 0 := by rw [sg, hh, hm]; by_cases h : c = 45 <;> simp [h]
          refine seq_cut (fun f s' => s' = s3 ∧ f 0 = strV l ∧ f 4 = .sl (TL acc) o ∧ f 5 = .v (.int .i64 (i : Nat)) ∧ f 6 = .v (.int .i64 (i : Nat)) ∧ f 9 = .v (.bool m)) ?_ ?_
          · by_cases h45 : c = 45
            · have h45t : ((c.toNat : Nat) : Int) = 45 := (u8_eq (m := 45) (n := 45) rfl).2 h45
              have : m = true := by rw [hm]; simp [h45]
              subst this
              simp (dsimp := false) (implicitDefEqProofs := false) (maxSteps := 1000000) (disch := first | omega | assumption | (simp only [rL, Nat.reduceAdd]; done) | (simp only [rL, Nat.reduceAdd]; omega)) only [↓rD, rU, ev, ofConst, ofCell, ↓reduceIte, Nat.reduceEqDiff, Nat.reduceAdd, Nat.reduceSub, Nat.reduceMul, Nat.reduceLeDiff, Nat.reduceLT, Int.reduceNeg, Int.reduceToNat, Int.reduceAdd, Int.reduceSub, Int.reduceMul, Int.reduceLT, Int.reduceLE, Int.reduceEq, rX, List.drop_succ_cons, ↓rF, rG, ne_eq, not_true_eq_false, not_false_eq_true, Int.reduceNe, List.getElem?_cons_zero, List.getElem?_cons_succ, ↓rK, rM, f0, f4, f5, f6, hix, h45t]
            · have hcI : ¬ ((c.toNat : Nat) : Int) = 45 := fun h => h45 ((u8_eq (m := 45) (n := 45) rfl).1 h)
              have : m = false := by rw [hm]; simp [h45]
              subst this
              simp (dsimp := false) (implicitDefEqProofs := false) (maxSteps := 1000000) (disch := first | omega | assumption | (simp only [rL, Nat.reduceAdd]; done) | (simp only [rL, Nat.reduceAdd]; omega)) only [↓rD, rU, ev, ofConst, ofCell, ↓reduceIte, Nat.reduceEqDiff, Nat.reduceAdd, Nat.reduceSub, Nat.reduceMul, Nat.reduceLeDiff, Nat.reduceLT, Int.reduceNeg, Int.reduceToNat, Int.reduceAdd, Int.reduceSub, Int.reduceMul, Int.reduceLT, Int.reduceLE, Int.reduceEq, rX, List.drop_succ_cons, ↓rF, rG, ne_eq, not_true_eq_false, not_false_eq_true, Int.reduceNe, List.getElem?_cons_zero, List.getElem?_cons_succ, ↓rK, rM, f0, f4, f5, f6, hix, hcI]
          clear f0 f4 f5 f6 f121
          rintro f s4 ⟨rfl, f0, f4, f5, f6, f9⟩
          refine seq_cut (fun f s' => s' = s4 ∧ f 0 = strV l ∧ f 4 = .sl (TL acc) o ∧ f 5 = .v (.int .i64 (k0 : Nat)) ∧ f 6 = .v (.int .i64 (i : Nat)) ∧ f 9 = .v (.bool m)) ?_ ?_
          · cases m with
            | true =>
              rw [hsg] at hk0
              subst hk0
              simp (dsimp := false) (implicitDefEqProofs := false) (maxSteps := 1000000) (disch := first | omega | assumption | (simp only [rL, Nat.reduceAdd]; done) | (simp only [rL, Nat.reduceAdd]; omega)) only [↓rD, rU, ev, ofConst, ofCell, ↓reduceIte, Nat.reduceEqDiff, Nat.reduceAdd, Nat.reduceSub, Nat.reduceMul, Nat.reduceLeDiff, Nat.reduceLT, Int.reduceNeg, Int.reduceToNat, Int.reduceAdd, Int.reduceSub, Int.reduceMul, Int.reduceLT, Int.reduceLE, Int.reduceEq, rX, List.drop_succ_cons, ↓rF, rG, ne_eq, not_true_eq_false, not_false_eq_true, Int.reduceNe, List.getElem?_cons_zero, List.getElem?_cons_succ, ↓rK, rM, f0, f4, f5, f6, f9]
              simp
            | false =>
              rw [hsg] at hk0
              subst hk0
              simp (dsimp := false) (implicitDefEqProofs := false) (maxSteps := 1000000) (disch := first | omega | assumption | (simp only [rL, Nat.reduceAdd]; done) | (simp only [rL, Nat.reduceAdd]; omega)) only [↓rD, rU, ev, ofConst, ofCell, ↓reduceIte, Nat.reduceEqDiff, Nat.reduceAdd, Nat.reduceSub, Nat.reduceMul, Nat.reduceLeDiff, Nat.reduceLT, Int.reduceNeg, Int.reduceToNat, Int.reduceAdd, Int.reduceSub, Int.reduceMul, Int.reduceLT, Int.reduceLE, Int.reduceEq, rX, List.drop_succ_cons, ↓rF, rG, ne_eq, not_true_eq_false, not_false_eq_true, Int.reduceNe, List.getElem?_cons_zero, List.getElem?_cons_succ, ↓rK, rM, f0, f4, f5, f6, f9]
          clear f0 f4 f5 f6 f9
          rintro f s5 ⟨rfl, f0, f4, f5, f6, f9⟩
          refine seq_cut (fun f s' => s' = s5 ∧ f 0 = strV l ∧ f 4 = .sl (TL acc) o ∧ f 5 = .v (.int .i64 (k0 : Nat)) ∧ f 6 = .v (.int .i64 (i : Nat)) ∧ f 9 = .v (.bool m) ∧ f 10 = .v (.int .u64 0) ∧ f 11 = .v (.bool false)) ?_ ?_
          · simp (dsimp := false) (implicitDefEqProofs := false) (maxSteps := 1000000) (disch := first | omega | assumption | (simp only [rL, Nat.reduceAdd]; done) | (simp only [rL, Nat.reduceAdd]; omega)) only [↓rD, rU, ev, ofConst, ofCell, ↓reduceIte, Nat.reduceEqDiff, Nat.reduceAdd, Nat.reduceSub, Nat.reduceMul, Nat.reduceLeDiff, Nat.reduceLT, Int.reduceNeg, Int.reduceToNat, Int.reduceAdd, Int.reduceSub, Int.reduceMul, Int.reduceLT, Int.reduceLE, Int.reduceEq, rX, List.drop_succ_cons, ↓rF, rG, ne_eq, not_true_eq_false, not_false_eq_true, Int.reduceNe, List.getElem?_cons_zero, List.getElem?_cons_succ, ↓rK, rM, f0, f4, f5, f6, f9]
          clear f0 f4 f5 f6 f9
          rintro f s6 ⟨rfl, f0, f4, f5, f6, f9, f10, f11⟩
          obtain ⟨ds, hds⟩ : ∃ x, x = tw digitR (l.drop k0) := ⟨_, rfl⟩
          have hk0l : k0 ≤ l.length := by rw [hk0, hsg]; split <;> omega
          have hdl : (l.drop k0).length = l.length - k0 := List.length_drop
          have hdsl : ds.length ≤ l.length - k0 := by rw [hds, ← hdl]; exact tw_le _ _
          refine seq_cut (fun f s' => s' = s6 ∧ f 0 = strV l ∧ f 4 = .sl (TL acc) o ∧ f 5 = .v (.int .i64 ((k0 + ds.length : Nat) : Int)) ∧ f 6 = .v (.int .i64 (i : Nat)) ∧ f 9 = .v (.bool m) ∧ f 10 = .v (.int .u64 ((if limOf m < dval 0 ds then 0 else dval 0 ds : Nat) : Int)) ∧ f 11 = .v (.bool (decide (limOf m < dval 0 ds)))) ?_ ?_
          · simp (dsimp := false) (implicitDefEqProofs := false) (maxSteps := 1000000) (disch := first | omega | assumption | (simp only [rL, Nat.reduceAdd]; done) | (simp only [rL, Nat.reduceAdd]; omega)) only [↓rD, rU, ev, ofConst, ofCell, ↓reduceIte, Nat.reduceEqDiff, Nat.reduceAdd, Nat.reduceSub, Nat.reduceMul, Nat.reduceLeDiff, Nat.reduceLT, Int.reduceNeg, Int.reduceToNat, Int.reduceAdd, Int.reduceSub, Int.reduceMul, Int.reduceLT, Int.reduceLE, Int.reduceEq, rX, List.drop_succ_cons, ↓rF, rG, ne_eq, not_true_eq_false, not_false_eq_true, Int.reduceNe, List.getElem?_cons_zero, List.getElem?_cons_succ, ↓rK, rM, f0, f4, f5, f6, f9, f10, f11]
            refine loop_intro (fun f s' => ∃ j : Nat, k0 ≤ j ∧ j ≤ l.length ∧ (∀ b ∈ (l.drop k0).take (j - k0), digitR b.toNat = true) ∧ s' = s6 ∧ f 0 = strV l ∧ f 4 = .sl (TL acc) o ∧ f 5 = .v (.int .i64 (j : Nat)) ∧ f 6 = .v (.int .i64 (i : Nat)) ∧ f 9 = .v (.bool m) ∧
                f 10 = .v (.int .u64 ((if limOf m < dval 0 ((l.drop k0).take (j - k0)) then 0 else dval 0 ((l.drop k0).take (j - k0)) : Nat) : Int)) ∧ f 11 = .v (.bool (decide (limOf m < dval 0 ((l.drop k0).take (j - k0))))))
              (fun f _ => match f 5 with | .v (.int _ n) => l.length - n.toNat | _ => 0) ⟨k0, by omega, by omega, by simp, rfl, ?_⟩ ?_
            · simp only [Nat.sub_self, List.take_zero]
              refine ⟨f0, f4, f5, f6, f9, ?_, ?_⟩
              · rw [f10, if_neg (by unfold limOf; simp [dval])]; rfl
              · rw [f11]; unfold limOf; cases m <;> rfl
            · clear f0 f4 f5 f6 f9 f10 f11
              rintro f s7 ⟨j, hij, hjl, hall, rfl, f0, f4, f5, f6, f9, f10, f11⟩
              have fin : nxt digitR (l.drop j) = false → (l.drop k0).take (j - k0) = ds ∧ j = k0 + ds.length := fun h => by
                have e1 : l.drop k0 = (l.drop k0).take (j - k0) ++ l.drop j := by
                  have : l.drop j = (l.drop k0).drop (j - k0) := by rw [List.drop_drop]; congr 1; omega
                  rw [this, List.take_append_drop]
                have h1 : (l.drop k0).take (j - k0) = ds := by
                  rw [hds]; conv => rhs; rw [e1]
                  rw [tw_app hall h]
                refine ⟨h1, ?_⟩
                rw [← h1, List.length_take, hdl]; omega
              by_cases hj : (j : Int) < (l.length : Int)
              · obtain ⟨b, r3, hq3⟩ : ∃ c r, l.drop j = c :: r := ⟨_, _, List.drop_eq_getElem_cons (by omega)⟩
                obtain ⟨hbj, hr3, _⟩ := drop_at hq3
                have hixb := ix (n := (j : Int)) hbj rfl
                simp (dsimp := false) (implicitDefEqProofs := false) (maxSteps := 1000000) (disch := first | omega | assumption | (simp only [rL, Nat.reduceAdd]; done) | (simp only [rL, Nat.reduceAdd]; omega)) only [↓rD, rU, ev, ofConst, ofCell, ↓reduceIte, Nat.reduceEqDiff, Nat.reduceAdd, Nat.reduceSub, Nat.reduceMul, Nat.reduceLeDiff, Nat.reduceLT, Int.reduceNeg, Int.reduceToNat, Int.reduceAdd, Int.reduceSub, Int.reduceMul, Int.reduceLT, Int.reduceLE, Int.reduceEq, rX, List.drop_succ_cons, ↓rF, rG, ne_eq, not_true_eq_false, not_false_eq_true, Int.reduceNe, List.getElem?_cons_zero, List.getElem?_cons_succ, ↓rK, rM, lenTS, f0, f4, f5, f6, f9, f10, f11, hj, hixb]
                refine call_intro (rdigit_spec _ _) ?_
                rintro _ s8 ⟨rfl, rfl⟩
                simp (dsimp := false) (implicitDefEqProofs := false) (maxSteps := 1000000) (disch := first | omega | assumption | (simp only [rL, Nat.reduceAdd]; done) | (simp only [rL, Nat.reduceAdd]; omega)) only [↓rD, rU, ev, ofConst, ofCell, ↓reduceIte, Nat.reduceEqDiff, Nat.reduceAdd, Nat.reduceSub, Nat.reduceMul, Nat.reduceLeDiff, Nat.reduceLT, Int.reduceNeg, Int.reduceToNat, Int.reduceAdd, Int.reduceSub, Int.reduceMul, Int.reduceLT, Int.reduceLE, Int.reduceEq, rX, List.drop_succ_cons, ↓rF, rG, ne_eq, not_true_eq_false, not_false_eq_true, Int.reduceNe, List.getElem?_cons_zero, List.getElem?_cons_succ, ↓rK, rM]
                generalize hDD : dval 0 ((l.drop k0).take (j - k0)) = D at f10 f11
                obtain ⟨n, hn⟩ : ∃ n, n = (if limOf m < D then 0 else D) := ⟨_, rfl⟩
                rw [← hn] at f10
                obtain ⟨ov, hov⟩ : ∃ b, b = decide (limOf m < D) := ⟨_, rfl⟩
                rw [← hov] at f11
                refine cond_join (fun f s' => digitR b.toNat = true ∧ s' = s8 ∧ f 0 = strV l ∧ f 4 = .sl (TL acc) o ∧ f 5 = .v (.int .i64 (j : Nat)) ∧ f 6 = .v (.int .i64 (i : Nat)) ∧ f 9 = .v (.bool m) ∧ f 10 = .v (.int .u64 (n : Nat)) ∧ f 11 = .v (.bool ov)) ?_ ?_ ?_
                · intro hw
                  simp (dsimp := false) (implicitDefEqProofs := false) (maxSteps := 1000000) (disch := first | omega | assumption | (simp only [rL, Nat.reduceAdd]; done) | (simp only [rL, Nat.reduceAdd]; omega)) only [↓rD, rU, ev, ofConst, ofCell, ↓reduceIte, Nat.reduceEqDiff, Nat.reduceAdd, Nat.reduceSub, Nat.reduceMul, Nat.reduceLeDiff, Nat.reduceLT, Int.reduceNeg, Int.reduceToNat, Int.reduceAdd, Int.reduceSub, Int.reduceMul, Int.reduceLT, Int.reduceLE, Int.reduceEq, rX, List.drop_succ_cons, ↓rF, rG, ne_eq, not_true_eq_false, not_false_eq_true, Int.reduceNe, List.getElem?_cons_zero, List.getElem?_cons_succ, ↓rK, rM, f0, f4, f5, f6, f9, f10, f11]
                  exact hw
                · intro hw
                  obtain ⟨g1, g2⟩ := fin (by rw [hq3]; exact hw)
                  rw [g1] at hDD
                  simp (dsimp := false) (implicitDefEqProofs := false) (maxSteps := 1000000) (disch := first | omega | assumption | (simp only [rL, Nat.reduceAdd]; done) | (simp only [rL, Nat.reduceAdd]; omega)) only [↓rD, rU, ev, ofConst, ofCell, ↓reduceIte, Nat.reduceEqDiff, Nat.reduceAdd, Nat.reduceSub, Nat.reduceMul, Nat.reduceLeDiff, Nat.reduceLT, Int.reduceNeg, Int.reduceToNat, Int.reduceAdd, Int.reduceSub, Int.reduceMul, Int.reduceLT, Int.reduceLE, Int.reduceEq, rX, List.drop_succ_cons, ↓rF, rG, ne_eq, not_true_eq_false, not_false_eq_true, Int.reduceNe, List.getElem?_cons_zero, List.getElem?_cons_succ, ↓rK, rM, f0, f4, f5, f6, f9, f10, f11]
                  rw [hDD, ← hn, ← hov, g2]
                  exact ⟨rfl, rfl, rfl⟩
                · have N5 := f5
                  clear f0 f4 f5 f6 f9 f10 f11
                  rintro f s8 ⟨hw, rfl, f0, f4, f5, f6, f9, f10, f11⟩
                  have hb1 := digitR_iff.1 hw
                  obtain ⟨d, hd⟩ : ∃ d : Nat, d = b.toNat - 48 := ⟨_, rfl⟩
                  rw [awp_block]
                  refine seq_cut (fun f s' => s' = s8 ∧ f 0 = strV l ∧ f 4 = .sl (TL acc) o ∧ f 5 = .v (.int .i64 (j : Nat)) ∧ f 6 = .v (.int .i64 (i : Nat)) ∧ f 9 = .v (.bool m) ∧ f 10 = .v (.int .u64 (n : Nat)) ∧ f 11 = .v (.bool ov) ∧ f 12 = .v (.int .u64 (d : Nat))) ?_ ?_
                  · have gs : binV .sub (.int .u8 (b.toNat : Int)) (.int .u8 48) = some (.int .u8 (d : Int)) := by
                      simp only [binV, isShift, binInt, Bool.false_eq_true, if_false, if_true]
                      rw [wrap_u8 (by omega) (by omega)]; congr 2; omega
                    have gd : IntKind.u64.wrap (d : Int) = (d : Int) := wrap_u64 (by omega) (by omega)
                    simp (dsimp := false) (implicitDefEqProofs := false) (maxSteps := 1000000) (disch := first | omega | assumption | (simp only [rL, Nat.reduceAdd]; done) | (simp only [rL, Nat.reduceAdd]; omega)) only [↓rD, rU, ev, ofConst, ofCell, ↓reduceIte, Nat.reduceEqDiff, Nat.reduceAdd, Nat.reduceSub, Nat.reduceMul, Nat.reduceLeDiff, Nat.reduceLT, Int.reduceNeg, Int.reduceToNat, Int.reduceAdd, Int.reduceSub, Int.reduceMul, Int.reduceLT, Int.reduceLE, Int.reduceEq, rX, List.drop_succ_cons, ↓rF, rG, ne_eq, not_true_eq_false, not_false_eq_true, Int.reduceNe, List.getElem?_cons_zero, List.getElem?_cons_succ, ↓rK, rM, f0, f4, f5, f6, f9, f10, f11, hixb, gs, gd]
                  clear f0 f4 f5 f6 f9 f10 f11
                  rintro f s8 ⟨rfl, f0, f4, f5, f6, f9, f10, f11, f12⟩
                  refine seq_cut (fun f s' => s' = s8 ∧ f 0 = strV l ∧ f 4 = .sl (TL acc) o ∧ f 5 = .v (.int .i64 (j : Nat)) ∧ f 6 = .v (.int .i64 (i : Nat)) ∧ f 9 = .v (.bool m) ∧ f 10 = .v (.int .u64 (n : Nat)) ∧ f 11 = .v (.bool (ov || decide (922337203685477580 < n))) ∧ f 12 = .v (.int .u64 (d : Nat))) ?_ ?_
                  · by_cases hA : (922337203685477580 : Int) < (n : Int)
                    · have hA' : 922337203685477580 < n := by omega
                      simp (dsimp := false) (implicitDefEqProofs := false) (maxSteps := 1000000) (disch := first | omega | assumption | (simp only [rL, Nat.reduceAdd]; done) | (simp only [rL, Nat.reduceAdd]; omega)) only [↓rD, rU, ev, ofConst, ofCell, ↓reduceIte, Nat.reduceEqDiff, Nat.reduceAdd, Nat.reduceSub, Nat.reduceMul, Nat.reduceLeDiff, Nat.reduceLT, Int.reduceNeg, Int.reduceToNat, Int.reduceAdd, Int.reduceSub, Int.reduceMul, Int.reduceLT, Int.reduceLE, Int.reduceEq, rX, List.drop_succ_cons, ↓rF, rG, ne_eq, not_true_eq_false, not_false_eq_true, Int.reduceNe, List.getElem?_cons_zero, List.getElem?_cons_succ, ↓rK, rM, f0, f4, f5, f6, f9, f10, f11, f12, hA]
                      simp [hA']
                    · have hA' : ¬ 922337203685477580 < n := by omega
                      simp (dsimp := false) (implicitDefEqProofs := false) (maxSteps := 1000000) (disch := first | omega | assumption | (simp only [rL, Nat.reduceAdd]; done) | (simp only [rL, Nat.reduceAdd]; omega)) only [↓rD, rU, ev, ofConst, ofCell, ↓reduceIte, Nat.reduceEqDiff, Nat.reduceAdd, Nat.reduceSub, Nat.reduceMul, Nat.reduceLeDiff, Nat.reduceLT, Int.reduceNeg, Int.reduceToNat, Int.reduceAdd, Int.reduceSub, Int.reduceMul, Int.reduceLT, Int.reduceLE, Int.reduceEq, rX, List.drop_succ_cons, ↓rF, rG, ne_eq, not_true_eq_false, not_false_eq_true, Int.reduceNe, List.getElem?_cons_zero, List.getElem?_cons_succ, ↓rK, rM, f0, f4, f5, f6, f9, f10, f11, f12, hA]
                      simp [hA']
                  clear f0 f4 f5 f6 f9 f10 f11 f12
                  rintro f s8 ⟨rfl, f0, f4, f5, f6, f9, f10, f11, f12⟩
                  obtain ⟨X, hX⟩ : ∃ X : Nat, X = (10 * n + d) % 18446744073709551616 := ⟨_, rfl⟩
                  generalize hov1 : (ov || decide (922337203685477580 < n)) = ov1 at f11
                  refine seq_cut (fun f s' => s' = s8 ∧ f 0 = strV l ∧ f 4 = .sl (TL acc) o ∧ f 5 = .v (.int .i64 (j : Nat)) ∧ f 6 = .v (.int .i64 (i : Nat)) ∧ f 9 = .v (.bool m) ∧ f 10 = .v (.int .u64 (X : Nat)) ∧ f 11 = .v (.bool ov1)) ?_ ?_
                  · have gx : IntKind.u64.wrap (IntKind.u64.wrap (10 * (n : Int)) + (d : Int)) = (X : Int) := by rw [wrap_u64_mod, wrap_u64_mod, hX]; omega
                    simp (dsimp := false) (implicitDefEqProofs := false) (maxSteps := 1000000) (disch := first | omega | assumption | (simp only [rL, Nat.reduceAdd]; done) | (simp only [rL, Nat.reduceAdd]; omega)) only [↓rD, rU, ev, ofConst, ofCell, ↓reduceIte, Nat.reduceEqDiff, Nat.reduceAdd, Nat.reduceSub, Nat.reduceMul, Nat.reduceLeDiff, Nat.reduceLT, Int.reduceNeg, Int.reduceToNat, Int.reduceAdd, Int.reduceSub, Int.reduceMul, Int.reduceLT, Int.reduceLE, Int.reduceEq, rX, List.drop_succ_cons, ↓rF, rG, ne_eq, not_true_eq_false, not_false_eq_true, Int.reduceNe, List.getElem?_cons_zero, List.getElem?_cons_succ, ↓rK, rM, f0, f4, f5, f6, f9, f10, f11, f12, gx]
                  clear f0 f4 f5 f6 f9 f10 f11 f12
                  rintro f s8 ⟨rfl, f0, f4, f5, f6, f9, f10, f11⟩
                  obtain ⟨ov2, hov2⟩ : ∃ b, b = (ov1 || (decide (9223372036854775808 < X) || (!m && decide (9223372036854775807 < X)))) := ⟨_, rfl⟩
                  refine seq_cut (fun f s' => s' = s8 ∧ f 0 = strV l ∧ f 4 = .sl (TL acc) o ∧ f 5 = .v (.int .i64 (j : Nat)) ∧ f 6 = .v (.int .i64 (i : Nat)) ∧ f 9 = .v (.bool m) ∧ f 10 = .v (.int .u64 (X : Nat)) ∧ f 11 = .v (.bool ov2)) ?_ ?_
                  · by_cases h1 : (9223372036854775808 : Int) < (X : Int)
                    · have h1' : 9223372036854775808 < X := by omega
                      have : ov2 = true := by rw [hov2]; simp [h1']
                      subst this
                      simp (dsimp := false) (implicitDefEqProofs := false) (maxSteps := 1000000) (disch := first | omega | assumption | (simp only [rL, Nat.reduceAdd]; done) | (simp only [rL, Nat.reduceAdd]; omega)) only [↓rD, rU, ev, ofConst, ofCell, ↓reduceIte, Nat.reduceEqDiff, Nat.reduceAdd, Nat.reduceSub, Nat.reduceMul, Nat.reduceLeDiff, Nat.reduceLT, Int.reduceNeg, Int.reduceToNat, Int.reduceAdd, Int.reduceSub, Int.reduceMul, Int.reduceLT, Int.reduceLE, Int.reduceEq, rX, List.drop_succ_cons, ↓rF, rG, ne_eq, not_true_eq_false, not_false_eq_true, Int.reduceNe, List.getElem?_cons_zero, List.getElem?_cons_succ, ↓rK, rM, f0, f4, f5, f6, f9, f10, f11, h1]
                    · have h1' : ¬ 9223372036854775808 < X := by omega
                      cases m with
                      | true =>
                        have : ov2 = ov1 := by rw [hov2]; simp [h1']
                        subst this
                        simp (dsimp := false) (implicitDefEqProofs := false) (maxSteps := 1000000) (disch := first | omega | assumption | (simp only [rL, Nat.reduceAdd]; done) | (simp only [rL, Nat.reduceAdd]; omega)) only [↓rD, rU, ev, ofConst, ofCell, ↓reduceIte, Nat.reduceEqDiff, Nat.reduceAdd, Nat.reduceSub, Nat.reduceMul, Nat.reduceLeDiff, Nat.reduceLT, Int.reduceNeg, Int.reduceToNat, Int.reduceAdd, Int.reduceSub, Int.reduceMul, Int.reduceLT, Int.reduceLE, Int.reduceEq, rX, List.drop_succ_cons, ↓rF, rG, ne_eq, not_true_eq_false, not_false_eq_true, Int.reduceNe, List.getElem?_cons_zero, List.getElem?_cons_succ, ↓rK, rM, f0, f4, f5, f6, f9, f10, f11, h1]
                      | false =>
                        by_cases h2 : (9223372036854775807 : Int) < (X : Int)
                        · have h2' : 9223372036854775807 < X := by omega
                          have : ov2 = true := by rw [hov2]; simp [h2']
                          subst this
                          simp (dsimp := false) (implicitDefEqProofs := false) (maxSteps := 1000000) (disch := first | omega | assumption | (simp only [rL, Nat.reduceAdd]; done) | (simp only [rL, Nat.reduceAdd]; omega)) only [↓rD, rU, ev, ofConst, ofCell, ↓reduceIte, Nat.reduceEqDiff, Nat.reduceAdd, Nat.reduceSub, Nat.reduceMul, Nat.reduceLeDiff, Nat.reduceLT, Int.reduceNeg, Int.reduceToNat, Int.reduceAdd, Int.reduceSub, Int.reduceMul, Int.reduceLT, Int.reduceLE, Int.reduceEq, rX, List.drop_succ_cons, ↓rF, rG, ne_eq, not_true_eq_false, not_false_eq_true, Int.reduceNe, List.getElem?_cons_zero, List.getElem?_cons_succ, ↓rK, rM, f0, f4, f5, f6, f9, f10, f11, h1, h2]
                        · have h2' : ¬ 9223372036854775807 < X := by omega
                          have : ov2 = ov1 := by rw [hov2]; simp [h1', h2']
                          subst this
                          simp (dsimp := false) (implicitDefEqProofs := false) (maxSteps := 1000000) (disch := first | omega | assumption | (simp only [rL, Nat.reduceAdd]; done) | (simp only [rL, Nat.reduceAdd]; omega)) only [↓rD, rU, ev, ofConst, ofCell, ↓reduceIte, Nat.reduceEqDiff, Nat.reduceAdd, Nat.reduceSub, Nat.reduceMul, Nat.reduceLeDiff, Nat.reduceLT, Int.reduceNeg, Int.reduceToNat, Int.reduceAdd, Int.reduceSub, Int.reduceMul, Int.reduceLT, Int.reduceLE, Int.reduceEq, rX, List.drop_succ_cons, ↓rF, rG, ne_eq, not_true_eq_false, not_false_eq_true, Int.reduceNe, List.getElem?_cons_zero, List.getElem?_cons_succ, ↓rK, rM, f0, f4, f5, f6, f9, f10, f11, h1, h2]
                  clear f0 f4 f5 f6 f9 f10 f11
                  rintro f s8 ⟨rfl, f0, f4, f5, f6, f9, f10, f11⟩
                  obtain ⟨Y, hY⟩ : ∃ Y : Nat, Y = if ov2 then 0 else X := ⟨_, rfl⟩
                  refine seq_cut (fun f s' => s' = s8 ∧ f 0 = strV l ∧ f 4 = .sl (TL acc) o ∧ f 5 = .v (.int .i64 (j : Nat)) ∧ f 6 = .v (.int .i64 (i : Nat)) ∧ f 9 = .v (.bool m) ∧ f 10 = .v (.int .u64 (Y : Nat)) ∧ f 11 = .v (.bool ov2)) ?_ ?_
                  · clear hov2
                    cases ov2 with
                    | true =>
                      have : Y = 0 := hY
                      subst this
                      simp (dsimp := false) (implicitDefEqProofs := false) (maxSteps := 1000000) (disch := first | omega | assumption | (simp only [rL, Nat.reduceAdd]; done) | (simp only [rL, Nat.reduceAdd]; omega)) only [↓rD, rU, ev, ofConst, ofCell, ↓reduceIte, Nat.reduceEqDiff, Nat.reduceAdd, Nat.reduceSub, Nat.reduceMul, Nat.reduceLeDiff, Nat.reduceLT, Int.reduceNeg, Int.reduceToNat, Int.reduceAdd, Int.reduceSub, Int.reduceMul, Int.reduceLT, Int.reduceLE, Int.reduceEq, rX, List.drop_succ_cons, ↓rF, rG, ne_eq, not_true_eq_false, not_false_eq_true, Int.reduceNe, List.getElem?_cons_zero, List.getElem?_cons_succ, ↓rK, rM, f0, f4, f5, f6, f9, f10, f11]
                    | false =>
                      have : Y = X := hY
                      subst this
                      simp (dsimp := false) (implicitDefEqProofs := false) (maxSteps := 1000000) (disch := first | omega | assumption | (simp only [rL, Nat.reduceAdd]; done) | (simp only [rL, Nat.reduceAdd]; omega)) only [↓rD, rU, ev, ofConst, ofCell, ↓reduceIte, Nat.reduceEqDiff, Nat.reduceAdd, Nat.reduceSub, Nat.reduceMul, Nat.reduceLeDiff, Nat.reduceLT, Int.reduceNeg, Int.reduceToNat, Int.reduceAdd, Int.reduceSub, Int.reduceMul, Int.reduceLT, Int.reduceLE, Int.reduceEq, rX, List.drop_succ_cons, ↓rF, rG, ne_eq, not_true_eq_false, not_false_eq_true, Int.reduceNe, List.getElem?_cons_zero, List.getElem?_cons_succ, ↓rK, rM, f0, f4, f5, f6, f9, f10, f11]
                  clear f0 f4 f5 f6 f9 f10 f11
                  rintro f s8 ⟨rfl, f0, f4, f5, f6, f9, f10, f11⟩
                  simp (dsimp := false) (implicitDefEqProofs := false) (maxSteps := 1000000) (disch := first | omega | assumption | (simp only [rL, Nat.reduceAdd]; done) | (simp only [rL, Nat.reduceAdd]; omega)) only [↓rD, rU, ev, ofConst, ofCell, ↓reduceIte, Nat.reduceEqDiff, Nat.reduceAdd, Nat.reduceSub, Nat.reduceMul, Nat.reduceLeDiff, Nat.reduceLT, Int.reduceNeg, Int.reduceToNat, Int.reduceAdd, Int.reduceSub, Int.reduceMul, Int.reduceLT, Int.reduceLE, Int.reduceEq, rX, List.drop_succ_cons, ↓rF, rG, ne_eq, not_true_eq_false, not_false_eq_true, Int.reduceNe, List.getElem?_cons_zero, List.getElem?_cons_succ, ↓rK, rM, f0, f4, f5, f6, f9, f10, f11, N5]
                  have htake : (l.drop k0).take (j + 1 - k0) = (l.drop k0).take (j - k0) ++ [b] := by
                    have e1 : (l.drop k0)[j - k0]? = some b := by rw [List.getElem?_drop, ← hbj]; congr 1; omega
                    rw [show j + 1 - k0 = (j - k0) + 1 by omega, List.take_succ, e1]; rfl
                  have hD2 : dval 0 ((l.drop k0).take (j + 1 - k0)) = D * 10 + d := by rw [htake, dval_snoc, hDD, hd]
                  obtain ⟨q1, q2⟩ := over_step (m := m) (D := D) (d := d) (by omega) n X hn hX
                  have q3 : ov2 = decide (limOf m < D * 10 + d) := by rw [hov2, ← hov1, hov, q1]
                  have q4 : Y = if limOf m < D * 10 + d then 0 else D * 10 + d := by
                    rw [hY, q3]
                    by_cases h : limOf m < D * 10 + d
                    · simp [h]
                    · simp only [h, decide_false, Bool.false_eq_true, if_false]
                      exact q2.resolve_left h
                  refine ⟨⟨j + 1, by omega, by omega, ?_, ?_⟩, by omega⟩
                  · intro x hx
                    rw [htake] at hx
                    rcases List.mem_append.1 hx with hx | hx
                    · exact hall x hx
                    · simp at hx; subst hx; exact hw
                  · rw [hD2, ← q4, ← q3]
                    simp
              · obtain rfl : j = l.length := by omega
                obtain ⟨g1, g2⟩ := fin (by rw [List.drop_length]; rfl)
                simp (dsimp := false) (implicitDefEqProofs := false) (maxSteps := 1000000) (disch := first | omega | assumption | (simp only [rL, Nat.reduceAdd]; done) | (simp only [rL, Nat.reduceAdd]; omega)) only [↓rD, rU, ev, ofConst, ofCell, ↓reduceIte, Nat.reduceEqDiff, Nat.reduceAdd, Nat.reduceSub, Nat.reduceMul, Nat.reduceLeDiff, Nat.reduceLT, Int.reduceNeg, Int.reduceToNat, Int.reduceAdd, Int.reduceSub, Int.reduceMul, Int.reduceLT, Int.reduceLE, Int.reduceEq, rX, List.drop_succ_cons, ↓rF, rG, ne_eq, not_true_eq_false, not_false_eq_true, Int.reduceNe, List.getElem?_cons_zero, List.getElem?_cons_succ, ↓rK, rM, lenTS, f0, f4, f5, f6, f9, f10, f11, hj]
                rw [g1, ← g2]
                exact ⟨rfl, rfl, rfl⟩
          clear f0 f4 f5 f6 f9 f10 f11
          rintro f s7 ⟨rfl, f0, f4, f5, f6, f9, f10, f11⟩
          have hk0d : (l.drop i).drop (sg (l.drop i)) = l.drop k0 := by rw [List.drop_drop, hk0]
          have hnd2 : nDig (l.drop i) = ds.length := by rw [nDig, hk0d, hds]
          have hrest : (l.drop i).drop (sg (l.drop i) + nDig (l.drop i)) = l.drop (k0 + ds.length) := by rw [List.drop_drop, hnd2, hk0]; congr 1; omega
          have hneg : decide ((l.drop i).head? = some 45) = m := by rw [hh, hm]; simp
          have htok : tokP (l.drop i) = numP (l.drop i) := by
            have hL' : nxt letterR (l.drop i) = false := by rw [hq]; exact hL
            rw [tokP, hL', if_neg (by simp), hnD, hh, hd1, ← hisnum, hN, if_pos rfl]
          have hnum : numP (l.drop i) = if nxt tailR (l.drop (k0 + ds.length)) = true then .error 2 else
              match numV m (dval 0 ds) with
              | .ok v => .ok (⟨2, itoaS v, v⟩, sg (l.drop i) + nDig (l.drop i))
              | .error e => .error e := by
            rw [numP, hrest, hk0d, hneg, ← hds]
            cases numV m (dval 0 ds) <;> rfl
          have hkl : k0 + ds.length ≤ l.length := by omega
          have herr : ∀ e, tokP (l.drop i) = .error e → lexQ l.length l = .error e := fun e h => by rw [← happ, lexQ_err hne hsk h]; rfl
          generalize hD : dval 0 ds = D at *
          obtain ⟨tl, htl⟩ : ∃ b, b = nxt tailR (l.drop (k0 + ds.length)) := ⟨_, rfl⟩
          refine seq_cut (fun f s' => tl = false ∧ s' = s7 ∧ f 0 = strV l ∧ f 4 = .sl (TL acc) o ∧ f 5 = .v (.int .i64 ((k0 + ds.length : Nat) : Int)) ∧ f 6 = .v (.int .i64 (i : Nat)) ∧ f 9 = .v (.bool m) ∧ f 10 = .v (.int .u64 ((if limOf m < D then 0 else D : Nat) : Int)) ∧ f 11 = .v (.bool (decide (limOf m < D)))) ?_ ?_
          · by_cases hj : ((k0 + ds.length : Nat) : Int) < (l.length : Int)
            · obtain ⟨b, r3, hq3⟩ : ∃ c r, l.drop (k0 + ds.length) = c :: r := ⟨_, _, List.drop_eq_getElem_cons (by omega)⟩
              obtain ⟨hbj, hr3, _⟩ := drop_at hq3
              have hixb := ix (n := ((k0 + ds.length : Nat) : Int)) hbj rfl
              have htl2 : tl = tailR b.toNat := by rw [htl, hq3]; rfl
              by_cases h45 : b = 45
              · have h45t : ((b.toNat : Nat) : Int) = 45 := (u8_eq (m := 45) (n := 45) rfl).2 h45
                have : tl = true := by rw [htl2]; simp [tailR, h45t]
                subst this
                simp (dsimp := false) (implicitDefEqProofs := false) (maxSteps := 1000000) (disch := first | omega | assumption | (simp only [rL, Nat.reduceAdd]; done) | (simp only [rL, Nat.reduceAdd]; omega)) only [↓rD, rU, ev, ofConst, ofCell, ↓reduceIte, Nat.reduceEqDiff, Nat.reduceAdd, Nat.reduceSub, Nat.reduceMul, Nat.reduceLeDiff, Nat.reduceLT, Int.reduceNeg, Int.reduceToNat, Int.reduceAdd, Int.reduceSub, Int.reduceMul, Int.reduceLT, Int.reduceLE, Int.reduceEq, rX, List.drop_succ_cons, ↓rF, rG, ne_eq, not_true_eq_false, not_false_eq_true, Int.reduceNe, List.getElem?_cons_zero, List.getElem?_cons_succ, ↓rK, rM, lenTS, f0, f4, f5, f6, f9, f10, f11, hj, hixb, h45t]
                exact ⟨_, Hp.sub_refl, by rw [herr 2 (by rw [htok, hnum, if_pos htl.symm])]; exact ⟨hown.sub, rfl⟩⟩
              · have hcI : ¬ ((b.toNat : Nat) : Int) = 45 := fun h => h45 ((u8_eq (m := 45) (n := 45) rfl).1 h)
                have htl3 : tl = wordR b.toNat := by rw [htl2]; simp [tailR, hcI]
                simp (dsimp := false) (implicitDefEqProofs := false) (maxSteps := 1000000) (disch := first | omega | assumption | (simp only [rL, Nat.reduceAdd]; done) | (simp only [rL, Nat.reduceAdd]; omega)) only [↓rD, rU, ev, ofConst, ofCell, ↓reduceIte, Nat.reduceEqDiff, Nat.reduceAdd, Nat.reduceSub, Nat.reduceMul, Nat.reduceLeDiff, Nat.reduceLT, Int.reduceNeg, Int.reduceToNat, Int.reduceAdd, Int.reduceSub, Int.reduceMul, Int.reduceLT, Int.reduceLE, Int.reduceEq, rX, List.drop_succ_cons, ↓rF, rG, ne_eq, not_true_eq_false, not_false_eq_true, Int.reduceNe, List.getElem?_cons_zero, List.getElem?_cons_succ, ↓rK, rM, lenTS, f0, f4, f5, f6, f9, f10, f11, hj, hixb, hcI]
                refine call_intro (rword_spec _ _) ?_
                rintro _ s8 ⟨rfl, rfl⟩
                rw [← htl3]
                cases tl with
                | true =>
                  simp (dsimp := false) (implicitDefEqProofs := false) (maxSteps := 1000000) (disch := first | omega | assumption | (simp only [rL, Nat.reduceAdd]; done) | (simp only [rL, Nat.reduceAdd]; omega)) only [↓rD, rU, ev, ofConst, ofCell, ↓reduceIte, Nat.reduceEqDiff, Nat.reduceAdd, Nat.reduceSub, Nat.reduceMul, Nat.reduceLeDiff, Nat.reduceLT, Int.reduceNeg, Int.reduceToNat, Int.reduceAdd, Int.reduceSub, Int.reduceMul, Int.reduceLT, Int.reduceLE, Int.reduceEq, rX, List.drop_succ_cons, ↓rF, rG, ne_eq, not_true_eq_false, not_false_eq_true, Int.reduceNe, List.getElem?_cons_zero, List.getElem?_cons_succ, ↓rK, rM, lenTS, f0, f4, f5, f6, f9, f10, f11]
                  exact ⟨_, Hp.sub_refl, by rw [herr 2 (by rw [htok, hnum, if_pos htl.symm])]; exact ⟨hown.sub, rfl⟩⟩
                | false =>
                  simp (dsimp := false) (implicitDefEqProofs := false) (maxSteps := 1000000) (disch := first | omega | assumption | (simp only [rL, Nat.reduceAdd]; done) | (simp only [rL, Nat.reduceAdd]; omega)) only [↓rD, rU, ev, ofConst, ofCell, ↓reduceIte, Nat.reduceEqDiff, Nat.reduceAdd, Nat.reduceSub, Nat.reduceMul, Nat.reduceLeDiff, Nat.reduceLT, Int.reduceNeg, Int.reduceToNat, Int.reduceAdd, Int.reduceSub, Int.reduceMul, Int.reduceLT, Int.reduceLE, Int.reduceEq, rX, List.drop_succ_cons, ↓rF, rG, ne_eq, not_true_eq_false, not_false_eq_true, Int.reduceNe, List.getElem?_cons_zero, List.getElem?_cons_succ, ↓rK, rM, lenTS, f0, f4, f5, f6, f9, f10, f11]
            · have : tl = false := by rw [htl, List.drop_of_length_le (by omega)]; rfl
              subst this
              simp (dsimp := false) (implicitDefEqProofs := false) (maxSteps := 1000000) (disch := first | omega | assumption | (simp only [rL, Nat.reduceAdd]; done) | (simp only [rL, Nat.reduceAdd]; omega)) only [↓rD, rU, ev, ofConst, ofCell, ↓reduceIte, Nat.reduceEqDiff, Nat.reduceAdd, Nat.reduceSub, Nat.reduceMul, Nat.reduceLeDiff, Nat.reduceLT, Int.reduceNeg, Int.reduceToNat, Int.reduceAdd, Int.reduceSub, Int.reduceMul, Int.reduceLT, Int.reduceLE, Int.reduceEq, rX, List.drop_succ_cons, ↓rF, rG, ne_eq, not_true_eq_false, not_false_eq_true, Int.reduceNe, List.getElem?_cons_zero, List.getElem?_cons_succ, ↓rK, rM, lenTS, f0, f4, f5, f6, f9, f10, f11, hj]
          clear f0 f4 f5 f6 f9 f10 f11
          rintro f s8 ⟨ht0, rfl, f0, f4, f5, f6, f9, f10, f11⟩
          rw [← htl, ht0, if_neg (by simp)] at hnum
          refine seq_cut (fun f s' => ¬ limOf m < D ∧ s' = s8 ∧ f 0 = strV l ∧ f 4 = .sl (TL acc) o ∧ f 5 = .v (.int .i64 ((k0 + ds.length : Nat) : Int)) ∧ f 6 = .v (.int .i64 (i : Nat)) ∧ f 9 = .v (.bool m) ∧ f 10 = .v (.int .u64 (D : Nat))) ?_ ?_
          · by_cases hov : limOf m < D
            · have hv : numV m D = .error 7 := by
                unfold limOf at hov; unfold numV
                cases m <;> simp only [Bool.false_eq_true, if_false, if_true] at hov ⊢ <;> rw [if_neg (by omega)]
              rw [hv] at hnum
              simp (dsimp := false) (implicitDefEqProofs := false) (maxSteps := 1000000) (disch := first | omega | assumption | (simp only [rL, Nat.reduceAdd]; done) | (simp only [rL, Nat.reduceAdd]; omega)) only [↓rD, rU, ev, ofConst, ofCell, ↓reduceIte, Nat.reduceEqDiff, Nat.reduceAdd, Nat.reduceSub, Nat.reduceMul, Nat.reduceLeDiff, Nat.reduceLT, Int.reduceNeg, Int.reduceToNat, Int.reduceAdd, Int.reduceSub, Int.reduceMul, Int.reduceLT, Int.reduceLE, Int.reduceEq, rX, List.drop_succ_cons, ↓rF, rG, ne_eq, not_true_eq_false, not_false_eq_true, Int.reduceNe, List.getElem?_cons_zero, List.getElem?_cons_succ, ↓rK, rM, f0, f4, f5, f6, f9, f10, f11, hov, decide_true]
              exact ⟨_, Hp.sub_refl, by rw [herr 7 (by rw [htok, hnum])]; exact ⟨hown.sub, rfl⟩⟩
            · rw [if_neg hov] at f10
              simp (dsimp := false) (implicitDefEqProofs := false) (maxSteps := 1000000) (disch := first | omega | assumption | (simp only [rL, Nat.reduceAdd]; done) | (simp only [rL, Nat.reduceAdd]; omega)) only [↓rD, rU, ev, ofConst, ofCell, ↓reduceIte, Nat.reduceEqDiff, Nat.reduceAdd, Nat.reduceSub, Nat.reduceMul, Nat.reduceLeDiff, Nat.reduceLT, Int.reduceNeg, Int.reduceToNat, Int.reduceAdd, Int.reduceSub, Int.reduceMul, Int.reduceLT, Int.reduceLE, Int.reduceEq, rX, List.drop_succ_cons, ↓rF, rG, ne_eq, not_true_eq_false, not_false_eq_true, Int.reduceNe, List.getElem?_cons_zero, List.getElem?_cons_succ, ↓rK, rM, f0, f4, f5, f6, f9, f10, f11, hov, decide_false]
          clear f0 f4 f5 f6 f9 f10 f11
          rintro f s8 ⟨hov, rfl, f0, f4, f5, f6, f9, f10⟩
          obtain ⟨v, hv⟩ : ∃ v : Int, v = if m then -(D : Int) else (D : Int) := ⟨_, rfl⟩
          have hvn : numV m D = .ok v := by
            unfold limOf at hov; unfold numV
            cases m <;> simp only [Bool.false_eq_true, if_false, if_true] at hov hv ⊢ <;> rw [if_pos (by omega), hv]
          obtain ⟨hv0, hv1⟩ := numV_ok hvn
          rw [hvn] at hnum
          refine seq_cut (fun f s' => s' = s8 ∧ f 0 = strV l ∧ f 4 = .sl (TL acc) o ∧ f 5 = .v (.int .i64 ((k0 + ds.length : Nat) : Int)) ∧ f 6 = .v (.int .i64 (i : Nat)) ∧ f 9 = .v (.bool m) ∧ f 13 = .v (.int .i64 (IntKind.i64.wrap (D : Int)))) ?_ ?_
          · simp (dsimp := false) (implicitDefEqProofs := false) (maxSteps := 1000000) (disch := first | omega | assumption | (simp only [rL, Nat.reduceAdd]; done) | (simp only [rL, Nat.reduceAdd]; omega)) only [↓rD, rU, ev, ofConst, ofCell, ↓reduceIte, Nat.reduceEqDiff, Nat.reduceAdd, Nat.reduceSub, Nat.reduceMul, Nat.reduceLeDiff, Nat.reduceLT, Int.reduceNeg, Int.reduceToNat, Int.reduceAdd, Int.reduceSub, Int.reduceMul, Int.reduceLT, Int.reduceLE, Int.reduceEq, rX, List.drop_succ_cons, ↓rF, rG, ne_eq, not_true_eq_false, not_false_eq_true, Int.reduceNe, List.getElem?_cons_zero, List.getElem?_cons_succ, ↓rK, rM, f0, f4, f5, f6, f9, f10]
          clear f0 f4 f5 f6 f9 f10
          rintro f s8 ⟨rfl, f0, f4, f5, f6, f9, f13⟩
          refine seq_cut (fun f s' => s' = s8 ∧ f 0 = strV l ∧ f 4 = .sl (TL acc) o ∧ f 5 = .v (.int .i64 ((k0 + ds.length : Nat) : Int)) ∧ f 6 = .v (.int .i64 (i : Nat)) ∧ f 13 = .v (.int .i64 v)) ?_ ?_
          · unfold limOf at hov
            cases m with
            | true =>
              have w1 : unV .neg (.int .i64 (IntKind.i64.wrap (D : Int))) = some (.int .i64 v) := by
                simp only [unV]; rw [hv, if_pos rfl]; congr 2
                rw [if_pos rfl] at hov
                by_cases hE : D = 9223372036854775808
                · subst hE; rfl
                · rw [wrap_i64 (n := (D : Int)) (by omega) (by omega), wrap_i64 (by omega) (by omega)]; omega
              simp (dsimp := false) (implicitDefEqProofs := false) (maxSteps := 1000000) (disch := first | omega | assumption | (simp only [rL, Nat.reduceAdd]; done) | (simp only [rL, Nat.reduceAdd]; omega)) only [↓rD, rU, ev, ofConst, ofCell, ↓reduceIte, Nat.reduceEqDiff, Nat.reduceAdd, Nat.reduceSub, Nat.reduceMul, Nat.reduceLeDiff, Nat.reduceLT, Int.reduceNeg, Int.reduceToNat, Int.reduceAdd, Int.reduceSub, Int.reduceMul, Int.reduceLT, Int.reduceLE, Int.reduceEq, rX, List.drop_succ_cons, ↓rF, rG, ne_eq, not_true_eq_false, not_false_eq_true, Int.reduceNe, List.getElem?_cons_zero, List.getElem?_cons_succ, ↓rK, rM, f0, f4, f5, f6, f9, f13, w1]
            | false =>
              have w1 : IntKind.i64.wrap (D : Int) = v := by
                simp only [Bool.false_eq_true, if_false] at hov hv
                rw [hv, wrap_i64 (by omega) (by omega)]
              rw [w1] at f13
              simp (dsimp := false) (implicitDefEqProofs := false) (maxSteps := 1000000) (disch := first | omega | assumption | (simp only [rL, Nat.reduceAdd]; done) | (simp only [rL, Nat.reduceAdd]; omega)) only [↓rD, rU, ev, ofConst, ofCell, ↓reduceIte, Nat.reduceEqDiff, Nat.reduceAdd, Nat.reduceSub, Nat.reduceMul, Nat.reduceLeDiff, Nat.reduceLT, Int.reduceNeg, Int.reduceToNat, Int.reduceAdd, Int.reduceSub, Int.reduceMul, Int.reduceLT, Int.reduceLE, Int.reduceEq, rX, List.drop_succ_cons, ↓rF, rG, ne_eq, not_true_eq_false, not_false_eq_true, Int.reduceNe, List.getElem?_cons_zero, List.getElem?_cons_succ, ↓rK, rM, f0, f4, f5, f6, f9, f13]
          clear f0 f4 f5 f6 f9 f13
          rintro f s8 ⟨rfl, f0, f4, f5, f6, f13⟩
          simp (dsimp := false) (implicitDefEqProofs := false) (maxSteps := 1000000) (disch := first | omega | assumption | (simp only [rL, Nat.reduceAdd]; done) | (simp only [rL, Nat.reduceAdd]; omega)) only [↓rD, rU, ev, ofConst, ofCell, ↓reduceIte, Nat.reduceEqDiff, Nat.reduceAdd, Nat.reduceSub, Nat.reduceMul, Nat.reduceLeDiff, Nat.reduceLT, Int.reduceNeg, Int.reduceToNat, Int.reduceAdd, Int.reduceSub, Int.reduceMul, Int.reduceLT, Int.reduceLE, Int.reduceEq, rX, List.drop_succ_cons, ↓rF, rG, ne_eq, not_true_eq_false, not_false_eq_true, Int.reduceNe, List.getElem?_cons_zero, List.getElem?_cons_succ, ↓rK, rM, f0, f4, f5, f6, f13]
          refine call_intro (Digits_spec v hv0 (by omega) _) ?_
          rintro _ s9 ⟨h9, rfl⟩
          simp (dsimp := false) (implicitDefEqProofs := false) (maxSteps := 1000000) (disch := first | omega | assumption | (simp only [rL, Nat.reduceAdd]; done) | (simp only [rL, Nat.reduceAdd]; omega)) only [↓rD, rU, ev, ofConst, ofCell, ↓reduceIte, Nat.reduceEqDiff, Nat.reduceAdd, Nat.reduceSub, Nat.reduceMul, Nat.reduceLeDiff, Nat.reduceLT, Int.reduceNeg, Int.reduceToNat, Int.reduceAdd, Int.reduceSub, Int.reduceMul, Int.reduceLT, Int.reduceLE, Int.reduceEq, rX, List.drop_succ_cons, ↓rF, rG, ne_eq, not_true_eq_false, not_false_eq_true, Int.reduceNe, List.getElem?_cons_zero, List.getElem?_cons_succ, ↓rK, rM, f0, f4, f5, f6, f13, rTok, cells_strv]
          refine bsl_own Hp.sub_refl ?_ fun o1 s4 h4 => ?_
          · intro e he; simp at he; subst he; rfl
          simp (dsimp := false) (implicitDefEqProofs := false) (maxSteps := 1000000) (disch := first | omega | assumption | (simp only [rL, Nat.reduceAdd]; done) | (simp only [rL, Nat.reduceAdd]; omega)) only [↓rD, rU, ev, ofConst, ofCell, ↓reduceIte, Nat.reduceEqDiff, Nat.reduceAdd, Nat.reduceSub, Nat.reduceMul, Nat.reduceLeDiff, Nat.reduceLT, Int.reduceNeg, Int.reduceToNat, Int.reduceAdd, Int.reduceSub, Int.reduceMul, Int.reduceLT, Int.reduceLE, Int.reduceEq, rX, List.drop_succ_cons, ↓rF, rG, ne_eq, not_true_eq_false, not_false_eq_true, Int.reduceNe, List.getElem?_cons_zero, List.getElem?_cons_succ, ↓rK, rM, f0, f4, f5, f6, f13]
          refine app_own (hown.mono (Hp.sub_trans h9 h4.sub)) TL_len ?_ (by simp [hlenT]; omega) (by simp [hlenT]; omega) fun o4 s5 h5 => ?_
          · intro e he; simp at he; subst he; rfl
          have eacc : TL acc ++ [(⟨2, itoaS v, v⟩ : Tok).V i] = TL (acc ++ [(⟨2, itoaS v, v⟩, i)]) := by simp [TL]
          rw [eacc] at h5 ⊢
          simp (dsimp := false) (implicitDefEqProofs := false) (maxSteps := 1000000) (disch := first | omega | assumption | (simp only [rL, Nat.reduceAdd]; done) | (simp only [rL, Nat.reduceAdd]; omega)) only [↓rD, rU, ev, ofConst, ofCell, ↓reduceIte, Nat.reduceEqDiff, Nat.reduceAdd, Nat.reduceSub, Nat.reduceMul, Nat.reduceLeDiff, Nat.reduceLT, Int.reduceNeg, Int.reduceToNat, Int.reduceAdd, Int.reduceSub, Int.reduceMul, Int.reduceLT, Int.reduceLE, Int.reduceEq, rX, List.drop_succ_cons, ↓rF, rG, ne_eq, not_true_eq_false, not_false_eq_true, Int.reduceNe, List.getElem?_cons_zero, List.getElem?_cons_succ, ↓rK, rM, f0, f4, f5, M5]
          have ht : tokP (l.drop i) = .ok (⟨2, itoaS v, v⟩, sg (l.drop i) + nDig (l.drop i)) := by rw [htok, hnum]
          have hpos := (tokP_n hne ht).1
          have ek : k0 + ds.length = i + (sg (l.drop i) + nDig (l.drop i)) := by omega
          refine ⟨⟨k0 + ds.length, acc ++ [(⟨2, itoaS v, v⟩, i)], o4, by omega, ?_, by simp; omega, h5, rfl, rfl⟩, by omega⟩
          rw [ek, ← List.drop_drop, adv hne hsk ht hNi, happ]
        · intro hN
          simp (dsimp := false) (implicitDefEqProofs := false) (maxSteps := 1000000) (disch := first | omega | assumption | (simp only [rL, Nat.reduceAdd]; done) | (simp only [rL, Nat.reduceAdd]; omega)) only [↓rD, rU, ev, ofConst, ofCell, ↓reduceIte, Nat.reduceEqDiff, Nat.reduceAdd, Nat.reduceSub, Nat.reduceMul, Nat.reduceLeDiff, Nat.reduceLT, Int.reduceNeg, Int.reduceToNat, Int.reduceAdd, Int.reduceSub, Int.reduceMul, Int.reduceLT, Int.reduceLE, Int.reduceEq, rX, List.drop_succ_cons, ↓rF, rG, ne_eq, not_true_eq_false, not_false_eq_true, Int.reduceNe, List.getElem?_cons_zero, List.getElem?_cons_succ, ↓rK, rM, f0, f4, f5, f6]
          exact hN
        clear f0 f4 f5 f6 f121
        rintro f s4 ⟨hN, rfl, f0, f4, f5, f6⟩
        have htok : tokP (l.drop i) = (match signs.find? (fun p => isPre p (l.drop i)) with | some p => .ok (⟨3, p, 0⟩, p.length) | none => .error 2) := by
          have hL' : nxt letterR (l.drop i) = false := by rw [hq]; exact hL
          rw [tokP, hL', if_neg (by simp), hnD, hh, hd1, ← hisnum, hN, if_neg (by simp)]
          cases signs.find? (fun p => isPre p (l.drop i)) <;> rfl
        have herr : ∀ e, tokP (l.drop i) = .error e → lexQ l.length l = .error e := fun e h => by rw [← happ, lexQ_err hne hsk h]; rfl
        refine seq_cut (fun f s' => s' = s4 ∧ f 0 = strV l ∧ f 4 = .sl (TL acc) o ∧ f 5 = .v (.int .i64 (i : Nat)) ∧ f 6 = .v (.int .i64 (i : Nat)) ∧ f 14 = strV []) ?_ ?_
        · simp (dsimp := false) (implicitDefEqProofs := false) (maxSteps := 1000000) (disch := first | omega | assumption | (simp only [rL, Nat.reduceAdd]; done) | (simp only [rL, Nat.reduceAdd]; omega)) only [↓rD, rU, ev, ofConst, ofCell, ↓reduceIte, Nat.reduceEqDiff, Nat.reduceAdd, Nat.reduceSub, Nat.reduceMul, Nat.reduceLeDiff, Nat.reduceLT, Int.reduceNeg, Int.reduceToNat, Int.reduceAdd, Int.reduceSub, Int.reduceMul, Int.reduceLT, Int.reduceLE, Int.reduceEq, rX, List.drop_succ_cons, ↓rF, rG, ne_eq, not_true_eq_false, not_false_eq_true, Int.reduceNe, List.getElem?_cons_zero, List.getElem?_cons_succ, ↓rK, rM, f0, f4, f5, f6]
          rfl
        clear f0 f4 f5 f6
        rintro f s5 ⟨rfl, f0, f4, f5, f6, f14⟩
        obtain ⟨two, htwo⟩ : ∃ x, x = (if r = [] then [] else (l.drop i).take 2) := ⟨_, rfl⟩
        refine seq_cut (fun f s' => s' = s5 ∧ f 0 = strV l ∧ f 4 = .sl (TL acc) o ∧ f 5 = .v (.int .i64 (i : Nat)) ∧ f 6 = .v (.int .i64 (i : Nat)) ∧ f 14 = strV two) ?_ ?_
        · by_cases hz : (i : Int) + 1 < (l.length : Int)
          · have hr0 : r ≠ [] := by rintro rfl; simp at hrl; omega
            rw [if_neg hr0] at htwo
            have hz2 : (i : Int) + 2 ≤ (l.length : Int) := by omega
            have hsl : slcSA (strV l) (some (.v (.int .i64 (i : Int)))) (some (.v (.int .i64 ((i : Int) + 2)))) = some (strV two) := by
              rw [htwo]
              simp only [strV]
              simp (dsimp := false) (implicitDefEqProofs := false) (maxSteps := 1000000) (disch := first | omega | assumption | (simp only [rL, Nat.reduceAdd]; done) | (simp only [rL, Nat.reduceAdd]; omega)) only [↓rD, rU, ev, ofConst, ofCell, ↓reduceIte, Nat.reduceEqDiff, Nat.reduceAdd, Nat.reduceSub, Nat.reduceMul, Nat.reduceLeDiff, Nat.reduceLT, Int.reduceNeg, Int.reduceToNat, Int.reduceAdd, Int.reduceSub, Int.reduceMul, Int.reduceLT, Int.reduceLE, Int.reduceEq, rX, List.drop_succ_cons, ↓rF, rG, ne_eq, not_true_eq_false, not_false_eq_true, Int.reduceNe, List.getElem?_cons_zero, List.getElem?_cons_succ, ↓rK, rM]
              have e2 : ((i : Int) + 2).toNat = i + 2 := by omega
              rw [e2, List.drop_take, show i + 2 - i = 2 by omega]
            simp (dsimp := false) (implicitDefEqProofs := false) (maxSteps := 1000000) (disch := first | omega | assumption | (simp only [rL, Nat.reduceAdd]; done) | (simp only [rL, Nat.reduceAdd]; omega)) only [↓rD, rU, ev, ofConst, ofCell, ↓reduceIte, Nat.reduceEqDiff, Nat.reduceAdd, Nat.reduceSub, Nat.reduceMul, Nat.reduceLeDiff, Nat.reduceLT, Int.reduceNeg, Int.reduceToNat, Int.reduceAdd, Int.reduceSub, Int.reduceMul, Int.reduceLT, Int.reduceLE, Int.reduceEq, rX, List.drop_succ_cons, ↓rF, rG, ne_eq, not_true_eq_false, not_false_eq_true, Int.reduceNe, List.getElem?_cons_zero, List.getElem?_cons_succ, ↓rK, rM, lenTS, f0, f4, f5, f6, f14, hz, hsl]
          · have hr0 : r = [] := by cases r with
              | nil => rfl
              | cons d r2 => simp at hrl; omega
            rw [if_pos hr0] at htwo
            subst htwo
            simp (dsimp := false) (implicitDefEqProofs := false) (maxSteps := 1000000) (disch := first | omega | assumption | (simp only [rL, Nat.reduceAdd]; done) | (simp only [rL, Nat.reduceAdd]; omega)) only [↓rD, rU, ev, ofConst, ofCell, ↓reduceIte, Nat.reduceEqDiff, Nat.reduceAdd, Nat.reduceSub, Nat.reduceMul, Nat.reduceLeDiff, Nat.reduceLT, Int.reduceNeg, Int.reduceToNat, Int.reduceAdd, Int.reduceSub, Int.reduceMul, Int.reduceLT, Int.reduceLE, Int.reduceEq, rX, List.drop_succ_cons, ↓rF, rG, ne_eq, not_true_eq_false, not_false_eq_true, Int.reduceNe, List.getElem?_cons_zero, List.getElem?_cons_succ, ↓rK, rM, lenTS, f0, f4, f5, f6, f14, hz]
        clear f0 f4 f5 f6 f14
        rintro f s5 ⟨rfl, f0, f4, f5, f6, f14⟩
        obtain ⟨isTwo, hisTwo⟩ : ∃ b, b = (decide (two = [60, 61]) || decide (two = [62, 61])) := ⟨_, rfl⟩
        have g60 : binA .eql (strV two) (.v (.string ⟨#[60, 61]⟩)) = some (.v (.bool (decide (two = [60, 61])))) := binA_eqlS
        have g62 : binA .eql (strV two) (.v (.string ⟨#[62, 61]⟩)) = some (.v (.bool (decide (two = [62, 61])))) := binA_eqlS
        rw [awp_seq]
        refine seq_cut (fun f s' => s' = s5 ∧ f 0 = strV l ∧ f 4 = .sl (TL acc) o ∧ f 5 = .v (.int .i64 (i : Nat)) ∧ f 6 = .v (.int .i64 (i : Nat)) ∧ f 14 = strV two ∧ f 208 = .v (.bool isTwo)) ?_ ?_
        · by_cases h1 : two = [60, 61]
          · have : isTwo = true := by rw [hisTwo]; simp [h1]
            subst this
            rw [decide_eq_true h1] at g60
            simp (dsimp := false) (implicitDefEqProofs := false) (maxSteps := 1000000) (disch := first | omega | assumption | (simp only [rL, Nat.reduceAdd]; done) | (simp only [rL, Nat.reduceAdd]; omega)) only [↓rD, rU, ev, ofConst, ofCell, ↓reduceIte, Nat.reduceEqDiff, Nat.reduceAdd, Nat.reduceSub, Nat.reduceMul, Nat.reduceLeDiff, Nat.reduceLT, Int.reduceNeg, Int.reduceToNat, Int.reduceAdd, Int.reduceSub, Int.reduceMul, Int.reduceLT, Int.reduceLE, Int.reduceEq, rX, List.drop_succ_cons, ↓rF, rG, ne_eq, not_true_eq_false, not_false_eq_true, Int.reduceNe, List.getElem?_cons_zero, List.getElem?_cons_succ, ↓rK, rM, f0, f4, f5, f6, f14, g60]
          · rw [decide_eq_false h1] at g60
            by_cases h2 : two = [62, 61]
            · have : isTwo = true := by rw [hisTwo]; simp [h2]
              subst this
              rw [decide_eq_true h2] at g62
              simp (dsimp := false) (implicitDefEqProofs := false) (maxSteps := 1000000) (disch := first | omega | assumption | (simp only [rL, Nat.reduceAdd]; done) | (simp only [rL, Nat.reduceAdd]; omega)) only [↓rD, rU, ev, ofConst, ofCell, ↓reduceIte, Nat.reduceEqDiff, Nat.reduceAdd, Nat.reduceSub, Nat.reduceMul, Nat.reduceLeDiff, Nat.reduceLT, Int.reduceNeg, Int.reduceToNat, Int.reduceAdd, Int.reduceSub, Int.reduceMul, Int.reduceLT, Int.reduceLE, Int.reduceEq, rX, List.drop_succ_cons, ↓rF, rG, ne_eq, not_true_eq_false, not_false_eq_true, Int.reduceNe, List.getElem?_cons_zero, List.getElem?_cons_succ, ↓rK, rM, f0, f4, f5, f6, f14, g60, g62]
            · have : isTwo = false := by rw [hisTwo]; simp [h1, h2]
              subst this
              rw [decide_eq_false h2] at g62
              simp (dsimp := false) (implicitDefEqProofs := false) (maxSteps := 1000000) (disch := first | omega | assumption | (simp only [rL, Nat.reduceAdd]; done) | (simp only [rL, Nat.reduceAdd]; omega)) only [↓rD, rU, ev, ofConst, ofCell, ↓reduceIte, Nat.reduceEqDiff, Nat.reduceAdd, Nat.reduceSub, Nat.reduceMul, Nat.reduceLeDiff, Nat.reduceLT, Int.reduceNeg, Int.reduceToNat, Int.reduceAdd, Int.reduceSub, Int.reduceMul, Int.reduceLT, Int.reduceLE, Int.reduceEq, rX, List.drop_succ_cons, ↓rF, rG, ne_eq, not_true_eq_false, not_false_eq_true, Int.reduceNe, List.getElem?_cons_zero, List.getElem?_cons_succ, ↓rK, rM, f0, f4, f5, f6, f14, g60, g62]
        clear f0 f4 f5 f6 f14
        rintro f s5 ⟨rfl, f0, f4, f5, f6, f14, f208⟩
        simp (dsimp := false) (implicitDefEqProofs := false) (maxSteps := 1000000) (disch := first | omega | assumption | (simp only [rL, Nat.reduceAdd]; done) | (simp only [rL, Nat.reduceAdd]; omega)) only [↓rD, rU, ev, ofConst, ofCell, ↓reduceIte, Nat.reduceEqDiff, Nat.reduceAdd, Nat.reduceSub, Nat.reduceMul, Nat.reduceLeDiff, Nat.reduceLT, Int.reduceNeg, Int.reduceToNat, Int.reduceAdd, Int.reduceSub, Int.reduceMul, Int.reduceLT, Int.reduceLE, Int.reduceEq, rX, List.drop_succ_cons, ↓rF, rG, ne_eq, not_true_eq_false, not_false_eq_true, Int.reduceNe, List.getElem?_cons_zero, List.getElem?_cons_succ, ↓rK, rM, f0, f4, f5, f6, f14, f208]
        refine cond_join (fun f s' => isTwo = false ∧ s' = s5 ∧ f 0 = strV l ∧ f 4 = .sl (TL acc) o ∧ f 5 = .v (.int .i64 (i : Nat)) ∧ f 6 = .v (.int .i64 (i : Nat))) ?_ ?_ ?_
        · intro hT
          obtain ⟨d, r2, hr2⟩ : ∃ d r2, r = d :: r2 := by
            cases r with
            | nil => rw [if_pos rfl] at htwo; subst htwo; rw [hisTwo] at hT; simp at hT
            | cons d r2 => exact ⟨d, r2, rfl⟩
          have htw2 : two = [c, d] := by rw [htwo, if_neg (by rw [hr2]; simp), hq, hr2]; rfl
          rw [hisTwo, htw2] at hT
          simp only [Bool.or_eq_true, decide_eq_true_eq, List.cons.injEq, and_true] at hT
          have hcd : (c = 60 ∨ c = 62) ∧ d = 61 := by
            rcases hT with ⟨h1, h2⟩ | ⟨h1, h2⟩
            · exact ⟨.inl h1, h2⟩
            · exact ⟨.inr h1, h2⟩
          have ht : tokP (l.drop i) = .ok (⟨3, two, 0⟩, 2) := by
            rw [htok, hq, hr2, sign_two hcd.1 hcd.2, htw2]; rfl
          have hlen2 : i + 2 ≤ l.length := by rw [hr2] at hrl; simp at hrl; omega
          simp (dsimp := false) (implicitDefEqProofs := false) (maxSteps := 1000000) (disch := first | omega | assumption | (simp only [rL, Nat.reduceAdd]; done) | (simp only [rL, Nat.reduceAdd]; omega)) only [↓rD, rU, ev, ofConst, ofCell, ↓reduceIte, Nat.reduceEqDiff, Nat.reduceAdd, Nat.reduceSub, Nat.reduceMul, Nat.reduceLeDiff, Nat.reduceLT, Int.reduceNeg, Int.reduceToNat, Int.reduceAdd, Int.reduceSub, Int.reduceMul, Int.reduceLT, Int.reduceLE, Int.reduceEq, rX, List.drop_succ_cons, ↓rF, rG, ne_eq, not_true_eq_false, not_false_eq_true, Int.reduceNe, List.getElem?_cons_zero, List.getElem?_cons_succ, ↓rK, rM, f0, f4, f5, f6, f14, rTok, cells_strv]
          refine bsl_own Hp.sub_refl ?_ fun o1 s6 h6 => ?_
          · intro e he; simp at he; subst he; rfl
          simp (dsimp := false) (implicitDefEqProofs := false) (maxSteps := 1000000) (disch := first | omega | assumption | (simp only [rL, Nat.reduceAdd]; done) | (simp only [rL, Nat.reduceAdd]; omega)) only [↓rD, rU, ev, ofConst, ofCell, ↓reduceIte, Nat.reduceEqDiff, Nat.reduceAdd, Nat.reduceSub, Nat.reduceMul, Nat.reduceLeDiff, Nat.reduceLT, Int.reduceNeg, Int.reduceToNat, Int.reduceAdd, Int.reduceSub, Int.reduceMul, Int.reduceLT, Int.reduceLE, Int.reduceEq, rX, List.drop_succ_cons, ↓rF, rG, ne_eq, not_true_eq_false, not_false_eq_true, Int.reduceNe, List.getElem?_cons_zero, List.getElem?_cons_succ, ↓rK, rM, f0, f4, f5, f6]
          refine app_own (hown.mono h6.sub) TL_len ?_ (by simp [hlenT]; omega) (by simp [hlenT]; omega) fun o4 s7 h7 => ?_
          · intro e he; simp at he; subst he; rfl
          have eacc : TL acc ++ [(⟨3, two, zTok.num⟩ : Tok).V i] = TL (acc ++ [(⟨3, two, 0⟩, i)]) := by simp [TL, zTok]
          rw [eacc] at h7 ⊢
          simp (dsimp := false) (implicitDefEqProofs := false) (maxSteps := 1000000) (disch := first | omega | assumption | (simp only [rL, Nat.reduceAdd]; done) | (simp only [rL, Nat.reduceAdd]; omega)) only [↓rD, rU, ev, ofConst, ofCell, ↓reduceIte, Nat.reduceEqDiff, Nat.reduceAdd, Nat.reduceSub, Nat.reduceMul, Nat.reduceLeDiff, Nat.reduceLT, Int.reduceNeg, Int.reduceToNat, Int.reduceAdd, Int.reduceSub, Int.reduceMul, Int.reduceLT, Int.reduceLE, Int.reduceEq, rX, List.drop_succ_cons, ↓rF, rG, ne_eq, not_true_eq_false, not_false_eq_true, Int.reduceNe, List.getElem?_cons_zero, List.getElem?_cons_succ, ↓rK, rM, f0, f4, f5, M5]
          refine ⟨⟨i + 2, acc ++ [(⟨3, two, 0⟩, i)], o4, by omega, ?_, by simp; omega, h7, by simp⟩, by omega⟩
          rw [← List.drop_drop, adv hne hsk ht hNi, happ]
        · intro hT
          simp (dsimp := false) (implicitDefEqProofs := false) (maxSteps := 1000000) (disch := first | omega | assumption | (simp only [rL, Nat.reduceAdd]; done) | (simp only [rL, Nat.reduceAdd]; omega)) only [↓rD, rU, ev, ofConst, ofCell, ↓reduceIte, Nat.reduceEqDiff, Nat.reduceAdd, Nat.reduceSub, Nat.reduceMul, Nat.reduceLeDiff, Nat.reduceLT, Int.reduceNeg, Int.reduceToNat, Int.reduceAdd, Int.reduceSub, Int.reduceMul, Int.reduceLT, Int.reduceLE, Int.reduceEq, rX, List.drop_succ_cons, ↓rF, rG, ne_eq, not_true_eq_false, not_false_eq_true, Int.reduceNe, List.getElem?_cons_zero, List.getElem?_cons_succ, ↓rK, rM, f0, f4, f5, f6]
          exact hT
        clear f0 f4 f5 f6 f14 f208
        rintro f s6 ⟨hT, rfl, f0, f4, f5, f6⟩
        have hone : signs.find? (fun p => isPre p (c :: r)) = if one7 c then some [c] else none := by
          rw [hisTwo] at hT
          simp only [Bool.or_eq_false_iff, decide_eq_false_iff_not] at hT
          cases hrr : r with
          | nil => exact sign_one (by simp) (by simp)
          | cons d r2 =>
            rw [htwo, if_neg (by rw [hrr]; simp), hq, hrr] at hT
            exact sign_one hT.1 hT.2
        rw [hq, hone] at htok
        refine seq_cut (fun f s' => s' = s6 ∧ f 0 = strV l ∧ f 4 = .sl (TL acc) o ∧ f 5 = .v (.int .i64 (i : Nat)) ∧ f 6 = .v (.int .i64 (i : Nat)) ∧ f 15 = .v (.int .u8 c.toNat)) ?_ ?_
        · simp (dsimp := false) (implicitDefEqProofs := false) (maxSteps := 1000000) (disch := first | omega | assumption | (simp only [rL, Nat.reduceAdd]; done) | (simp only [rL, Nat.reduceAdd]; omega)) only [↓rD, rU, ev, ofConst, ofCell, ↓reduceIte, Nat.reduceEqDiff, Nat.reduceAdd, Nat.reduceSub, Nat.reduceMul, Nat.reduceLeDiff, Nat.reduceLT, Int.reduceNeg, Int.reduceToNat, Int.reduceAdd, Int.reduceSub, Int.reduceMul, Int.reduceLT, Int.reduceLE, Int.reduceEq, rX, List.drop_succ_cons, ↓rF, rG, ne_eq, not_true_eq_false, not_false_eq_true, Int.reduceNe, List.getElem?_cons_zero, List.getElem?_cons_succ, ↓rK, rM, f0, f4, f5, f6, hix]
        clear f0 f4 f5 f6
        rintro f s7 ⟨rfl, f0, f4, f5, f6, f15⟩
        have hI : ∀ (n : Nat) (m : UInt8), m.toNat = n → ¬ c = m → ¬ ((c.toNat : Nat) : Int) = (n : Int) := fun n m h1 h2 h => h2 ((u8_eq h1).1 h)
        refine seq_cut (fun f s' => one7 c = true ∧ s' = s7 ∧ f 0 = strV l ∧ f 4 = .sl (TL acc) o ∧ f 5 = .v (.int .i64 (i : Nat)) ∧ f 6 = .v (.int .i64 (i : Nat)) ∧ f 15 = .v (.int .u8 c.toNat)) ?_ ?_
        · by_cases a0 : c = 40
          · have t : ((c.toNat : Nat) : Int) = 40 := (u8_eq (m := 40) (n := 40) rfl).2 a0
            have h7 : one7 c = true := by simp [one7, a0]
            simp (dsimp := false) (implicitDefEqProofs := false) (maxSteps := 1000000) (disch := first | omega | assumption | (simp only [rL, Nat.reduceAdd]; done) | (simp only [rL, Nat.reduceAdd]; omega)) only [↓rD, rU, ev, ofConst, ofCell, ↓reduceIte, Nat.reduceEqDiff, Nat.reduceAdd, Nat.reduceSub, Nat.reduceMul, Nat.reduceLeDiff, Nat.reduceLT, Int.reduceNeg, Int.reduceToNat, Int.reduceAdd, Int.reduceSub, Int.reduceMul, Int.reduceLT, Int.reduceLE, Int.reduceEq, rX, List.drop_succ_cons, ↓rF, rG, ne_eq, not_true_eq_false, not_false_eq_true, Int.reduceNe, List.getElem?_cons_zero, List.getElem?_cons_succ, ↓rK, rM, f0, f4, f5, f6, f15, t]
            exact h7
          have n0 : ¬ ((c.toNat : Nat) : Int) = 40 := hI 40 40 rfl a0
          by_cases a1 : c = 41
          · have t : ((c.toNat : Nat) : Int) = 41 := (u8_eq (m := 41) (n := 41) rfl).2 a1
            have h7 : one7 c = true := by simp [one7, a1]
            simp (dsimp := false) (implicitDefEqProofs := false) (maxSteps := 1000000) (disch := first | omega | assumption | (simp only [rL, Nat.reduceAdd]; done) | (simp only [rL, Nat.reduceAdd]; omega)) only [↓rD, rU, ev, ofConst, ofCell, ↓reduceIte, Nat.reduceEqDiff, Nat.reduceAdd, Nat.reduceSub, Nat.reduceMul, Nat.reduceLeDiff, Nat.reduceLT, Int.reduceNeg, Int.reduceToNat, Int.reduceAdd, Int.reduceSub, Int.reduceMul, Int.reduceLT, Int.reduceLE, Int.reduceEq, rX, List.drop_succ_cons, ↓rF, rG, ne_eq, not_true_eq_false, not_false_eq_true, Int.reduceNe, List.getElem?_cons_zero, List.getElem?_cons_succ, ↓rK, rM, f0, f4, f5, f6, f15, t]
            exact h7
          have n1 : ¬ ((c.toNat : Nat) : Int) = 41 := hI 41 41 rfl a1
          by_cases a2 : c = 44
          · have t : ((c.toNat : Nat) : Int) = 44 := (u8_eq (m := 44) (n := 44) rfl).2 a2
            have h7 : one7 c = true := by simp [one7, a2]
            simp (dsimp := false) (implicitDefEqProofs := false) (maxSteps := 1000000) (disch := first | omega | assumption | (simp only [rL, Nat.reduceAdd]; done) | (simp only [rL, Nat.reduceAdd]; omega)) only [↓rD, rU, ev, ofConst, ofCell, ↓reduceIte, Nat.reduceEqDiff, Nat.reduceAdd, Nat.reduceSub, Nat.reduceMul, Nat.reduceLeDiff, Nat.reduceLT, Int.reduceNeg, Int.reduceToNat, Int.reduceAdd, Int.reduceSub, Int.reduceMul, Int.reduceLT, Int.reduceLE, Int.reduceEq, rX, List.drop_succ_cons, ↓rF, rG, ne_eq, not_true_eq_false, not_false_eq_true, Int.reduceNe, List.getElem?_cons_zero, List.getElem?_cons_succ, ↓rK, rM, f0, f4, f5, f6, f15, t]
            exact h7
          have n2 : ¬ ((c.toNat : Nat) : Int) = 44 := hI 44 44 rfl a2
          by_cases a3 : c = 42
          · have t : ((c.toNat : Nat) : Int) = 42 := (u8_eq (m := 42) (n := 42) rfl).2 a3
            have h7 : one7 c = true := by simp [one7, a3]
            simp (dsimp := false) (implicitDefEqProofs := false) (maxSteps := 1000000) (disch := first | omega | assumption | (simp only [rL, Nat.reduceAdd]; done) | (simp only [rL, Nat.reduceAdd]; omega)) only [↓rD, rU, ev, ofConst, ofCell, ↓reduceIte, Nat.reduceEqDiff, Nat.reduceAdd, Nat.reduceSub, Nat.reduceMul, Nat.reduceLeDiff, Nat.reduceLT, Int.reduceNeg, Int.reduceToNat, Int.reduceAdd, Int.reduceSub, Int.reduceMul, Int.reduceLT, Int.reduceLE, Int.reduceEq, rX, List.drop_succ_cons, ↓rF, rG, ne_eq, not_true_eq_false, not_false_eq_true, Int.reduceNe, List.getElem?_cons_zero, List.getElem?_cons_succ, ↓rK, rM, f0, f4, f5, f6, f15, t]
            exact h7
          have n3 : ¬ ((c.toNat : Nat) : Int) = 42 := hI 42 42 rfl a3
          by_cases a4 : c = 61
          · have t : ((c.toNat : Nat) : Int) = 61 := (u8_eq (m := 61) (n := 61) rfl).2 a4
            have h7 : one7 c = true := by simp [one7, a4]
            simp (dsimp := false) (implicitDefEqProofs := false) (maxSteps := 1000000) (disch := first | omega | assumption | (simp only [rL, Nat.reduceAdd]; done) | (simp only [rL, Nat.reduceAdd]; omega)) only [↓rD, rU, ev, ofConst, ofCell, ↓reduceIte, Nat.reduceEqDiff, Nat.reduceAdd, Nat.reduceSub, Nat.reduceMul, Nat.reduceLeDiff, Nat.reduceLT, Int.reduceNeg, Int.reduceToNat, Int.reduceAdd, Int.reduceSub, Int.reduceMul, Int.reduceLT, Int.reduceLE, Int.reduceEq, rX, List.drop_succ_cons, ↓rF, rG, ne_eq, not_true_eq_false, not_false_eq_true, Int.reduceNe, List.getElem?_cons_zero, List.getElem?_cons_succ, ↓rK, rM, f0, f4, f5, f6, f15, t]
            exact h7
          have n4 : ¬ ((c.toNat : Nat) : Int) = 61 := hI 61 61 rfl a4
          by_cases a5 : c = 60
          · have t : ((c.toNat : Nat) : Int) = 60 := (u8_eq (m := 60) (n := 60) rfl).2 a5
            have h7 : one7 c = true := by simp [one7, a5]
            simp (dsimp := false) (implicitDefEqProofs := false) (maxSteps := 1000000) (disch := first | omega | assumption | (simp only [rL, Nat.reduceAdd]; done) | (simp only [rL, Nat.reduceAdd]; omega)) only [↓rD, rU, ev, ofConst, ofCell, ↓reduceIte, Nat.reduceEqDiff, Nat.reduceAdd, Nat.reduceSub, Nat.reduceMul, Nat.reduceLeDiff, Nat.reduceLT, Int.reduceNeg, Int.reduceToNat, Int.reduceAdd, Int.reduceSub, Int.reduceMul, Int.reduceLT, Int.reduceLE, Int.reduceEq, rX, List.drop_succ_cons, ↓rF, rG, ne_eq, not_true_eq_false, not_false_eq_true, Int.reduceNe, List.getElem?_cons_zero, List.getElem?_cons_succ, ↓rK, rM, f0, f4, f5, f6, f15, t]
            exact h7
          have n5 : ¬ ((c.toNat : Nat) : Int) = 60 := hI 60 60 rfl a5
          by_cases a6 : c = 62
          · have t : ((c.toNat : Nat) : Int) = 62 := (u8_eq (m := 62) (n := 62) rfl).2 a6
            have h7 : one7 c = true := by simp [one7, a6]
            simp (dsimp := false) (implicitDefEqProofs := false) (maxSteps := 1000000) (disch := first | omega | assumption | (simp only [rL, Nat.reduceAdd]; done) | (simp only [rL, Nat.reduceAdd]; omega)) only [↓rD, rU, ev, ofConst, ofCell, ↓reduceIte, Nat.reduceEqDiff, Nat.reduceAdd, Nat.reduceSub, Nat.reduceMul, Nat.reduceLeDiff, Nat.reduceLT, Int.reduceNeg, Int.reduceToNat, Int.reduceAdd, Int.reduceSub, Int.reduceMul, Int.reduceLT, Int.reduceLE, Int.reduceEq, rX, List.drop_succ_cons, ↓rF, rG, ne_eq, not_true_eq_false, not_false_eq_true, Int.reduceNe, List.getElem?_cons_zero, List.getElem?_cons_succ, ↓rK, rM, f0, f4, f5, f6, f15, t]
            exact h7
          have n6 : ¬ ((c.toNat : Nat) : Int) = 62 := hI 62 62 rfl a6
          have h7 : one7 c = false := by simp [one7, a0, a1, a2, a3, a4, a5, a6]
          have ht : tokP (l.drop i) = .error 2 := by rw [hq, htok, h7]; rfl
          simp (dsimp := false) (implicitDefEqProofs := false) (maxSteps := 1000000) (disch := first | omega | assumption | (simp only [rL, Nat.reduceAdd]; done) | (simp only [rL, Nat.reduceAdd]; omega)) only [↓rD, rU, ev, ofConst, ofCell, ↓reduceIte, Nat.reduceEqDiff, Nat.reduceAdd, Nat.reduceSub, Nat.reduceMul, Nat.reduceLeDiff, Nat.reduceLT, Int.reduceNeg, Int.reduceToNat, Int.reduceAdd, Int.reduceSub, Int.reduceMul, Int.reduceLT, Int.reduceLE, Int.reduceEq, rX, List.drop_succ_cons, ↓rF, rG, ne_eq, not_true_eq_false, not_false_eq_true, Int.reduceNe, List.getElem?_cons_zero, List.getElem?_cons_succ, ↓rK, rM, f0, f4, f5, f6, f15, n0, n1, n2, n3, n4, n5, n6]
          exact ⟨_, Hp.sub_refl, by rw [herr 2 ht]; exact ⟨hown.sub, rfl⟩⟩
        clear f0 f4 f5 f6 f15
        rintro f s7 ⟨h7, rfl, f0, f4, f5, f6, f15⟩
        have ht : tokP (l.drop i) = .ok (⟨3, [c], 0⟩, 1) := by rw [hq, htok, h7]; rfl
        simp (dsimp := false) (implicitDefEqProofs := false) (maxSteps := 1000000) (disch := first | omega | assumption | (simp only [rL, Nat.reduceAdd]; done) | (simp only [rL, Nat.reduceAdd]; omega)) only [↓rD, rU, ev, ofConst, ofCell, ↓reduceIte, Nat.reduceEqDiff, Nat.reduceAdd, Nat.reduceSub, Nat.reduceMul, Nat.reduceLeDiff, Nat.reduceLT, Int.reduceNeg, Int.reduceToNat, Int.reduceAdd, Int.reduceSub, Int.reduceMul, Int.reduceLT, Int.reduceLE, Int.reduceEq, rX, List.drop_succ_cons, ↓rF, rG, ne_eq, not_true_eq_false, not_false_eq_true, Int.reduceNe, List.getElem?_cons_zero, List.getElem?_cons_succ, ↓rK, rM, f0, f4, f5, f6, f15]
        refine bsl_byte Hp.sub_refl fun o0 s8 h8 => ?_
        simp (dsimp := false) (implicitDefEqProofs := false) (maxSteps := 1000000) (disch := first | omega | assumption | (simp only [rL, Nat.reduceAdd]; done) | (simp only [rL, Nat.reduceAdd]; omega)) only [↓rD, rU, ev, ofConst, ofCell, ↓reduceIte, Nat.reduceEqDiff, Nat.reduceAdd, Nat.reduceSub, Nat.reduceMul, Nat.reduceLeDiff, Nat.reduceLT, Int.reduceNeg, Int.reduceToNat, Int.reduceAdd, Int.reduceSub, Int.reduceMul, Int.reduceLT, Int.reduceLE, Int.reduceEq, rX, List.drop_succ_cons, ↓rF, rG, ne_eq, not_true_eq_false, not_false_eq_true, Int.reduceNe, List.getElem?_cons_zero, List.getElem?_cons_succ, ↓rK, rM, f0, f4, f5, f6, b2sA_one, rTok, cells_strv]
        refine bsl_own Hp.sub_refl ?_ fun o1 s9 h9 => ?_
        · intro e he; simp at he; subst he; rfl
        simp (dsimp := false) (implicitDefEqProofs := false) (maxSteps := 1000000) (disch := first | omega | assumption | (simp only [rL, Nat.reduceAdd]; done) | (simp only [rL, Nat.reduceAdd]; omega)) only [↓rD, rU, ev, ofConst, ofCell, ↓reduceIte, Nat.reduceEqDiff, Nat.reduceAdd, Nat.reduceSub, Nat.reduceMul, Nat.reduceLeDiff, Nat.reduceLT, Int.reduceNeg, Int.reduceToNat, Int.reduceAdd, Int.reduceSub, Int.reduceMul, Int.reduceLT, Int.reduceLE, Int.reduceEq, rX, List.drop_succ_cons, ↓rF, rG, ne_eq, not_true_eq_false, not_false_eq_true, Int.reduceNe, List.getElem?_cons_zero, List.getElem?_cons_succ, ↓rK, rM, f0, f4, f5, f6]
        refine app_own (hown.mono (Hp.sub_trans h8.sub h9.sub)) TL_len ?_ (by simp [hlenT]; omega) (by simp [hlenT]; omega) fun o4 s10 h10 => ?_
        · intro e he; simp at he; subst he; rfl
        have eacc : TL acc ++ [(⟨3, [c], zTok.num⟩ : Tok).V i] = TL (acc ++ [(⟨3, [c], 0⟩, i)]) := by simp [TL, zTok]
        rw [eacc] at h10 ⊢
        simp (dsimp := false) (implicitDefEqProofs := false) (maxSteps := 1000000) (disch := first | omega | assumption | (simp only [rL, Nat.reduceAdd]; done) | (simp only [rL, Nat.reduceAdd]; omega)) only [↓rD, rU, ev, ofConst, ofCell, ↓reduceIte, Nat.reduceEqDiff, Nat.reduceAdd, Nat.reduceSub, Nat.reduceMul, Nat.reduceLeDiff, Nat.reduceLT, Int.reduceNeg, Int.reduceToNat, Int.reduceAdd, Int.reduceSub, Int.reduceMul, Int.reduceLT, Int.reduceLE, Int.reduceEq, rX, List.drop_succ_cons, ↓rF, rG, ne_eq, not_true_eq_false, not_false_eq_true, Int.reduceNe, List.getElem?_cons_zero, List.getElem?_cons_succ, ↓rK, rM, f0, f4, f5, M5]
        refine ⟨⟨i + 1, acc ++ [(⟨3, [c], 0⟩, i)], o4, by omega, ?_, by simp; omega, h10, by simp⟩, by omega⟩
        rw [← List.drop_drop, adv hne hsk ht hNi, happ]
    · have hil : i = l.length := by omega
      subst hil
      simp (dsimp := false) (implicitDefEqProofs := false) (maxSteps := 1000000) (disch := first | omega | assumption | (simp only [rL, Nat.reduceAdd]; done) | (simp only [rL, Nat.reduceAdd]; omega)) only [↓rD, rU, ev, ofConst, ofCell, ↓reduceIte, Nat.reduceEqDiff, Nat.reduceAdd, Nat.reduceSub, Nat.reduceMul, Nat.reduceLeDiff, Nat.reduceLT, Int.reduceNeg, Int.reduceToNat, Int.reduceAdd, Int.reduceSub, Int.reduceMul, Int.reduceLT, Int.reduceLE, Int.reduceEq, rX, List.drop_succ_cons, ↓rF, rG, ne_eq, not_true_eq_false, not_false_eq_true, Int.reduceNe, List.getElem?_cons_zero, List.getElem?_cons_succ, ↓rK, rM, lenTS, f0, f4, f5, hlt]
      rw [List.drop_length] at happ
      refine ⟨_, Hp.sub_refl, ?_⟩
      rw [← happ]
      exact ⟨o, by simpa using hown, by simp⟩
end Go.Proofs.YtpbicmjkjihhnaaDoor
/-
  A []byte made of a string, appended to and written; law23.LexBlanks.
-/
set_option maxRecDepth 100000
namespace Go.Proofs.YtpbicmjkjihhnaaDoor
open Go Go.Av

/-- bytes of the call's own, made of a string or by append -/
def BS (s0 s : Hp) (bs : List UInt8) (a : AV) : Prop :=
  s0.sub s ∧ ∃ l cap cs, a = .mb l bs.length cap 1 ∧ s0 l = none ∧ (s l = some (.cells cs) ∨ s l = some (.sc cs)) ∧ cs.length = cap ∧ cs.take bs.length = bs.map byteAV ∧ bs.length ≤ cap ∧ cap ≤ maxLen
theorem BS.sub {s0 s : Hp} {bs : List UInt8} {a : AV} (h : BS s0 s bs a) : s0.sub s := h.1
theorem BS.mono {s0 s s' : Hp} {bs : List UInt8} {a : AV} (h : BS s0 s bs a) (hs : s.sub s') : BS s0 s' bs a := by
  obtain ⟨h1, l, cap, cs, q1, q2, q3, q4⟩ := h
  refine ⟨Hp.sub_trans h1 hs, l, cap, cs, q1, q2, ?_, q4⟩
  rcases q3 with q3 | q3
  · exact .inl (hs _ _ q3)
  · exact .inr (hs _ _ q3)
theorem BS.make {s0 s : Hp} {bs : List UInt8} {C : AV → Hp → Prop} {d : Dep C} (h : s0.sub s) (hl : bs.length ≤ 140737488355328) (hC : ∀ a s', BS s0 s' bs a → C a s') : s2bMK (strV bs) s (hid2 C d) := by
  show ((⟨bs.toArray⟩ : ByteArray).size ≤ _ ∧ _)
  refine ⟨by rw [size_str]; exact hl, fun g cap sp hg hc hcm hsp => ?_⟩
  rw [size_str] at hc hsp ⊢
  refine hC _ _ ⟨Hp.sub_new h (Hp.sub_none h hg), g, cap, _, rfl, Hp.sub_none h hg, .inr (Hp.set_same _ _ _), ?_, ?_, hc, hcm⟩
  · simp; omega
  · simp
theorem BS.app {s0 s : Hp} {bs ys : List UInt8} {a y : AV} {C : AV → Hp → Prop} {d : Dep C} (h : BS s0 s bs a) (hs : srcS s 1 y = some (ys.length, ys.map byteAV)) (hle : bs.length + ys.length ≤ 140737488355328) (hC : ∀ a' s', BS s0 s' (bs ++ ys) a' → C a' s') :
    appMK 1 1 s a y (hid2 C d) := by
  obtain ⟨h1, l, cap, cs, rfl, q2, q3, q4, q5, q6, q7⟩ := h
  unfold appMK
  rw [hs]
  simp only [hid2]
  have hroomC : ∀ (ob : List AV → Ob), (∀ x, ob x = .cells x ∨ ob x = .sc x) → bs.length + ys.length ≤ cap → C (.mb l (bs.length + ys.length) cap 1) (s.set l (ob (putAt cs (bs.length * 1) (ys.map byteAV)))) := by
    intro ob hob hroom
    refine hC _ _ ⟨Hp.sub_new h1 q2, l, cap, putAt cs (bs.length * 1) (ys.map byteAV), by simp, q2, ?_, ?_, ?_, by simp; omega, q7⟩
    · rw [Hp.set_same]
      rcases hob (putAt cs (bs.length * 1) (ys.map byteAV)) with h | h
      · exact .inl (by rw [h])
      · exact .inr (by rw [h])
    · rw [putAt_length _ _ _ (by simp; omega), q4]
    · have e1 : (cs.take (bs.length * 1) ++ ys.map byteAV).length = (bs ++ ys).length := by simp; omega
      rw [putAt, ← e1, List.take_left, Nat.mul_one, q5, List.map_append]
  have hnewC : ∀ g cap' sp, s g = none → bs.length + ys.length ≤ cap' → cap' ≤ maxLen → sp.length = (cap' - (bs.length + ys.length)) * 1 → C (.mb g (bs.length + ys.length) cap' 1) (s.set g (.cells (cs.take (bs.length * 1) ++ ys.map byteAV ++ sp))) := by
    intro g cap' sp hg hc hcm hsp
    refine hC _ _ ⟨Hp.sub_new h1 (Hp.sub_none h1 hg), g, cap', _, by simp, Hp.sub_none h1 hg, .inl (Hp.set_same _ _ _), ?_, ?_, by simp; omega, hcm⟩
    · simp; omega
    · have e1 : (cs.take (bs.length * 1) ++ ys.map byteAV).length = (bs ++ ys).length := by simp; omega
      rw [← e1, List.take_left, Nat.mul_one, q5, List.map_append]
  rcases q3 with q3 | q3 <;> simp only [q3]
  · refine ⟨trivial, by omega, by omega, by omega, ?_⟩
    split
    · rename_i hroom; exact hroomC .cells (fun _ => .inl rfl) hroom
    · exact hnewC
  · refine ⟨trivial, by omega, by omega, by omega, ?_⟩
    split
    · rename_i hroom; exact hroomC .sc (fun _ => .inr rfl) hroom
    · exact hnewC
theorem BS.len {s0 s : Hp} {bs : List UInt8} {a : AV} (h : BS s0 s bs a) : lenAA a = some (.v (.int .i64 bs.length)) := by
  obtain ⟨h1, l, cap, cs, rfl, _⟩ := h; rfl
theorem BS.str {s0 s : Hp} {bs : List UInt8} {a : AV} (h : BS s0 s bs a) : b2sMA s a = some (strV bs) := by
  obtain ⟨h1, l, cap, cs, rfl, q2, q3, q4, q5, q6, q7⟩ := h
  have hr : s.read l = some cs := by rcases q3 with q3 | q3 <;> simp [Hp.read, q3]
  refine b2sMA_of (n := bs.length) ?_
  simp only [srcF, hr, Nat.mul_one, q5]
  rw [if_pos ⟨trivial, by omega⟩]
theorem BS.get {s0 s : Hp} {bs : List UInt8} {a : AV} (h : BS s0 s bs a) {i : Nat} {b : UInt8} (hb : bs[i]? = some b) :
    ∃ l cs, iaSA 1 a (.v (.int .i64 (i : Int))) = some (.ptr l i) ∧ s.read l = some cs ∧ rdA false 1 i (some cs) = some (.v (.int .u8 b.toNat)) ∧
      ∀ (b' : UInt8) (C : Hp → Prop) (d : Dep C), (∀ s', BS s0 s' (bs.set i b') a → C s') → storeXK s 1 (.ptr l i) [.v (.int .u8 b'.toNat)] (hid1 C d) := by
  obtain ⟨h1, l, cap, cs, rfl, q2, q3, q4, q5, q6, q7⟩ := h
  obtain ⟨hlt, hbi⟩ := List.getElem?_eq_some_iff.1 hb
  have hr : s.read l = some cs := by rcases q3 with q3 | q3 <;> simp [Hp.read, q3]
  have hci : cs[i]? = some (byteAV b) := by
    have : (cs.take bs.length)[i]? = some (byteAV b) := by rw [q5, List.getElem?_map, hb]; rfl
    rwa [List.getElem?_take_of_lt hlt] at this
  have hcl : i < cs.length := (List.getElem?_eq_some_iff.1 hci).1
  refine ⟨l, cs, ?_, hr, ?_, ?_⟩
  · rw [iaSA_mb (by omega) (by omega)]; simp
  · rw [rdA_some (by omega), List.drop_eq_getElem_cons hcl]
    have : cs[i] = byteAV b := by rw [List.getElem?_eq_getElem hcl] at hci; exact Option.some.inj hci
    rw [this]; rfl
  · intro b' C d hC
    have hset : (putAt cs i [AV.v (.int .u8 b'.toNat)]).take bs.length = (bs.set i b').map byteAV := by
      have e : putAt cs i [AV.v (.int .u8 b'.toNat)] = cs.set i (byteAV b') := by
        rw [List.set_eq_take_append_cons_drop, if_pos hcl, putAt]; simp [byteAV]
      rw [e, List.take_set, q5, List.map_set]
    have hbs : ∀ (ob : List AV → Ob), (∀ x, ob x = .cells x ∨ ob x = .sc x) → C (s.set l (ob (putAt cs i [.v (.int .u8 b'.toNat)]))) := by
      intro ob hob
      refine hC _ ⟨Hp.sub_new h1 q2, l, cap, putAt cs i [.v (.int .u8 b'.toNat)], by simp, q2, ?_, ?_, by rw [List.length_set]; exact hset, by simp; omega, q7⟩
      · rw [Hp.set_same]
        rcases hob (putAt cs i [.v (.int .u8 b'.toNat)]) with h | h
        · exact .inl (by rw [h])
        · exact .inr (by rw [h])
      · rw [putAt_length _ _ _ (by simp; omega), q4]
    rcases q3 with q3 | q3
    · exact storeX_c q3 rfl (by omega) (hbs .cells fun _ => .inl rfl)
    · exact storeX_s q3 rfl (by omega) (hbs .sc fun _ => .inr rfl)
end Go.Proofs.YtpbicmjkjihhnaaDoor
/-
  law23.LexBlanks.
-/
set_option maxRecDepth 100000
namespace Go.Proofs.YtpbicmjkjihhnaaDoor
open Go Go.Av

/-! ### blanks between -/
def gapB (b : UInt8) : List UInt8 := if b.toNat % 5 = 0 then [32] else if b.toNat % 5 = 1 then [9] else if b.toNat % 5 = 2 then [10] else if b.toNat % 5 = 3 then [13] else [45, 45, 32, 40, 59, 10]
def gapT (g : List UInt8) : List UInt8 := g.flatMap gapB
theorem gapB_cas {f : UInt8 → UInt8} (hf : cas f) (b : UInt8) : (gapB b).map f = gapB b := by
  unfold gapB
  rcases hf with rfl | rfl
  · simp
  · split
    · rfl
    · split
      · rfl
      · split
        · rfl
        · split <;> rfl
theorem gapB_len (b : UInt8) : (gapB b).length ≤ 6 := by
  unfold gapB
  split
  · simp
  · split
    · simp
    · split
      · simp
      · split <;> simp
theorem gapT_len : ∀ g : List UInt8, (gapT g).length ≤ 6 * g.length
  | [] => by simp [gapT]
  | b :: g => by
    have h1 := gapB_len b
    have h2 := gapT_len g
    simp only [gapT, List.flatMap_cons, List.length_append, List.length_cons] at h2 ⊢
    omega
theorem skip_gapB (b : UInt8) (r : List UInt8) : skip false (gapB b ++ r) = skip false r := by
  unfold gapB
  split
  · simp [skip, blankR]
  · split
    · simp [skip, blankR]
    · split
      · simp [skip, blankR]
      · split <;> simp [skip, blankR]
theorem skip_gap {f : UInt8 → UInt8} (hf : cas f) : ∀ (g r : List UInt8), skip false ((gapT g).map f ++ r) = skip false r
  | [], r => rfl
  | b :: g, r => by
    have h := skip_gap hf g r
    simp only [gapT] at h
    simp only [gapT, List.flatMap_cons, List.map_append, gapB_cas hf, List.append_assoc]
    rw [skip_gapB, h]
theorem lexR_gap {f : UInt8 → UInt8} (hf : cas f) (g r : List UInt8) : lexR ((gapT g).map f ++ r) = lexR r := by
  rw [← lexR_skip ((gapT g).map f ++ r), skip_gap hf, lexR_skip]
theorem toks_app {a b : List (Tok × Nat)} : toks (a ++ b) = toks a ++ toks b := by simp [toks]
/-- BLANKS AND COMMENTS BETWEEN, AND LARGE LETTERS, MAKE NO OTHER TOKENS -/
theorem lexT_blanks {f : UInt8 → UInt8} (hf : cas f) {x y g : List UInt8} {ts us : List (Tok × Nat)} (h1 : lexT x = .ok ts) (h2 : lexT y = .ok us)
    (hl : ((joinT (texts ts) ++ [32] ++ gapT g ++ joinT (texts us)).map f).length ≤ 1000) :
    ∃ vs, lexT ((joinT (texts ts) ++ [32] ++ gapT g ++ joinT (texts us)).map f) = .ok vs ∧ toks vs = toks (ts ++ us) := by
  have e : (joinT (texts ts) ++ [32] ++ gapT g ++ joinT (texts us)).map f = (joinT (texts ts)).map f ++ (32 :: ((gapT g).map f ++ ((joinT (texts us)).map f ++ []))) := by
    simp [cas_32 hf]
  have h3 : lexR ((joinT (texts ts) ++ [32] ++ gapT g ++ joinT (texts us)).map f) = .ok (toks ts ++ toks us) := by
    rw [e, lexR_join hf ts (lexT_good h1) (.inr ⟨_, rfl⟩), lexR_blank, lexR_gap hf, lexR_join hf us (lexT_good h2) (.inl rfl)]
    have : lexR [] = .ok [] := rfl
    rw [this]; simp [appR]
  rw [← lexT_R hl] at h3
  revert h3
  cases lexT ((joinT (texts ts) ++ [32] ++ gapT g ++ joinT (texts us)).map f) with
  | error e => intro h; cases h
  | ok vs => intro h; exact ⟨vs, rfl, by rw [toks_app]; simpa [dropAt] using h⟩

theorem rem_u8 {c m : Nat} (h : m ≠ 0) : binV .rem (.int .u8 (c : Int)) (.int .u8 (m : Int)) = some (.int .u8 ((c % m : Nat) : Int)) := by
  have h' : ¬ ((m : Nat) : Int) = 0 := by omega
  simp only [binV, isShift, binInt, if_neg h', Bool.false_eq_true, if_false, if_true]
  congr 2
theorem srcS_one {s : Hp} {o : Own} {b : UInt8} : srcS s 1 (.sl [.v (.int .u8 b.toNat)] o) = some ([b].length, [b].map byteAV) := by
  rfl
theorem srcS_str {s : Hp} {bs : List UInt8} : srcS s 1 (strV bs) = some (bs.length, bs.map byteAV) := by
  show (if 1 = 1 then some ((⟨bs.toArray⟩ : ByteArray).size, bs.map byteAV) else none) = _
  rw [if_pos rfl, size_str]
theorem TL_app {a b : List (Tok × Nat)} : TL a ++ TL b = TL (a ++ b) := by simp [TL]
theorem Owned.any {s : Hp} {k : Nat} {xs : List AV} {o : Own} {s0 : Hp} (h : Owned s0 s k xs o) : s0.sub s := h.sub

theorem List.set_getElem?_self {α : Type} {l : List α} {j : Nat} {b : α} (h : l[j]? = some b) : l.set j b = l := by
  obtain ⟨h1, rfl⟩ := List.getElem?_eq_some_iff.1 h
  exact List.set_getElem_self h1
theorem upper_ge {b : UInt8} (h : 97 ≤ b.toNat) (h2 : b.toNat ≤ 122) : IntKind.u8.wrap ((b.toNat : Int) - 32) = ((Lib.upperB b).toNat : Int) := by
  have h1 := u8all (p := fun b => !(decide (97 ≤ b.toNat) && decide (b.toNat ≤ 122)) || decide ((Lib.upperB b).toNat + 32 = b.toNat)) (by kernel_rfl) b
  simp [h, h2] at h1
  rw [wrap_u8 (by omega) (by omega)]; omega
theorem upper_lt {b : UInt8} (h : ¬ (97 ≤ b.toNat ∧ b.toNat ≤ 122)) : Lib.upperB b = b := by
  have h1 := u8all (p := fun b => (decide (97 ≤ b.toNat) && decide (b.toNat ≤ 122)) || Lib.upperB b == b) (by kernel_rfl) b
  simp only [Bool.or_eq_true, Bool.and_eq_true, decide_eq_true_eq, beq_iff_eq] at h1
  exact h1.resolve_left h
theorem LexBlanks_spec (x y g : List UInt8) (og : Own) (large : Bool) (s : Hp) (hT : Tabs s) :
    AC Tryd.prog 4 [strV x, strV y, .sl (g.map byteAV) og, .v (.bool large)] s fun r s' => s.sub s' ∧ r = .v (.bool true) := by
  refine AC_run hm prep4 (by simp) ?_
  simp (dsimp := false) (implicitDefEqProofs := false) (maxSteps := 1000000) (disch := first | omega | assumption | (simp only [rL, Nat.reduceAdd]; done) | (simp only [rL, Nat.reduceAdd]; omega)) only [↓rD, rU, ev, ofConst, ofCell, ↓reduceIte, Nat.reduceEqDiff, Nat.reduceAdd, Nat.reduceSub, Nat.reduceMul, Nat.reduceLeDiff, Nat.reduceLT, Int.reduceNeg, Int.reduceToNat, Int.reduceAdd, Int.reduceSub, Int.reduceMul, Int.reduceLT, Int.reduceLE, Int.reduceEq, rX, List.drop_succ_cons, ↓rF, rG, ne_eq, not_true_eq_false, not_false_eq_true, Int.reduceNe, List.getElem?_cons_zero, List.getElem?_cons_succ, ↓rK, rM]
  refine call_intro (alive_spec _ hT) ?_
  rintro _ s1 ⟨hs1, rfl⟩
  by_cases c1 : (200 : Int) < (x.length : Int)
  · simp (dsimp := false) (implicitDefEqProofs := false) (maxSteps := 1000000) (disch := first | omega | assumption | (simp only [rL, Nat.reduceAdd]; done) | (simp only [rL, Nat.reduceAdd]; omega)) only [↓rD, rU, ev, ofConst, ofCell, ↓reduceIte, Nat.reduceEqDiff, Nat.reduceAdd, Nat.reduceSub, Nat.reduceMul, Nat.reduceLeDiff, Nat.reduceLT, Int.reduceNeg, Int.reduceToNat, Int.reduceAdd, Int.reduceSub, Int.reduceMul, Int.reduceLT, Int.reduceLE, Int.reduceEq, rX, List.drop_succ_cons, ↓rF, rG, ne_eq, not_true_eq_false, not_false_eq_true, Int.reduceNe, List.getElem?_cons_zero, List.getElem?_cons_succ, ↓rK, rM, lenTS, c1]
    exact ⟨_, Hp.sub_refl, hs1⟩
  by_cases c2 : (200 : Int) < (y.length : Int)
  · simp (dsimp := false) (implicitDefEqProofs := false) (maxSteps := 1000000) (disch := first | omega | assumption | (simp only [rL, Nat.reduceAdd]; done) | (simp only [rL, Nat.reduceAdd]; omega)) only [↓rD, rU, ev, ofConst, ofCell, ↓reduceIte, Nat.reduceEqDiff, Nat.reduceAdd, Nat.reduceSub, Nat.reduceMul, Nat.reduceLeDiff, Nat.reduceLT, Int.reduceNeg, Int.reduceToNat, Int.reduceAdd, Int.reduceSub, Int.reduceMul, Int.reduceLT, Int.reduceLE, Int.reduceEq, rX, List.drop_succ_cons, ↓rF, rG, ne_eq, not_true_eq_false, not_false_eq_true, Int.reduceNe, List.getElem?_cons_zero, List.getElem?_cons_succ, ↓rK, rM, lenTS, c1, c2]
    exact ⟨_, Hp.sub_refl, hs1⟩
  by_cases c3 : (50 : Int) < (g.length : Int)
  · simp (dsimp := false) (implicitDefEqProofs := false) (maxSteps := 1000000) (disch := first | omega | assumption | (simp only [rL, Nat.reduceAdd]; done) | (simp only [rL, Nat.reduceAdd]; omega)) only [↓rD, rU, ev, ofConst, ofCell, ↓reduceIte, Nat.reduceEqDiff, Nat.reduceAdd, Nat.reduceSub, Nat.reduceMul, Nat.reduceLeDiff, Nat.reduceLT, Int.reduceNeg, Int.reduceToNat, Int.reduceAdd, Int.reduceSub, Int.reduceMul, Int.reduceLT, Int.reduceLE, Int.reduceEq, rX, List.drop_succ_cons, ↓rF, rG, ne_eq, not_true_eq_false, not_false_eq_true, Int.reduceNe, List.getElem?_cons_zero, List.getElem?_cons_succ, ↓rK, rM, lenTS, c1, c2, c3, List.length_map]
    exact ⟨_, Hp.sub_refl, hs1⟩
  simp (dsimp := false) (implicitDefEqProofs := false) (maxSteps := 1000000) (disch := first | omega | assumption | (simp only [rL, Nat.reduceAdd]; done) | (simp only [rL, Nat.reduceAdd]; omega)) only [↓rD, rU, ev, ofConst, ofCell, ↓reduceIte, Nat.reduceEqDiff, Nat.reduceAdd, Nat.reduceSub, Nat.reduceMul, Nat.reduceLeDiff, Nat.reduceLT, Int.reduceNeg, Int.reduceToNat, Int.reduceAdd, Int.reduceSub, Int.reduceMul, Int.reduceLT, Int.reduceLE, Int.reduceEq, rX, List.drop_succ_cons, ↓rF, rG, ne_eq, not_true_eq_false, not_false_eq_true, Int.reduceNe, List.getElem?_cons_zero, List.getElem?_cons_succ, ↓rK, rM, lenTS, c1, c2, c3, List.length_map]
  refine call_intro (refLex_spec x s1) ?_
  intro r s2 h2
  cases hx : lexT x with
  | error e =>
    rw [hx] at h2
    obtain ⟨h2, rfl⟩ := h2
    have he : ¬ ((e : Nat) : Int) = 0 := by have := lexT_err hx; omega
    simp (dsimp := false) (implicitDefEqProofs := false) (maxSteps := 1000000) (disch := first | omega | assumption | (simp only [rL, Nat.reduceAdd]; done) | (simp only [rL, Nat.reduceAdd]; omega)) only [↓rD, rU, ev, ofConst, ofCell, ↓reduceIte, Nat.reduceEqDiff, Nat.reduceAdd, Nat.reduceSub, Nat.reduceMul, Nat.reduceLeDiff, Nat.reduceLT, Int.reduceNeg, Int.reduceToNat, Int.reduceAdd, Int.reduceSub, Int.reduceMul, Int.reduceLT, Int.reduceLE, Int.reduceEq, rX, List.drop_succ_cons, ↓rF, rG, ne_eq, not_true_eq_false, not_false_eq_true, Int.reduceNe, List.getElem?_cons_zero, List.getElem?_cons_succ, ↓rK, rM]
    refine call_intro (refLex_spec y s2) ?_
    intro r s3 h3
    cases hy : lexT y with
    | error e2 =>
      rw [hy] at h3
      obtain ⟨h3, rfl⟩ := h3
      simp (dsimp := false) (implicitDefEqProofs := false) (maxSteps := 1000000) (disch := first | omega | assumption | (simp only [rL, Nat.reduceAdd]; done) | (simp only [rL, Nat.reduceAdd]; omega)) only [↓rD, rU, ev, ofConst, ofCell, ↓reduceIte, Nat.reduceEqDiff, Nat.reduceAdd, Nat.reduceSub, Nat.reduceMul, Nat.reduceLeDiff, Nat.reduceLT, Int.reduceNeg, Int.reduceToNat, Int.reduceAdd, Int.reduceSub, Int.reduceMul, Int.reduceLT, Int.reduceLE, Int.reduceEq, rX, List.drop_succ_cons, ↓rF, rG, ne_eq, not_true_eq_false, not_false_eq_true, Int.reduceNe, List.getElem?_cons_zero, List.getElem?_cons_succ, ↓rK, rM, he]
      exact ⟨_, Hp.sub_refl, Hp.sub_trans hs1 (Hp.sub_trans h2 h3)⟩
    | ok us =>
      rw [hy] at h3
      obtain ⟨o3, h3, rfl⟩ := h3
      simp (dsimp := false) (implicitDefEqProofs := false) (maxSteps := 1000000) (disch := first | omega | assumption | (simp only [rL, Nat.reduceAdd]; done) | (simp only [rL, Nat.reduceAdd]; omega)) only [↓rD, rU, ev, ofConst, ofCell, ↓reduceIte, Nat.reduceEqDiff, Nat.reduceAdd, Nat.reduceSub, Nat.reduceMul, Nat.reduceLeDiff, Nat.reduceLT, Int.reduceNeg, Int.reduceToNat, Int.reduceAdd, Int.reduceSub, Int.reduceMul, Int.reduceLT, Int.reduceLE, Int.reduceEq, rX, List.drop_succ_cons, ↓rF, rG, ne_eq, not_true_eq_false, not_false_eq_true, Int.reduceNe, List.getElem?_cons_zero, List.getElem?_cons_succ, ↓rK, rM, he]
      exact ⟨_, Hp.sub_refl, Hp.sub_trans hs1 (Hp.sub_trans h2 h3.sub)⟩
  | ok ts =>
    rw [hx] at h2
    obtain ⟨o2, h2, rfl⟩ := h2
    simp (dsimp := false) (implicitDefEqProofs := false) (maxSteps := 1000000) (disch := first | omega | assumption | (simp only [rL, Nat.reduceAdd]; done) | (simp only [rL, Nat.reduceAdd]; omega)) only [↓rD, rU, ev, ofConst, ofCell, ↓reduceIte, Nat.reduceEqDiff, Nat.reduceAdd, Nat.reduceSub, Nat.reduceMul, Nat.reduceLeDiff, Nat.reduceLT, Int.reduceNeg, Int.reduceToNat, Int.reduceAdd, Int.reduceSub, Int.reduceMul, Int.reduceLT, Int.reduceLE, Int.reduceEq, rX, List.drop_succ_cons, ↓rF, rG, ne_eq, not_true_eq_false, not_false_eq_true, Int.reduceNe, List.getElem?_cons_zero, List.getElem?_cons_succ, ↓rK, rM]
    refine call_intro (refLex_spec y s2) ?_
    intro r s3 h3
    cases hy : lexT y with
    | error e2 =>
      rw [hy] at h3
      obtain ⟨h3, rfl⟩ := h3
      have he : ¬ ((e2 : Nat) : Int) = 0 := by have := lexT_err hy; omega
      simp (dsimp := false) (implicitDefEqProofs := false) (maxSteps := 1000000) (disch := first | omega | assumption | (simp only [rL, Nat.reduceAdd]; done) | (simp only [rL, Nat.reduceAdd]; omega)) only [↓rD, rU, ev, ofConst, ofCell, ↓reduceIte, Nat.reduceEqDiff, Nat.reduceAdd, Nat.reduceSub, Nat.reduceMul, Nat.reduceLeDiff, Nat.reduceLT, Int.reduceNeg, Int.reduceToNat, Int.reduceAdd, Int.reduceSub, Int.reduceMul, Int.reduceLT, Int.reduceLE, Int.reduceEq, rX, List.drop_succ_cons, ↓rF, rG, ne_eq, not_true_eq_false, not_false_eq_true, Int.reduceNe, List.getElem?_cons_zero, List.getElem?_cons_succ, ↓rK, rM, he]
      exact ⟨_, Hp.sub_refl, Hp.sub_trans hs1 (Hp.sub_trans h2.sub h3)⟩
    | ok us =>
      rw [hy] at h3
      obtain ⟨o3, h3, rfl⟩ := h3
      obtain ⟨l1, l2⟩ := lexT_len hx
      obtain ⟨l3, l4⟩ := lexT_len hy
      have hgl := gapT_len g
      have h13 := Hp.sub_trans hs1 (Hp.sub_trans h2.sub h3.sub)
      simp (dsimp := false) (implicitDefEqProofs := false) (maxSteps := 1000000) (disch := first | omega | assumption | (simp only [rL, Nat.reduceAdd]; done) | (simp only [rL, Nat.reduceAdd]; omega)) only [↓rD, rU, ev, ofConst, ofCell, ↓reduceIte, Nat.reduceEqDiff, Nat.reduceAdd, Nat.reduceSub, Nat.reduceMul, Nat.reduceLeDiff, Nat.reduceLT, Int.reduceNeg, Int.reduceToNat, Int.reduceAdd, Int.reduceSub, Int.reduceMul, Int.reduceLT, Int.reduceLE, Int.reduceEq, rX, List.drop_succ_cons, ↓rF, rG, ne_eq, not_true_eq_false, not_false_eq_true, Int.reduceNe, List.getElem?_cons_zero, List.getElem?_cons_succ, ↓rK, rM]
      refine call_intro (refText_spec ts o2 s3 (by omega) (by omega)) ?_
      rintro _ s4 ⟨rfl, rfl⟩
      simp (dsimp := false) (implicitDefEqProofs := false) (maxSteps := 1000000) (disch := first | omega | assumption | (simp only [rL, Nat.reduceAdd]; done) | (simp only [rL, Nat.reduceAdd]; omega)) only [↓rD, rU, ev, ofConst, ofCell, ↓reduceIte, Nat.reduceEqDiff, Nat.reduceAdd, Nat.reduceSub, Nat.reduceMul, Nat.reduceLeDiff, Nat.reduceLT, Int.reduceNeg, Int.reduceToNat, Int.reduceAdd, Int.reduceSub, Int.reduceMul, Int.reduceLT, Int.reduceLE, Int.reduceEq, rX, List.drop_succ_cons, ↓rF, rG, ne_eq, not_true_eq_false, not_false_eq_true, Int.reduceNe, List.getElem?_cons_zero, List.getElem?_cons_succ, ↓rK, rM, binA_addS32]
      refine BS.make Hp.sub_refl (by simp; omega) fun a0 s5 b5 => ?_
      simp (dsimp := false) (implicitDefEqProofs := false) (maxSteps := 1000000) (disch := first | omega | assumption | (simp only [rL, Nat.reduceAdd]; done) | (simp only [rL, Nat.reduceAdd]; omega)) only [↓rD, rU, ev, ofConst, ofCell, ↓reduceIte, Nat.reduceEqDiff, Nat.reduceAdd, Nat.reduceSub, Nat.reduceMul, Nat.reduceLeDiff, Nat.reduceLT, Int.reduceNeg, Int.reduceToNat, Int.reduceAdd, Int.reduceSub, Int.reduceMul, Int.reduceLT, Int.reduceLE, Int.reduceEq, rX, List.drop_succ_cons, ↓rF, rG, ne_eq, not_true_eq_false, not_false_eq_true, Int.reduceNe, List.getElem?_cons_zero, List.getElem?_cons_succ, ↓rK, rM]
      have hg50 : g.length ≤ 50 := by omega
      have hp1 : (joinT (texts ts) ++ [32]).length ≤ 4401 := by simp; omega
      generalize hpre : joinT (texts ts) ++ [32] = pre1 at b5 hp1
      refine loop_intro (fun f s' => ∃ (k : Nat) (a : AV), k ≤ g.length ∧ BS s4 s' (pre1 ++ gapT (g.take k)) a ∧ f 2 = .sl (g.map byteAV) og ∧ f 3 = .v (.bool large) ∧ f 9 = .sl (TL ts) o2 ∧ f 11 = .sl (TL us) o3 ∧ f 13 = a ∧ f 14 = .v (.int .i64 (k : Nat)))
        (fun f _ => match f 14 with | .v (.int _ n) => g.length - n.toNat | _ => 0) ⟨0, a0, by omega, ?_, ?_⟩ ?_
      · simpa [gapT] using b5
      · simp (dsimp := false) (implicitDefEqProofs := false) (maxSteps := 1000000) (disch := first | omega | assumption | (simp only [rL, Nat.reduceAdd]; done) | (simp only [rL, Nat.reduceAdd]; omega)) only [↓rD, rU, ev, ofConst, ofCell, ↓reduceIte, Nat.reduceEqDiff, Nat.reduceAdd, Nat.reduceSub, Nat.reduceMul, Nat.reduceLeDiff, Nat.reduceLT, Int.reduceNeg, Int.reduceToNat, Int.reduceAdd, Int.reduceSub, Int.reduceMul, Int.reduceLT, Int.reduceLE, Int.reduceEq, rX, List.drop_succ_cons, ↓rF, rG, ne_eq, not_true_eq_false, not_false_eq_true, Int.reduceNe, List.getElem?_cons_zero, List.getElem?_cons_succ, ↓rK, rM]
      · rintro f s5 ⟨k, a, hk, hb, f2, f3, f9, f11, f13, f14⟩
        have hgk := gapT_len (g.take k)
        have hgk2 : (g.take k).length ≤ 50 := by simp; omega
        by_cases hlt : (k : Int) < (g.length : Int)
        · have hk' : k < g.length := by omega
          obtain ⟨b, hbk⟩ : ∃ b, g[k]? = some b := ⟨_, List.getElem?_eq_getElem hk'⟩
          have htk : pre1 ++ gapT (g.take (k + 1)) = pre1 ++ gapT (g.take k) ++ gapB b := by
            rw [List.take_succ, hbk]; simp [gapT]
          have gi : iaSA 1 (.sl (g.map byteAV) og) (.v (.int .i64 (k : Int))) = some (.rptr [.v (.int .u8 b.toNat)]) := by
            rw [iaSA_sl (by omega)]; simp [hbk, elA, byteAV, AV.cells]
          have gr := rem_u8 (c := b.toNat) (m := 5) (by omega)
          have e5 : ((5 : Nat) : Int) = 5 := rfl
          rw [e5] at gr
          simp (dsimp := false) (implicitDefEqProofs := false) (maxSteps := 1000000) (disch := first | omega | assumption | (simp only [rL, Nat.reduceAdd]; done) | (simp only [rL, Nat.reduceAdd]; omega)) only [↓rD, rU, ev, ofConst, ofCell, ↓reduceIte, Nat.reduceEqDiff, Nat.reduceAdd, Nat.reduceSub, Nat.reduceMul, Nat.reduceLeDiff, Nat.reduceLT, Int.reduceNeg, Int.reduceToNat, Int.reduceAdd, Int.reduceSub, Int.reduceMul, Int.reduceLT, Int.reduceLE, Int.reduceEq, rX, List.drop_succ_cons, ↓rF, rG, ne_eq, not_true_eq_false, not_false_eq_true, Int.reduceNe, List.getElem?_cons_zero, List.getElem?_cons_succ, ↓rK, rM, f2, f3, f9, f11, f13, f14, hlt, List.length_map, gi, gr]
          by_cases c0 : b.toNat % 5 = 0
          · have hgb : gapB b = [32] := by simp [gapB, c0]
            have i0 : ((b.toNat % 5 : Nat) : Int) = 0 := by omega
            simp (dsimp := false) (implicitDefEqProofs := false) (maxSteps := 1000000) (disch := first | omega | assumption | (simp only [rL, Nat.reduceAdd]; done) | (simp only [rL, Nat.reduceAdd]; omega)) only [↓rD, rU, ev, ofConst, ofCell, ↓reduceIte, Nat.reduceEqDiff, Nat.reduceAdd, Nat.reduceSub, Nat.reduceMul, Nat.reduceLeDiff, Nat.reduceLT, Int.reduceNeg, Int.reduceToNat, Int.reduceAdd, Int.reduceSub, Int.reduceMul, Int.reduceLT, Int.reduceLE, Int.reduceEq, rX, List.drop_succ_cons, ↓rF, rG, ne_eq, not_true_eq_false, not_false_eq_true, Int.reduceNe, List.getElem?_cons_zero, List.getElem?_cons_succ, ↓rK, rM, f2, f3, f9, f11, f13, f14, i0]
            refine bsl_byte (b := 32) Hp.sub_refl fun o6 s6 h6 => ?_
            simp (dsimp := false) (implicitDefEqProofs := false) (maxSteps := 1000000) (disch := first | omega | assumption | (simp only [rL, Nat.reduceAdd]; done) | (simp only [rL, Nat.reduceAdd]; omega)) only [↓rD, rU, ev, ofConst, ofCell, ↓reduceIte, Nat.reduceEqDiff, Nat.reduceAdd, Nat.reduceSub, Nat.reduceMul, Nat.reduceLeDiff, Nat.reduceLT, Int.reduceNeg, Int.reduceToNat, Int.reduceAdd, Int.reduceSub, Int.reduceMul, Int.reduceLT, Int.reduceLE, Int.reduceEq, rX, List.drop_succ_cons, ↓rF, rG, ne_eq, not_true_eq_false, not_false_eq_true, Int.reduceNe, List.getElem?_cons_zero, List.getElem?_cons_succ, ↓rK, rM, f2, f3, f9, f11, f13, f14]
            refine (hb.mono h6.sub).app (ys := [32]) srcS_one (by simp; omega) fun a7 s7 h7 => ?_
            simp (dsimp := false) (implicitDefEqProofs := false) (maxSteps := 1000000) (disch := first | omega | assumption | (simp only [rL, Nat.reduceAdd]; done) | (simp only [rL, Nat.reduceAdd]; omega)) only [↓rD, rU, ev, ofConst, ofCell, ↓reduceIte, Nat.reduceEqDiff, Nat.reduceAdd, Nat.reduceSub, Nat.reduceMul, Nat.reduceLeDiff, Nat.reduceLT, Int.reduceNeg, Int.reduceToNat, Int.reduceAdd, Int.reduceSub, Int.reduceMul, Int.reduceLT, Int.reduceLE, Int.reduceEq, rX, List.drop_succ_cons, ↓rF, rG, ne_eq, not_true_eq_false, not_false_eq_true, Int.reduceNe, List.getElem?_cons_zero, List.getElem?_cons_succ, ↓rK, rM, f2, f3, f9, f11, f13, f14]
            refine ⟨⟨k + 1, a7, by omega, ?_, by simp⟩, by omega⟩
            rw [htk, hgb]; exact h7
          have d0 : ¬ b.toNat % 5 = 0 := c0
          have i0 : ¬ ((b.toNat % 5 : Nat) : Int) = 0 := by omega
          by_cases c1 : b.toNat % 5 = 1
          · have hgb : gapB b = [9] := by simp [gapB, c1, d0]
            have i1 : ((b.toNat % 5 : Nat) : Int) = 1 := by omega
            simp (dsimp := false) (implicitDefEqProofs := false) (maxSteps := 1000000) (disch := first | omega | assumption | (simp only [rL, Nat.reduceAdd]; done) | (simp only [rL, Nat.reduceAdd]; omega)) only [↓rD, rU, ev, ofConst, ofCell, ↓reduceIte, Nat.reduceEqDiff, Nat.reduceAdd, Nat.reduceSub, Nat.reduceMul, Nat.reduceLeDiff, Nat.reduceLT, Int.reduceNeg, Int.reduceToNat, Int.reduceAdd, Int.reduceSub, Int.reduceMul, Int.reduceLT, Int.reduceLE, Int.reduceEq, rX, List.drop_succ_cons, ↓rF, rG, ne_eq, not_true_eq_false, not_false_eq_true, Int.reduceNe, List.getElem?_cons_zero, List.getElem?_cons_succ, ↓rK, rM, f2, f3, f9, f11, f13, f14, i1, i0]
            refine bsl_byte (b := 9) Hp.sub_refl fun o6 s6 h6 => ?_
            simp (dsimp := false) (implicitDefEqProofs := false) (maxSteps := 1000000) (disch := first | omega | assumption | (simp only [rL, Nat.reduceAdd]; done) | (simp only [rL, Nat.reduceAdd]; omega)) only [↓rD, rU, ev, ofConst, ofCell, ↓reduceIte, Nat.reduceEqDiff, Nat.reduceAdd, Nat.reduceSub, Nat.reduceMul, Nat.reduceLeDiff, Nat.reduceLT, Int.reduceNeg, Int.reduceToNat, Int.reduceAdd, Int.reduceSub, Int.reduceMul, Int.reduceLT, Int.reduceLE, Int.reduceEq, rX, List.drop_succ_cons, ↓rF, rG, ne_eq, not_true_eq_false, not_false_eq_true, Int.reduceNe, List.getElem?_cons_zero, List.getElem?_cons_succ, ↓rK, rM, f2, f3, f9, f11, f13, f14]
            refine (hb.mono h6.sub).app (ys := [9]) srcS_one (by simp; omega) fun a7 s7 h7 => ?_
            simp (dsimp := false) (implicitDefEqProofs := false) (maxSteps := 1000000) (disch := first | omega | assumption | (simp only [rL, Nat.reduceAdd]; done) | (simp only [rL, Nat.reduceAdd]; omega)) only [↓rD, rU, ev, ofConst, ofCell, ↓reduceIte, Nat.reduceEqDiff, Nat.reduceAdd, Nat.reduceSub, Nat.reduceMul, Nat.reduceLeDiff, Nat.reduceLT, Int.reduceNeg, Int.reduceToNat, Int.reduceAdd, Int.reduceSub, Int.reduceMul, Int.reduceLT, Int.reduceLE, Int.reduceEq, rX, List.drop_succ_cons, ↓rF, rG, ne_eq, not_true_eq_false, not_false_eq_true, Int.reduceNe, List.getElem?_cons_zero, List.getElem?_cons_succ, ↓rK, rM, f2, f3, f9, f11, f13, f14]
            refine ⟨⟨k + 1, a7, by omega, ?_, by simp⟩, by omega⟩
            rw [htk, hgb]; exact h7
          have d1 : ¬ b.toNat % 5 = 1 := c1
          have i1 : ¬ ((b.toNat % 5 : Nat) : Int) = 1 := by omega
          by_cases c2 : b.toNat % 5 = 2
          · have hgb : gapB b = [10] := by simp [gapB, c2, d0, d1]
            have i2 : ((b.toNat % 5 : Nat) : Int) = 2 := by omega
            simp (dsimp := false) (implicitDefEqProofs := false) (maxSteps := 1000000) (disch := first | omega | assumption | (simp only [rL, Nat.reduceAdd]; done) | (simp only [rL, Nat.reduceAdd]; omega)) only [↓rD, rU, ev, ofConst, ofCell, ↓reduceIte, Nat.reduceEqDiff, Nat.reduceAdd, Nat.reduceSub, Nat.reduceMul, Nat.reduceLeDiff, Nat.reduceLT, Int.reduceNeg, Int.reduceToNat, Int.reduceAdd, Int.reduceSub, Int.reduceMul, Int.reduceLT, Int.reduceLE, Int.reduceEq, rX, List.drop_succ_cons, ↓rF, rG, ne_eq, not_true_eq_false, not_false_eq_true, Int.reduceNe, List.getElem?_cons_zero, List.getElem?_cons_succ, ↓rK, rM, f2, f3, f9, f11, f13, f14, i2, i0, i1]
            refine bsl_byte (b := 10) Hp.sub_refl fun o6 s6 h6 => ?_
            simp (dsimp := false) (implicitDefEqProofs := false) (maxSteps := 1000000) (disch := first | omega | assumption | (simp only [rL, Nat.reduceAdd]; done) | (simp only [rL, Nat.reduceAdd]; omega)) only [↓rD, rU, ev, ofConst, ofCell, ↓reduceIte, Nat.reduceEqDiff, Nat.reduceAdd, Nat.reduceSub, Nat.reduceMul, Nat.reduceLeDiff, Nat.reduceLT, Int.reduceNeg, Int.reduceToNat, Int.reduceAdd, Int.reduceSub, Int.reduceMul, Int.reduceLT, Int.reduceLE, Int.reduceEq, rX, List.drop_succ_cons, ↓rF, rG, ne_eq, not_true_eq_false, not_false_eq_true, Int.reduceNe, List.getElem?_cons_zero, List.getElem?_cons_succ, ↓rK, rM, f2, f3, f9, f11, f13, f14]
            refine (hb.mono h6.sub).app (ys := [10]) srcS_one (by simp; omega) fun a7 s7 h7 => ?_
            simp (dsimp := false) (implicitDefEqProofs := false) (maxSteps := 1000000) (disch := first | omega | assumption | (simp only [rL, Nat.reduceAdd]; done) | (simp only [rL, Nat.reduceAdd]; omega)) only [↓rD, rU, ev, ofConst, ofCell, ↓reduceIte, Nat.reduceEqDiff, Nat.reduceAdd, Nat.reduceSub, Nat.reduceMul, Nat.reduceLeDiff, Nat.reduceLT, Int.reduceNeg, Int.reduceToNat, Int.reduceAdd, Int.reduceSub, Int.reduceMul, Int.reduceLT, Int.reduceLE, Int.reduceEq, rX, List.drop_succ_cons, ↓rF, rG, ne_eq, not_true_eq_false, not_false_eq_true, Int.reduceNe, List.getElem?_cons_zero, List.getElem?_cons_succ, ↓rK, rM, f2, f3, f9, f11, f13, f14]
            refine ⟨⟨k + 1, a7, by omega, ?_, by simp⟩, by omega⟩
            rw [htk, hgb]; exact h7
          have d2 : ¬ b.toNat % 5 = 2 := c2
          have i2 : ¬ ((b.toNat % 5 : Nat) : Int) = 2 := by omega
          by_cases c3 : b.toNat % 5 = 3
          · have hgb : gapB b = [13] := by simp [gapB, c3, d0, d1, d2]
            have i3 : ((b.toNat % 5 : Nat) : Int) = 3 := by omega
            simp (dsimp := false) (implicitDefEqProofs := false) (maxSteps := 1000000) (disch := first | omega | assumption | (simp only [rL, Nat.reduceAdd]; done) | (simp only [rL, Nat.reduceAdd]; omega)) only [↓rD, rU, ev, ofConst, ofCell, ↓reduceIte, Nat.reduceEqDiff, Nat.reduceAdd, Nat.reduceSub, Nat.reduceMul, Nat.reduceLeDiff, Nat.reduceLT, Int.reduceNeg, Int.reduceToNat, Int.reduceAdd, Int.reduceSub, Int.reduceMul, Int.reduceLT, Int.reduceLE, Int.reduceEq, rX, List.drop_succ_cons, ↓rF, rG, ne_eq, not_true_eq_false, not_false_eq_true, Int.reduceNe, List.getElem?_cons_zero, List.getElem?_cons_succ, ↓rK, rM, f2, f3, f9, f11, f13, f14, i3, i0, i1, i2]
            refine bsl_byte (b := 13) Hp.sub_refl fun o6 s6 h6 => ?_
            simp (dsimp := false) (implicitDefEqProofs := false) (maxSteps := 1000000) (disch := first | omega | assumption | (simp only [rL, Nat.reduceAdd]; done) | (simp only [rL, Nat.reduceAdd]; omega)) only [↓rD, rU, ev, ofConst, ofCell, ↓reduceIte, Nat.reduceEqDiff, Nat.reduceAdd, Nat.reduceSub, Nat.reduceMul, Nat.reduceLeDiff, Nat.reduceLT, Int.reduceNeg, Int.reduceToNat, Int.reduceAdd, Int.reduceSub, Int.reduceMul, Int.reduceLT, Int.reduceLE, Int.reduceEq, rX, List.drop_succ_cons, ↓rF, rG, ne_eq, not_true_eq_false, not_false_eq_true, Int.reduceNe, List.getElem?_cons_zero, List.getElem?_cons_succ, ↓rK, rM, f2, f3, f9, f11, f13, f14]
            refine (hb.mono h6.sub).app (ys := [13]) srcS_one (by simp; omega) fun a7 s7 h7 => ?_
            simp (dsimp := false) (implicitDefEqProofs := false) (maxSteps := 1000000) (disch := first | omega | assumption | (simp only [rL, Nat.reduceAdd]; done) | (simp only [rL, Nat.reduceAdd]; omega)) only [↓rD, rU, ev, ofConst, ofCell, ↓reduceIte, Nat.reduceEqDiff, Nat.reduceAdd, Nat.reduceSub, Nat.reduceMul, Nat.reduceLeDiff, Nat.reduceLT, Int.reduceNeg, Int.reduceToNat, Int.reduceAdd, Int.reduceSub, Int.reduceMul, Int.reduceLT, Int.reduceLE, Int.reduceEq, rX, List.drop_succ_cons, ↓rF, rG, ne_eq, not_true_eq_false, not_false_eq_true, Int.reduceNe, List.getElem?_cons_zero, List.getElem?_cons_succ, ↓rK, rM, f2, f3, f9, f11, f13, f14]
            refine ⟨⟨k + 1, a7, by omega, ?_, by simp⟩, by omega⟩
            rw [htk, hgb]; exact h7
          have d3 : ¬ b.toNat % 5 = 3 := c3
          have i3 : ¬ ((b.toNat % 5 : Nat) : Int) = 3 := by omega
          have hgb : gapB b = [45, 45, 32, 40, 59, 10] := by simp [gapB, d0, d1, d2, d3]
          simp (dsimp := false) (implicitDefEqProofs := false) (maxSteps := 1000000) (disch := first | omega | assumption | (simp only [rL, Nat.reduceAdd]; done) | (simp only [rL, Nat.reduceAdd]; omega)) only [↓rD, rU, ev, ofConst, ofCell, ↓reduceIte, Nat.reduceEqDiff, Nat.reduceAdd, Nat.reduceSub, Nat.reduceMul, Nat.reduceLeDiff, Nat.reduceLT, Int.reduceNeg, Int.reduceToNat, Int.reduceAdd, Int.reduceSub, Int.reduceMul, Int.reduceLT, Int.reduceLE, Int.reduceEq, rX, List.drop_succ_cons, ↓rF, rG, ne_eq, not_true_eq_false, not_false_eq_true, Int.reduceNe, List.getElem?_cons_zero, List.getElem?_cons_succ, ↓rK, rM, f2, f3, f9, f11, f13, f14, i0, i1, i2, i3]
          refine hb.app (ys := [45, 45, 32, 40, 59, 10]) srcS_str (by simp; omega) fun a7 s7 h7 => ?_
          simp (dsimp := false) (implicitDefEqProofs := false) (maxSteps := 1000000) (disch := first | omega | assumption | (simp only [rL, Nat.reduceAdd]; done) | (simp only [rL, Nat.reduceAdd]; omega)) only [↓rD, rU, ev, ofConst, ofCell, ↓reduceIte, Nat.reduceEqDiff, Nat.reduceAdd, Nat.reduceSub, Nat.reduceMul, Nat.reduceLeDiff, Nat.reduceLT, Int.reduceNeg, Int.reduceToNat, Int.reduceAdd, Int.reduceSub, Int.reduceMul, Int.reduceLT, Int.reduceLE, Int.reduceEq, rX, List.drop_succ_cons, ↓rF, rG, ne_eq, not_true_eq_false, not_false_eq_true, Int.reduceNe, List.getElem?_cons_zero, List.getElem?_cons_succ, ↓rK, rM, f2, f3, f9, f11, f13, f14]
          refine ⟨⟨k + 1, a7, by omega, ?_, by simp⟩, by omega⟩
          rw [htk, hgb]; exact h7
        · obtain rfl : k = g.length := by omega
          rw [List.take_length] at hb hgk
          simp (dsimp := false) (implicitDefEqProofs := false) (maxSteps := 1000000) (disch := first | omega | assumption | (simp only [rL, Nat.reduceAdd]; done) | (simp only [rL, Nat.reduceAdd]; omega)) only [↓rD, rU, ev, ofConst, ofCell, ↓reduceIte, Nat.reduceEqDiff, Nat.reduceAdd, Nat.reduceSub, Nat.reduceMul, Nat.reduceLeDiff, Nat.reduceLT, Int.reduceNeg, Int.reduceToNat, Int.reduceAdd, Int.reduceSub, Int.reduceMul, Int.reduceLT, Int.reduceLE, Int.reduceEq, rX, List.drop_succ_cons, ↓rF, rG, ne_eq, not_true_eq_false, not_false_eq_true, Int.reduceNe, List.getElem?_cons_zero, List.getElem?_cons_succ, ↓rK, rM, f2, f3, f9, f11, f13, f14, hlt, List.length_map]
          refine call_intro (refText_spec us o3 s5 (by omega) (by omega)) ?_
          rintro _ s6 ⟨rfl, rfl⟩
          simp (dsimp := false) (implicitDefEqProofs := false) (maxSteps := 1000000) (disch := first | omega | assumption | (simp only [rL, Nat.reduceAdd]; done) | (simp only [rL, Nat.reduceAdd]; omega)) only [↓rD, rU, ev, ofConst, ofCell, ↓reduceIte, Nat.reduceEqDiff, Nat.reduceAdd, Nat.reduceSub, Nat.reduceMul, Nat.reduceLeDiff, Nat.reduceLT, Int.reduceNeg, Int.reduceToNat, Int.reduceAdd, Int.reduceSub, Int.reduceMul, Int.reduceLT, Int.reduceLE, Int.reduceEq, rX, List.drop_succ_cons, ↓rF, rG, ne_eq, not_true_eq_false, not_false_eq_true, Int.reduceNe, List.getElem?_cons_zero, List.getElem?_cons_succ, ↓rK, rM]
          refine hb.app (ys := joinT (texts us)) srcS_str (by simp; omega) fun a7 s7 h7 => ?_
          simp (dsimp := false) (implicitDefEqProofs := false) (maxSteps := 1000000) (disch := first | omega | assumption | (simp only [rL, Nat.reduceAdd]; done) | (simp only [rL, Nat.reduceAdd]; omega)) only [↓rD, rU, ev, ofConst, ofCell, ↓reduceIte, Nat.reduceEqDiff, Nat.reduceAdd, Nat.reduceSub, Nat.reduceMul, Nat.reduceLeDiff, Nat.reduceLT, Int.reduceNeg, Int.reduceToNat, Int.reduceAdd, Int.reduceSub, Int.reduceMul, Int.reduceLT, Int.reduceLE, Int.reduceEq, rX, List.drop_succ_cons, ↓rF, rG, ne_eq, not_true_eq_false, not_false_eq_true, Int.reduceNe, List.getElem?_cons_zero, List.getElem?_cons_succ, ↓rK, rM, f2, f3, f9, f11]
          obtain ⟨W, hW⟩ : ∃ W, W = pre1 ++ gapT g ++ joinT (texts us) := ⟨_, rfl⟩
          rw [← hW] at h7
          have hWl : W.length ≤ 10000 := by rw [hW]; simp; omega
          obtain ⟨fl, hfl⟩ : ∃ fl : UInt8 → UInt8, fl = if large then Lib.upperB else id := ⟨_, rfl⟩
          have hcas : cas fl := by rw [hfl]; cases large <;> simp [cas]
          refine loop_intro (fun f s' => ∃ j : Nat, j ≤ W.length ∧ (large = false → j = 0) ∧ BS s4 s' ((W.take j).map fl ++ W.drop j) a7 ∧ f 3 = .v (.bool large) ∧ f 9 = .sl (TL ts) o2 ∧ f 11 = .sl (TL us) o3 ∧ f 13 = a7 ∧ f 15 = .v (.int .i64 (j : Nat)))
            (fun f _ => match f 15 with | .v (.int _ n) => W.length - n.toNat | _ => 0) ⟨0, by omega, fun _ => rfl, ?_, ?_⟩ ?_
          · simpa using h7
          · simp (dsimp := false) (implicitDefEqProofs := false) (maxSteps := 1000000) (disch := first | omega | assumption | (simp only [rL, Nat.reduceAdd]; done) | (simp only [rL, Nat.reduceAdd]; omega)) only [↓rD, rU, ev, ofConst, ofCell, ↓reduceIte, Nat.reduceEqDiff, Nat.reduceAdd, Nat.reduceSub, Nat.reduceMul, Nat.reduceLeDiff, Nat.reduceLT, Int.reduceNeg, Int.reduceToNat, Int.reduceAdd, Int.reduceSub, Int.reduceMul, Int.reduceLT, Int.reduceLE, Int.reduceEq, rX, List.drop_succ_cons, ↓rF, rG, ne_eq, not_true_eq_false, not_false_eq_true, Int.reduceNe, List.getElem?_cons_zero, List.getElem?_cons_succ, ↓rK, rM, f3, f9, f11]
          · clear f2 f3 f9 f11 f13 f14 h7
            rintro f s7 ⟨j, hj, hj0, hb, f3, f9, f11, f13, f15⟩
            have hlenB : ((W.take j).map fl ++ W.drop j).length = W.length := by simp; omega
            have hlenA := hb.len
            rw [hlenB] at hlenA
            have fin : (large = true → j = W.length) → (W.take j).map fl ++ W.drop j = W.map fl := fun h => by
              cases hlg : large with
              | true => rw [h hlg]; simp
              | false =>
                rw [hj0 hlg]
                have : fl = id := by rw [hfl, hlg]; rfl
                rw [this]; simp
            cases hlg : large with
            | false =>
              rw [hlg] at f3
              have hfin := fin (fun h => by rw [hlg] at h; cases h)
              rw [hfin] at hb
              simp (dsimp := false) (implicitDefEqProofs := false) (maxSteps := 1000000) (disch := first | omega | assumption | (simp only [rL, Nat.reduceAdd]; done) | (simp only [rL, Nat.reduceAdd]; omega)) only [↓rD, rU, ev, ofConst, ofCell, ↓reduceIte, Nat.reduceEqDiff, Nat.reduceAdd, Nat.reduceSub, Nat.reduceMul, Nat.reduceLeDiff, Nat.reduceLT, Int.reduceNeg, Int.reduceToNat, Int.reduceAdd, Int.reduceSub, Int.reduceMul, Int.reduceLT, Int.reduceLE, Int.reduceEq, rX, List.drop_succ_cons, ↓rF, rG, ne_eq, not_true_eq_false, not_false_eq_true, Int.reduceNe, List.getElem?_cons_zero, List.getElem?_cons_succ, ↓rK, rM, f3, f9, f11, f13, f15, hb.str]
              refine call_intro (Lex_spec (W.map fl) s7 (hT.mono (Hp.sub_trans h13 hb.sub))) ?_
              intro r s8 h8
              by_cases c4 : (1000 : Int) < (W.length : Int)
              · have e2 : lexT (W.map fl) = .error 10 := by rw [lexT, if_pos (by rw [List.length_map]; omega)]
                rw [e2] at h8
                obtain ⟨h8, rfl⟩ := h8
                simp (dsimp := false) (implicitDefEqProofs := false) (maxSteps := 1000000) (disch := first | omega | assumption | (simp only [rL, Nat.reduceAdd]; done) | (simp only [rL, Nat.reduceAdd]; omega)) only [↓rD, rU, ev, ofConst, ofCell, ↓reduceIte, Nat.reduceEqDiff, Nat.reduceAdd, Nat.reduceSub, Nat.reduceMul, Nat.reduceLeDiff, Nat.reduceLT, Int.reduceNeg, Int.reduceToNat, Int.reduceAdd, Int.reduceSub, Int.reduceMul, Int.reduceLT, Int.reduceLE, Int.reduceEq, rX, List.drop_succ_cons, ↓rF, rG, ne_eq, not_true_eq_false, not_false_eq_true, Int.reduceNe, List.getElem?_cons_zero, List.getElem?_cons_succ, ↓rK, rM, f3, f9, f11, f13, f15, hlenA, c4]
                exact ⟨_, Hp.sub_refl, Hp.sub_trans h13 (Hp.sub_trans hb.sub h8), rfl⟩
              · have hWeq : W = joinT (texts ts) ++ [32] ++ gapT g ++ joinT (texts us) := by rw [hW, ← hpre]
                have hex := lexT_blanks hcas hx hy (g := g) (by rw [← hWeq, List.length_map]; omega)
                rw [← hWeq] at hex
                obtain ⟨vs, hv, he⟩ := hex
                rw [hv] at h8
                obtain ⟨o8, h8, rfl⟩ := h8
                simp (dsimp := false) (implicitDefEqProofs := false) (maxSteps := 1000000) (disch := first | omega | assumption | (simp only [rL, Nat.reduceAdd]; done) | (simp only [rL, Nat.reduceAdd]; omega)) only [↓rD, rU, ev, ofConst, ofCell, ↓reduceIte, Nat.reduceEqDiff, Nat.reduceAdd, Nat.reduceSub, Nat.reduceMul, Nat.reduceLeDiff, Nat.reduceLT, Int.reduceNeg, Int.reduceToNat, Int.reduceAdd, Int.reduceSub, Int.reduceMul, Int.reduceLT, Int.reduceLE, Int.reduceEq, rX, List.drop_succ_cons, ↓rF, rG, ne_eq, not_true_eq_false, not_false_eq_true, Int.reduceNe, List.getElem?_cons_zero, List.getElem?_cons_succ, ↓rK, rM, f3, f9, f11, f13, f15, hlenA, c4]
                have hlT : (TL ts).length = ts.length := by simp [TL]
                have hlU : (TL us).length = us.length := by simp [TL]
                refine app_own (h2.mono (Hp.sub_trans h3.sub (Hp.sub_trans hb.sub h8.sub))) TL_len TL_len (by rw [hlT, hlU]; omega) (by rw [hlT, hlU]; omega) fun o9 s9 h9 => ?_
                rw [TL_app] at h9 ⊢
                have hvl : vs.length = ts.length + us.length := by have := congrArg List.length he; simp only [toks_len, List.length_append] at this; exact this
                simp (dsimp := false) (implicitDefEqProofs := false) (maxSteps := 1000000) (disch := first | omega | assumption | (simp only [rL, Nat.reduceAdd]; done) | (simp only [rL, Nat.reduceAdd]; omega)) only [↓rD, rU, ev, ofConst, ofCell, ↓reduceIte, Nat.reduceEqDiff, Nat.reduceAdd, Nat.reduceSub, Nat.reduceMul, Nat.reduceLeDiff, Nat.reduceLT, Int.reduceNeg, Int.reduceToNat, Int.reduceAdd, Int.reduceSub, Int.reduceMul, Int.reduceLT, Int.reduceLE, Int.reduceEq, rX, List.drop_succ_cons, ↓rF, rG, ne_eq, not_true_eq_false, not_false_eq_true, Int.reduceNe, List.getElem?_cons_zero, List.getElem?_cons_succ, ↓rK, rM]
                refine call_intro (Same_spec vs (ts ++ us) o8 o9 s9 (by omega) (by simp; omega) he) ?_
                rintro _ s10 ⟨rfl, rfl⟩
                simp (dsimp := false) (implicitDefEqProofs := false) (maxSteps := 1000000) (disch := first | omega | assumption | (simp only [rL, Nat.reduceAdd]; done) | (simp only [rL, Nat.reduceAdd]; omega)) only [↓rD, rU, ev, ofConst, ofCell, ↓reduceIte, Nat.reduceEqDiff, Nat.reduceAdd, Nat.reduceSub, Nat.reduceMul, Nat.reduceLeDiff, Nat.reduceLT, Int.reduceNeg, Int.reduceToNat, Int.reduceAdd, Int.reduceSub, Int.reduceMul, Int.reduceLT, Int.reduceLE, Int.reduceEq, rX, List.drop_succ_cons, ↓rF, rG, ne_eq, not_true_eq_false, not_false_eq_true, Int.reduceNe, List.getElem?_cons_zero, List.getElem?_cons_succ, ↓rK, rM]
                exact ⟨_, Hp.sub_refl, Hp.sub_trans hs1 h9.sub⟩
            | true =>
              rw [hlg] at f3
              by_cases hlt : (j : Int) < (W.length : Int)
              · have hj' : j < W.length := by omega
                obtain ⟨b, hbj⟩ : ∃ b, W[j]? = some b := ⟨_, List.getElem?_eq_getElem hj'⟩
                have hdj : W.drop j = b :: W.drop (j + 1) := by
                  rw [List.drop_eq_getElem_cons hj']; congr 1
                  rw [List.getElem?_eq_getElem hj'] at hbj; exact Option.some.inj hbj
                have htl : ((W.take j).map fl).length = j := by simp; omega
                have hbj2 : ((W.take j).map fl ++ W.drop j)[j]? = some b := by
                  rw [List.getElem?_append_right (by omega), htl, hdj]; simp
                have hset : ∀ c, c = fl b → ((W.take j).map fl ++ W.drop j).set j c = (W.take (j + 1)).map fl ++ W.drop (j + 1) := by
                  rintro c rfl
                  have e : ((W.take j).map fl ++ W.drop j).set j (fl b) = (W.take j).map fl ++ (W.drop j).set 0 (fl b) := by
                    rw [List.set_append_right _ _ (by omega), htl, Nat.sub_self]
                  rw [e, hdj, List.take_succ, hbj]; simp
                have hflb : fl = Lib.upperB := by rw [hfl, hlg]; rfl
                obtain ⟨la, cs, gi, gr, grd, gst⟩ := hb.get hbj2
                by_cases h97 : (97 : Int) ≤ (b.toNat : Int)
                · by_cases h122 : (b.toNat : Int) ≤ 122
                  · have hw := upper_ge (b := b) (by omega) (by omega)
                    have gw : binV .sub (.int .u8 (b.toNat : Int)) (.int .u8 32) = some (.int .u8 (Lib.upperB b).toNat) := by
                      simp only [binV, isShift, binInt, Bool.false_eq_true, if_false, if_true, hw]
                    simp (dsimp := false) (implicitDefEqProofs := false) (maxSteps := 1000000) (disch := first | omega | assumption | (simp only [rL, Nat.reduceAdd]; done) | (simp only [rL, Nat.reduceAdd]; omega)) only [↓rD, rU, ev, ofConst, ofCell, ↓reduceIte, Nat.reduceEqDiff, Nat.reduceAdd, Nat.reduceSub, Nat.reduceMul, Nat.reduceLeDiff, Nat.reduceLT, Int.reduceNeg, Int.reduceToNat, Int.reduceAdd, Int.reduceSub, Int.reduceMul, Int.reduceLT, Int.reduceLE, Int.reduceEq, rX, List.drop_succ_cons, ↓rF, rG, ne_eq, not_true_eq_false, not_false_eq_true, Int.reduceNe, List.getElem?_cons_zero, List.getElem?_cons_succ, ↓rK, rM, f3, f9, f11, f13, f15, hlenA, hlt, gi, gr, grd, h97, h122, gw]
                    refine gst (Lib.upperB b) _ _ fun s8 h8 => ?_
                    rw [hset _ (by rw [hflb])] at h8
                    simp (dsimp := false) (implicitDefEqProofs := false) (maxSteps := 1000000) (disch := first | omega | assumption | (simp only [rL, Nat.reduceAdd]; done) | (simp only [rL, Nat.reduceAdd]; omega)) only [↓rD, rU, ev, ofConst, ofCell, ↓reduceIte, Nat.reduceEqDiff, Nat.reduceAdd, Nat.reduceSub, Nat.reduceMul, Nat.reduceLeDiff, Nat.reduceLT, Int.reduceNeg, Int.reduceToNat, Int.reduceAdd, Int.reduceSub, Int.reduceMul, Int.reduceLT, Int.reduceLE, Int.reduceEq, rX, List.drop_succ_cons, ↓rF, rG, ne_eq, not_true_eq_false, not_false_eq_true, Int.reduceNe, List.getElem?_cons_zero, List.getElem?_cons_succ, ↓rK, rM, f3, f9, f11, f13, f15]
                    refine ⟨⟨j + 1, by omega, (fun h => by cases h), h8, by simp⟩, by omega⟩
                  · have hu := upper_lt (b := b) (by omega)
                    have hsame := hset b (by rw [hflb, hu])
                    rw [List.set_getElem?_self hbj2] at hsame
                    simp (dsimp := false) (implicitDefEqProofs := false) (maxSteps := 1000000) (disch := first | omega | assumption | (simp only [rL, Nat.reduceAdd]; done) | (simp only [rL, Nat.reduceAdd]; omega)) only [↓rD, rU, ev, ofConst, ofCell, ↓reduceIte, Nat.reduceEqDiff, Nat.reduceAdd, Nat.reduceSub, Nat.reduceMul, Nat.reduceLeDiff, Nat.reduceLT, Int.reduceNeg, Int.reduceToNat, Int.reduceAdd, Int.reduceSub, Int.reduceMul, Int.reduceLT, Int.reduceLE, Int.reduceEq, rX, List.drop_succ_cons, ↓rF, rG, ne_eq, not_true_eq_false, not_false_eq_true, Int.reduceNe, List.getElem?_cons_zero, List.getElem?_cons_succ, ↓rK, rM, f3, f9, f11, f13, f15, hlenA, hlt, gi, gr, grd, h97, h122]
                    refine ⟨⟨j + 1, by omega, (fun h => by cases h), by rw [← hsame]; exact hb, by simp⟩, by omega⟩
                · have hu := upper_lt (b := b) (by omega)
                  have hsame := hset b (by rw [hflb, hu])
                  rw [List.set_getElem?_self hbj2] at hsame
                  simp (dsimp := false) (implicitDefEqProofs := false) (maxSteps := 1000000) (disch := first | omega | assumption | (simp only [rL, Nat.reduceAdd]; done) | (simp only [rL, Nat.reduceAdd]; omega)) only [↓rD, rU, ev, ofConst, ofCell, ↓reduceIte, Nat.reduceEqDiff, Nat.reduceAdd, Nat.reduceSub, Nat.reduceMul, Nat.reduceLeDiff, Nat.reduceLT, Int.reduceNeg, Int.reduceToNat, Int.reduceAdd, Int.reduceSub, Int.reduceMul, Int.reduceLT, Int.reduceLE, Int.reduceEq, rX, List.drop_succ_cons, ↓rF, rG, ne_eq, not_true_eq_false, not_false_eq_true, Int.reduceNe, List.getElem?_cons_zero, List.getElem?_cons_succ, ↓rK, rM, f3, f9, f11, f13, f15, hlenA, hlt, gi, gr, grd, h97]
                  refine ⟨⟨j + 1, by omega, (fun h => by cases h), by rw [← hsame]; exact hb, by simp⟩, by omega⟩
              · have hfin := fin (fun _ => by omega)
                rw [hfin] at hb
                simp (dsimp := false) (implicitDefEqProofs := false) (maxSteps := 1000000) (disch := first | omega | assumption | (simp only [rL, Nat.reduceAdd]; done) | (simp only [rL, Nat.reduceAdd]; omega)) only [↓rD, rU, ev, ofConst, ofCell, ↓reduceIte, Nat.reduceEqDiff, Nat.reduceAdd, Nat.reduceSub, Nat.reduceMul, Nat.reduceLeDiff, Nat.reduceLT, Int.reduceNeg, Int.reduceToNat, Int.reduceAdd, Int.reduceSub, Int.reduceMul, Int.reduceLT, Int.reduceLE, Int.reduceEq, rX, List.drop_succ_cons, ↓rF, rG, ne_eq, not_true_eq_false, not_false_eq_true, Int.reduceNe, List.getElem?_cons_zero, List.getElem?_cons_succ, ↓rK, rM, f3, f9, f11, f13, f15, hlenA, hlt, hb.str]
                refine call_intro (Lex_spec (W.map fl) s7 (hT.mono (Hp.sub_trans h13 hb.sub))) ?_
                intro r s8 h8
                by_cases c4 : (1000 : Int) < (W.length : Int)
                · have e2 : lexT (W.map fl) = .error 10 := by rw [lexT, if_pos (by rw [List.length_map]; omega)]
                  rw [e2] at h8
                  obtain ⟨h8, rfl⟩ := h8
                  simp (dsimp := false) (implicitDefEqProofs := false) (maxSteps := 1000000) (disch := first | omega | assumption | (simp only [rL, Nat.reduceAdd]; done) | (simp only [rL, Nat.reduceAdd]; omega)) only [↓rD, rU, ev, ofConst, ofCell, ↓reduceIte, Nat.reduceEqDiff, Nat.reduceAdd, Nat.reduceSub, Nat.reduceMul, Nat.reduceLeDiff, Nat.reduceLT, Int.reduceNeg, Int.reduceToNat, Int.reduceAdd, Int.reduceSub, Int.reduceMul, Int.reduceLT, Int.reduceLE, Int.reduceEq, rX, List.drop_succ_cons, ↓rF, rG, ne_eq, not_true_eq_false, not_false_eq_true, Int.reduceNe, List.getElem?_cons_zero, List.getElem?_cons_succ, ↓rK, rM, f3, f9, f11, f13, f15, hlenA, c4]
                  exact ⟨_, Hp.sub_refl, Hp.sub_trans h13 (Hp.sub_trans hb.sub h8), rfl⟩
                · have hWeq : W = joinT (texts ts) ++ [32] ++ gapT g ++ joinT (texts us) := by rw [hW, ← hpre]
                  have hex := lexT_blanks hcas hx hy (g := g) (by rw [← hWeq, List.length_map]; omega)
                  rw [← hWeq] at hex
                  obtain ⟨vs, hv, he⟩ := hex
                  rw [hv] at h8
                  obtain ⟨o8, h8, rfl⟩ := h8
                  simp (dsimp := false) (implicitDefEqProofs := false) (maxSteps := 1000000) (disch := first | omega | assumption | (simp only [rL, Nat.reduceAdd]; done) | (simp only [rL, Nat.reduceAdd]; omega)) only [↓rD, rU, ev, ofConst, ofCell, ↓reduceIte, Nat.reduceEqDiff, Nat.reduceAdd, Nat.reduceSub, Nat.reduceMul, Nat.reduceLeDiff, Nat.reduceLT, Int.reduceNeg, Int.reduceToNat, Int.reduceAdd, Int.reduceSub, Int.reduceMul, Int.reduceLT, Int.reduceLE, Int.reduceEq, rX, List.drop_succ_cons, ↓rF, rG, ne_eq, not_true_eq_false, not_false_eq_true, Int.reduceNe, List.getElem?_cons_zero, List.getElem?_cons_succ, ↓rK, rM, f3, f9, f11, f13, f15, hlenA, c4]
                  have hlT : (TL ts).length = ts.length := by simp [TL]
                  have hlU : (TL us).length = us.length := by simp [TL]
                  refine app_own (h2.mono (Hp.sub_trans h3.sub (Hp.sub_trans hb.sub h8.sub))) TL_len TL_len (by rw [hlT, hlU]; omega) (by rw [hlT, hlU]; omega) fun o9 s9 h9 => ?_
                  rw [TL_app] at h9 ⊢
                  have hvl : vs.length = ts.length + us.length := by have := congrArg List.length he; simp only [toks_len, List.length_append] at this; exact this
                  simp (dsimp := false) (implicitDefEqProofs := false) (maxSteps := 1000000) (disch := first | omega | assumption | (simp only [rL, Nat.reduceAdd]; done) | (simp only [rL, Nat.reduceAdd]; omega)) only [↓rD, rU, ev, ofConst, ofCell, ↓reduceIte, Nat.reduceEqDiff, Nat.reduceAdd, Nat.reduceSub, Nat.reduceMul, Nat.reduceLeDiff, Nat.reduceLT, Int.reduceNeg, Int.reduceToNat, Int.reduceAdd, Int.reduceSub, Int.reduceMul, Int.reduceLT, Int.reduceLE, Int.reduceEq, rX, List.drop_succ_cons, ↓rF, rG, ne_eq, not_true_eq_false, not_false_eq_true, Int.reduceNe, List.getElem?_cons_zero, List.getElem?_cons_succ, ↓rK, rM]
                  refine call_intro (Same_spec vs (ts ++ us) o8 o9 s9 (by omega) (by simp; omega) he) ?_
                  rintro _ s10 ⟨rfl, rfl⟩
                  simp (dsimp := false) (implicitDefEqProofs := false) (maxSteps := 1000000) (disch := first | omega | assumption | (simp only [rL, Nat.reduceAdd]; done) | (simp only [rL, Nat.reduceAdd]; omega)) only [↓rD, rU, ev, ofConst, ofCell, ↓reduceIte, Nat.reduceEqDiff, Nat.reduceAdd, Nat.reduceSub, Nat.reduceMul, Nat.reduceLeDiff, Nat.reduceLT, Int.reduceNeg, Int.reduceToNat, Int.reduceAdd, Int.reduceSub, Int.reduceMul, Int.reduceLT, Int.reduceLE, Int.reduceEq, rX, List.drop_succ_cons, ↓rF, rG, ne_eq, not_true_eq_false, not_false_eq_true, Int.reduceNe, List.getElem?_cons_zero, List.getElem?_cons_succ, ↓rK, rM]
                  exact ⟨_, Hp.sub_refl, Hp.sub_trans hs1 h9.sub⟩
end Go.Proofs.YtpbicmjkjihhnaaDoor
