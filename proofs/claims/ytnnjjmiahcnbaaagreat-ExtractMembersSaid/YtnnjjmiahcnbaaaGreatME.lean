/- Merged by program from smaller texts; what is proved stands in the last text of the claim. -/
import Derived.Test.YtnnjjmiahcnbaaaGreatMD
import Derived.Test.YtnnjjmiahcnbaaaGreatProg
import Derived.Test.YtnnjjmiahcnbaaaGreatMB
import Derived.KernelRfl
set_option linter.all false
set_option maxRecDepth 100000
set_option maxHeartbeats 1000000
namespace Go.Proofs.YtnnjjmiahcnbaaaGreat
open Go Go.Av
def growOk (m n : Int) : Bool := decide (1 ≤ m ∧ m ≤ n ∧ n ≤ 1099511627776)
theorem GrowPre_spec (a : List UInt8) (m n : Int) (ds : List (List UInt8)) (o : Own) (s : Hp) (ha : a.length = 32) (hd : Digs ds) (hl : ds.length ≤ 400000) :
    AC Tryz.prog 21 [dg a, .v (.int .i64 m), .v (.int .i64 n), .sl (ds.map dg) o] s fun r s' => ∃ tso o', r = .sl (TX tso) o' ∧ Owned s s' 1 (TX tso) o' ∧ tso.map (·.1) = (if growOk m n = true then (bothF a m.toNat n.toNat true ds).ts else []) := by
  refine AC_run hm prep21 (by simp) ?_
  simp (dsimp := false) (implicitDefEqProofs := false) (disch := first | omega | assumption | (simp only [rL, Nat.reduceAdd]; try omega)) only [↓rD, rU, ev, ofConst, ofCell, ↓reduceIte, Nat.reduceEqDiff, Nat.reduceAdd, Nat.reduceSub, Nat.reduceMul, Nat.reduceLeDiff, Nat.reduceLT, Int.reduceNeg, Int.reduceToNat, Int.reduceAdd, Int.reduceSub, Int.reduceMul, Int.reduceLT, Int.reduceLE, Int.reduceEq, rX, dg_cells, dg_fold, List.drop_succ_cons, ha]
  refine newK_intro fun l4 n4 => ?_
  simp (dsimp := false) (implicitDefEqProofs := false) (disch := first | omega | assumption | (simp only [rL, Nat.reduceAdd]; try omega)) only [↓rD, rU, ev, ofConst, ofCell, ↓reduceIte, Nat.reduceEqDiff, Nat.reduceAdd, Nat.reduceSub, Nat.reduceMul, Nat.reduceLeDiff, Nat.reduceLT, Int.reduceNeg, Int.reduceToNat, Int.reduceAdd, Int.reduceSub, Int.reduceMul, Int.reduceLT, Int.reduceLE, Int.reduceEq, rX, dg_cells, dg_fold, List.drop_succ_cons, ha]
  have fin : s.sub (s.set l4 (.cells (a.map byteAV))) := Hp.sub_new Hp.sub_refl n4
  by_cases c1 : m < 1
  · have hp : growOk m n = false := by simp [growOk]; omega
    simp (dsimp := false) (implicitDefEqProofs := false) (disch := first | omega | assumption | (simp only [rL, Nat.reduceAdd]; try omega)) only [↓rD, rU, ev, ofConst, ofCell, ↓reduceIte, Nat.reduceEqDiff, Nat.reduceAdd, Nat.reduceSub, Nat.reduceMul, Nat.reduceLeDiff, Nat.reduceLT, Int.reduceNeg, Int.reduceToNat, Int.reduceAdd, Int.reduceSub, Int.reduceMul, Int.reduceLT, Int.reduceLE, Int.reduceEq, rX, dg_cells, dg_fold, List.drop_succ_cons, c1]
    exact ⟨_, Hp.sub_refl, [], .nil, rfl, Owned.nil fin, by rw [hp]; rfl⟩
  · by_cases c2 : n < m
    · have hp : growOk m n = false := by simp [growOk]; omega
      simp (dsimp := false) (implicitDefEqProofs := false) (disch := first | omega | assumption | (simp only [rL, Nat.reduceAdd]; try omega)) only [↓rD, rU, ev, ofConst, ofCell, ↓reduceIte, Nat.reduceEqDiff, Nat.reduceAdd, Nat.reduceSub, Nat.reduceMul, Nat.reduceLeDiff, Nat.reduceLT, Int.reduceNeg, Int.reduceToNat, Int.reduceAdd, Int.reduceSub, Int.reduceMul, Int.reduceLT, Int.reduceLE, Int.reduceEq, rX, dg_cells, dg_fold, List.drop_succ_cons, c1, c2]
      exact ⟨_, Hp.sub_refl, [], .nil, rfl, Owned.nil fin, by rw [hp]; rfl⟩
    · by_cases c3 : 1099511627776 < n
      · have hp : growOk m n = false := by simp [growOk]; omega
        simp (dsimp := false) (implicitDefEqProofs := false) (disch := first | omega | assumption | (simp only [rL, Nat.reduceAdd]; try omega)) only [↓rD, rU, ev, ofConst, ofCell, ↓reduceIte, Nat.reduceEqDiff, Nat.reduceAdd, Nat.reduceSub, Nat.reduceMul, Nat.reduceLeDiff, Nat.reduceLT, Int.reduceNeg, Int.reduceToNat, Int.reduceAdd, Int.reduceSub, Int.reduceMul, Int.reduceLT, Int.reduceLE, Int.reduceEq, rX, dg_cells, dg_fold, List.drop_succ_cons, c1, c2, c3]
        exact ⟨_, Hp.sub_refl, [], .nil, rfl, Owned.nil fin, by rw [hp]; rfl⟩
      · have hp : growOk m n = true := by simp [growOk]; omega
        obtain ⟨m, rfl⟩ : ∃ k : Nat, m = k := ⟨m.toNat, by omega⟩
        obtain ⟨n, rfl⟩ : ∃ k : Nat, n = k := ⟨n.toNat, by omega⟩
        have e : putAt [AV.sl [] Own.nil, AV.sl [] Own.nil, AV.v (Value.bool false)] 0 [AV.sl (List.map dg ds) o] = [.sl (ds.map dg) o, .sl [] .nil, .v (.bool false)] := rfl
        simp (dsimp := false) (implicitDefEqProofs := false) (disch := first | omega | assumption | (simp only [rL, Nat.reduceAdd]; try omega)) only [↓rD, rU, ev, ofConst, ofCell, ↓reduceIte, Nat.reduceEqDiff, Nat.reduceAdd, Nat.reduceSub, Nat.reduceMul, Nat.reduceLeDiff, Nat.reduceLT, Int.reduceNeg, Int.reduceToNat, Int.reduceAdd, Int.reduceSub, Int.reduceMul, Int.reduceLT, Int.reduceLE, Int.reduceEq, rX, dg_cells, dg_fold, List.drop_succ_cons, c1, c2, c3, e]
        refine newK_intro fun l n10 => ?_
        obtain ⟨dl4, el⟩ := Hp.set_none n10
        simp (dsimp := false) (implicitDefEqProofs := false) (disch := first | omega | assumption | (simp only [rL, Nat.reduceAdd]; try omega)) only [↓rD, rU, ev, ofConst, ofCell, ↓reduceIte, Nat.reduceEqDiff, Nat.reduceAdd, Nat.reduceSub, Nat.reduceMul, Nat.reduceLeDiff, Nat.reduceLT, Int.reduceNeg, Int.reduceToNat, Int.reduceAdd, Int.reduceSub, Int.reduceMul, Int.reduceLT, Int.reduceLE, Int.reduceEq, rX, dg_cells, dg_fold, List.drop_succ_cons, e, ha]
        have hP : PS (s.set l4 (dc a)) l ds [] false ((s.set l4 (dc a)).set l (.cells [.sl (ds.map dg) o, .sl [] .nil, .v (.bool false)])) := ⟨o, .nil, [], rfl, Owned.nil Hp.sub_refl⟩
        refine call_intro (both_spec _ a m n true ds [] _ _ l rfl (by omega) (by omega) (by omega) ha hd (by simp; omega) hP) ?_
        rintro _ s2 ⟨rfl, h⟩
        rw [hp, Int.toNat_natCast, Int.toNat_natCast]
        simp only [List.nil_append, if_true] at h ⊢
        generalize bothF a m n true ds = u at *
        obtain ⟨od, ot, tso, q1, q2⟩ := h
        have hl := q2.sub _ _ (Hp.set_same _ _ _)
        simp (dsimp := false) (implicitDefEqProofs := false) (disch := first | omega | assumption | (simp only [rL, Nat.reduceAdd]; try omega)) only [↓rD, rU, ev, ofConst, ofCell, ↓reduceIte, Nat.reduceEqDiff, Nat.reduceAdd, Nat.reduceSub, Nat.reduceMul, Nat.reduceLeDiff, Nat.reduceLT, Int.reduceNeg, Int.reduceToNat, Int.reduceAdd, Int.reduceSub, Int.reduceMul, Int.reduceLT, Int.reduceLE, Int.reduceEq, rX, dg_cells, dg_fold, List.drop_succ_cons, Hp.read_of hl]
        exact ⟨_, Hp.sub_refl, tso, ot, rfl, q2.base (Hp.sub_new fin el), q1⟩
def growsF (a : List UInt8) (m : Int) (b : List UInt8) (n : Int) (ds : List (List UInt8)) : Bool :=
  if m < 0 ∨ n < m ∨ 1099511627776 < n then false
  else if m = 0 then decide (a = sha256 (preB 72 [])) && decide (ds.length = 0)
  else !(bothF a m.toNat n.toNat true ds).lk && decide ((bothF a m.toNat n.toNat true ds).ds.length = 0) && decide ((bothF a m.toNat n.toNat true ds).x = a) && decide ((bothF a m.toNat n.toNat true ds).y = b)
theorem Grows_spec (a : List UInt8) (m : Int) (b : List UInt8) (n : Int) (ds : List (List UInt8)) (o : Own) (s : Hp) (ha : a.length = 32) (hb : b.length = 32) (hd : Digs ds) (hl : ds.length ≤ 400000) :
    AC Tryz.prog 26 [dg a, .v (.int .i64 m), dg b, .v (.int .i64 n), .sl (ds.map dg) o] s fun r s' => s' = s ∧ r = .v (.bool (growsF a m b n ds)) := by
  refine AC_run hm prep26 (by simp) ?_
  simp (dsimp := false) (implicitDefEqProofs := false) (disch := first | omega | assumption | (simp only [rL, Nat.reduceAdd]; try omega)) only [↓rD, rU, ev, ofConst, ofCell, ↓reduceIte, Nat.reduceEqDiff, Nat.reduceAdd, Nat.reduceSub, Nat.reduceMul, Nat.reduceLeDiff, Nat.reduceLT, Int.reduceNeg, Int.reduceToNat, Int.reduceAdd, Int.reduceSub, Int.reduceMul, Int.reduceLT, Int.reduceLE, Int.reduceEq, rX, dg_cells, dg_fold, List.drop_succ_cons, ha]
  refine newK_intro fun l5 n5 => ?_
  simp (dsimp := false) (implicitDefEqProofs := false) (disch := first | omega | assumption | (simp only [rL, Nat.reduceAdd]; try omega)) only [↓rD, rU, ev, ofConst, ofCell, ↓reduceIte, Nat.reduceEqDiff, Nat.reduceAdd, Nat.reduceSub, Nat.reduceMul, Nat.reduceLeDiff, Nat.reduceLT, Int.reduceNeg, Int.reduceToNat, Int.reduceAdd, Int.reduceSub, Int.reduceMul, Int.reduceLT, Int.reduceLE, Int.reduceEq, rX, dg_cells, dg_fold, List.drop_succ_cons, hb]
  refine newK_intro fun l7 n7 => ?_
  obtain ⟨d75, e7⟩ := Hp.set_none n7
  have fin : s.sub ((s.set l5 (.cells (a.map byteAV))).set l7 (.cells (b.map byteAV))) := Hp.sub_new (Hp.sub_new Hp.sub_refl n5) e7
  simp (dsimp := false) (implicitDefEqProofs := false) (disch := first | omega | assumption | (simp only [rL, Nat.reduceAdd]; try omega)) only [↓rD, rU, ev, ofConst, ofCell, ↓reduceIte, Nat.reduceEqDiff, Nat.reduceAdd, Nat.reduceSub, Nat.reduceMul, Nat.reduceLeDiff, Nat.reduceLT, Int.reduceNeg, Int.reduceToNat, Int.reduceAdd, Int.reduceSub, Int.reduceMul, Int.reduceLT, Int.reduceLE, Int.reduceEq, rX, dg_cells, dg_fold, List.drop_succ_cons]
  by_cases c1 : m < 0
  · have hp : growsF a m b n ds = false := by simp [growsF, c1]
    simp (dsimp := false) (implicitDefEqProofs := false) (disch := first | omega | assumption | (simp only [rL, Nat.reduceAdd]; try omega)) only [↓rD, rU, ev, ofConst, ofCell, ↓reduceIte, Nat.reduceEqDiff, Nat.reduceAdd, Nat.reduceSub, Nat.reduceMul, Nat.reduceLeDiff, Nat.reduceLT, Int.reduceNeg, Int.reduceToNat, Int.reduceAdd, Int.reduceSub, Int.reduceMul, Int.reduceLT, Int.reduceLE, Int.reduceEq, rX, dg_cells, dg_fold, List.drop_succ_cons, c1]
    exact ⟨s, fin, rfl, by rw [hp]⟩
  · by_cases c2 : n < m
    · have hp : growsF a m b n ds = false := by simp [growsF, c2]
      simp (dsimp := false) (implicitDefEqProofs := false) (disch := first | omega | assumption | (simp only [rL, Nat.reduceAdd]; try omega)) only [↓rD, rU, ev, ofConst, ofCell, ↓reduceIte, Nat.reduceEqDiff, Nat.reduceAdd, Nat.reduceSub, Nat.reduceMul, Nat.reduceLeDiff, Nat.reduceLT, Int.reduceNeg, Int.reduceToNat, Int.reduceAdd, Int.reduceSub, Int.reduceMul, Int.reduceLT, Int.reduceLE, Int.reduceEq, rX, dg_cells, dg_fold, List.drop_succ_cons, c1, c2]
      exact ⟨s, fin, rfl, by rw [hp]⟩
    · by_cases c3 : 1099511627776 < n
      · have hp : growsF a m b n ds = false := by simp [growsF, c3]
        simp (dsimp := false) (implicitDefEqProofs := false) (disch := first | omega | assumption | (simp only [rL, Nat.reduceAdd]; try omega)) only [↓rD, rU, ev, ofConst, ofCell, ↓reduceIte, Nat.reduceEqDiff, Nat.reduceAdd, Nat.reduceSub, Nat.reduceMul, Nat.reduceLeDiff, Nat.reduceLT, Int.reduceNeg, Int.reduceToNat, Int.reduceAdd, Int.reduceSub, Int.reduceMul, Int.reduceLT, Int.reduceLE, Int.reduceEq, rX, dg_cells, dg_fold, List.drop_succ_cons, c1, c2, c3]
        exact ⟨s, fin, rfl, by rw [hp]⟩
      · by_cases c4 : m = 0
        · have hp : growsF a m b n ds = (decide (a = sha256 (preB 72 [])) && decide (ds.length = 0)) := by
            rw [growsF, if_neg (by omega), if_pos c4]
          rw [hp]
          subst c4
          simp (dsimp := false) (implicitDefEqProofs := false) (disch := first | omega | assumption | (simp only [rL, Nat.reduceAdd]; try omega)) only [↓rD, rU, ev, ofConst, ofCell, ↓reduceIte, Nat.reduceEqDiff, Nat.reduceAdd, Nat.reduceSub, Nat.reduceMul, Nat.reduceLeDiff, Nat.reduceLT, Int.reduceNeg, Int.reduceToNat, Int.reduceAdd, Int.reduceSub, Int.reduceMul, Int.reduceLT, Int.reduceLE, Int.reduceEq, rX, dg_cells, dg_fold, List.drop_succ_cons, c1, c2, c3, Ne.symm d75, ha]
          refine call_intro (hash_spec 72 [] .nil (by simp [preB]) _) ?_
          rintro _ _ ⟨rfl, rfl⟩
          have hq := sha256_length (preB 72 [])
          simp only [List.map_nil]
          generalize sha256 (preB 72 []) = d at *
          simp (dsimp := false) (implicitDefEqProofs := false) (disch := first | omega | assumption | (simp only [rL, Nat.reduceAdd]; try omega)) only [↓rD, rU, ev, ofConst, ofCell, ↓reduceIte, Nat.reduceEqDiff, Nat.reduceAdd, Nat.reduceSub, Nat.reduceMul, Nat.reduceLeDiff, Nat.reduceLT, Int.reduceNeg, Int.reduceToNat, Int.reduceAdd, Int.reduceSub, Int.reduceMul, Int.reduceLT, Int.reduceLE, Int.reduceEq, rX, dg_cells, dg_fold, List.drop_succ_cons, Ne.symm d75, ha, eqvK_dg, Bool.false_xor]
          cases hda : decide (a = d)
          · simp (dsimp := false) (implicitDefEqProofs := false) (disch := first | omega | assumption | (simp only [rL, Nat.reduceAdd]; try omega)) only [↓rD, rU, ev, ofConst, ofCell, ↓reduceIte, Nat.reduceEqDiff, Nat.reduceAdd, Nat.reduceSub, Nat.reduceMul, Nat.reduceLeDiff, Nat.reduceLT, Int.reduceNeg, Int.reduceToNat, Int.reduceAdd, Int.reduceSub, Int.reduceMul, Int.reduceLT, Int.reduceLE, Int.reduceEq, rX, dg_cells, dg_fold, List.drop_succ_cons]
            exact ⟨s, fin, rfl, rfl⟩
          · simp (dsimp := false) (implicitDefEqProofs := false) (disch := first | omega | assumption | (simp only [rL, Nat.reduceAdd]; try omega)) only [↓rD, rU, ev, ofConst, ofCell, ↓reduceIte, Nat.reduceEqDiff, Nat.reduceAdd, Nat.reduceSub, Nat.reduceMul, Nat.reduceLeDiff, Nat.reduceLT, Int.reduceNeg, Int.reduceToNat, Int.reduceAdd, Int.reduceSub, Int.reduceMul, Int.reduceLT, Int.reduceLE, Int.reduceEq, rX, dg_cells, dg_fold, List.drop_succ_cons]
            refine ⟨s, fin, rfl, ?_⟩
            simp
        · have c1' : 1 ≤ m := by omega
          obtain ⟨m, rfl⟩ : ∃ k : Nat, m = k := ⟨m.toNat, by omega⟩
          obtain ⟨n, rfl⟩ : ∃ k : Nat, n = k := ⟨n.toNat, by omega⟩
          have hp : growsF a m b n ds = (!(bothF a m n true ds).lk && decide ((bothF a m n true ds).ds.length = 0) && decide ((bothF a m n true ds).x = a) && decide ((bothF a m n true ds).y = b)) := by
            rw [growsF, if_neg (by omega), if_neg c4, Int.toNat_natCast, Int.toNat_natCast]
          rw [hp]
          have e : putAt [AV.sl [] Own.nil, AV.sl [] Own.nil, AV.v (Value.bool false)] 0 [AV.sl (List.map dg ds) o] = [.sl (ds.map dg) o, .sl [] .nil, .v (.bool false)] := rfl
          simp (dsimp := false) (implicitDefEqProofs := false) (disch := first | omega | assumption | (simp only [rL, Nat.reduceAdd]; try omega)) only [↓rD, rU, ev, ofConst, ofCell, ↓reduceIte, Nat.reduceEqDiff, Nat.reduceAdd, Nat.reduceSub, Nat.reduceMul, Nat.reduceLeDiff, Nat.reduceLT, Int.reduceNeg, Int.reduceToNat, Int.reduceAdd, Int.reduceSub, Int.reduceMul, Int.reduceLT, Int.reduceLE, Int.reduceEq, rX, dg_cells, dg_fold, List.drop_succ_cons, c1, c2, c3, c4, e]
          refine newK_intro fun l n10 => ?_
          obtain ⟨dl7, el⟩ := Hp.set_none n10
          obtain ⟨dl5, el⟩ := Hp.set_none el
          simp (dsimp := false) (implicitDefEqProofs := false) (disch := first | omega | assumption | (simp only [rL, Nat.reduceAdd]; try omega)) only [↓rD, rU, ev, ofConst, ofCell, ↓reduceIte, Nat.reduceEqDiff, Nat.reduceAdd, Nat.reduceSub, Nat.reduceMul, Nat.reduceLeDiff, Nat.reduceLT, Int.reduceNeg, Int.reduceToNat, Int.reduceAdd, Int.reduceSub, Int.reduceMul, Int.reduceLT, Int.reduceLE, Int.reduceEq, rX, dg_cells, dg_fold, List.drop_succ_cons, e, ha, Ne.symm dl5, Ne.symm d75]
          have hP : PS ((s.set l5 (dc a)).set l7 (dc b)) l ds [] false (((s.set l5 (dc a)).set l7 (dc b)).set l (.cells [.sl (ds.map dg) o, .sl [] .nil, .v (.bool false)])) := ⟨o, .nil, [], rfl, Owned.nil Hp.sub_refl⟩
          refine call_intro (both_spec _ a m n true ds [] _ _ l rfl (by omega) (by omega) (by omega) ha hd (by simp; omega) hP) ?_
          rintro _ s2 ⟨rfl, h⟩
          obtain ⟨u1, u2, _⟩ := bothF_ok _ a m n true ds rfl (by omega) (by omega) ha hd
          generalize bothF a m n true ds = u at *
          obtain ⟨ux, uy, ud, ut, ul⟩ := u
          simp only at u1 u2 h ⊢
          have g5 : s2 l5 = some (dc a) := h.get (Ne.symm dl5) (by rw [Hp.set_ne _ _ (Ne.symm d75)]; exact Hp.set_same _ _ _)
          have g7 : s2 l7 = some (dc b) := h.get (Ne.symm dl7) (Hp.set_same _ _ _)
          have hb2 : s.sub s2 := Hp.sub_trans fin (h.sub (by rw [Hp.set_ne _ _ dl7, Hp.set_ne _ _ dl5]; exact el))
          simp (dsimp := false) (implicitDefEqProofs := false) (disch := first | omega | assumption | (simp only [rL, Nat.reduceAdd]; try omega)) only [↓rD, rU, ev, ofConst, ofCell, ↓reduceIte, Nat.reduceEqDiff, Nat.reduceAdd, Nat.reduceSub, Nat.reduceMul, Nat.reduceLeDiff, Nat.reduceLT, Int.reduceNeg, Int.reduceToNat, Int.reduceAdd, Int.reduceSub, Int.reduceMul, Int.reduceLT, Int.reduceLE, Int.reduceEq, rX, dg_cells, dg_fold, List.drop_succ_cons, List.getElem?_cons_zero, List.getElem?_cons_succ]
          refine newK_intro fun lA nA => ?_
          have dA5 : lA ≠ l5 := by rintro rfl; rw [nA] at g5; cases g5
          have dA7 : lA ≠ l7 := by rintro rfl; rw [nA] at g7; cases g7
          obtain ⟨dA, eA, h⟩ := h.new (ob := dc ux) nA
          simp (dsimp := false) (implicitDefEqProofs := false) (disch := first | omega | assumption | (simp only [rL, Nat.reduceAdd]; try omega)) only [↓rD, rU, ev, ofConst, ofCell, ↓reduceIte, Nat.reduceEqDiff, Nat.reduceAdd, Nat.reduceSub, Nat.reduceMul, Nat.reduceLeDiff, Nat.reduceLT, Int.reduceNeg, Int.reduceToNat, Int.reduceAdd, Int.reduceSub, Int.reduceMul, Int.reduceLT, Int.reduceLE, Int.reduceEq, rX, dg_cells, dg_fold, List.drop_succ_cons, u1, u2]
          refine newK_intro fun lB nB => ?_
          obtain ⟨dBA, nB'⟩ := Hp.set_none nB
          have dB5 : lB ≠ l5 := by rintro rfl; rw [nB'] at g5; cases g5
          have dB7 : lB ≠ l7 := by rintro rfl; rw [nB'] at g7; cases g7
          have nB'' : (s2.set lA (dc ux)) lB = none := by rw [Hp.set_ne _ _ dBA]; exact nB'
          obtain ⟨dB, eB, h⟩ := h.new (ob := dc uy) nB''
          have hb3 : s.sub ((s2.set lA (.cells (ux.map byteAV))).set lB (.cells (uy.map byteAV))) := Hp.sub_new (Hp.sub_new hb2 (Hp.sub_none hb2 nA)) (Hp.sub_none hb2 nB')
          simp (dsimp := false) (implicitDefEqProofs := false) (disch := first | omega | assumption | (simp only [rL, Nat.reduceAdd]; try omega)) only [↓rD, rU, ev, ofConst, ofCell, ↓reduceIte, Nat.reduceEqDiff, Nat.reduceAdd, Nat.reduceSub, Nat.reduceMul, Nat.reduceLeDiff, Nat.reduceLT, Int.reduceNeg, Int.reduceToNat, Int.reduceAdd, Int.reduceSub, Int.reduceMul, Int.reduceLT, Int.reduceLE, Int.reduceEq, rX, dg_cells, dg_fold, List.drop_succ_cons, u1, u2, dBA, Ne.symm dBA]
          refine call_intro (good_spec _ _ l ud _ ul h) ?_
          rintro _ _ ⟨rfl, rfl⟩
          unfold dc at g5 g7
          cases hg : (!ul && decide (ud.length = 0))
          · simp (dsimp := false) (implicitDefEqProofs := false) (disch := first | omega | assumption | (simp only [rL, Nat.reduceAdd]; try omega)) only [↓rD, rU, ev, ofConst, ofCell, ↓reduceIte, Nat.reduceEqDiff, Nat.reduceAdd, Nat.reduceSub, Nat.reduceMul, Nat.reduceLeDiff, Nat.reduceLT, Int.reduceNeg, Int.reduceToNat, Int.reduceAdd, Int.reduceSub, Int.reduceMul, Int.reduceLT, Int.reduceLE, Int.reduceEq, rX, dg_cells, dg_fold, List.drop_succ_cons]
            exact ⟨s, hb3, rfl, rfl⟩
          · simp (dsimp := false) (implicitDefEqProofs := false) (disch := first | omega | assumption | (simp only [rL, Nat.reduceAdd]; try omega)) only [↓rD, rU, ev, ofConst, ofCell, ↓reduceIte, Nat.reduceEqDiff, Nat.reduceAdd, Nat.reduceSub, Nat.reduceMul, Nat.reduceLeDiff, Nat.reduceLT, Int.reduceNeg, Int.reduceToNat, Int.reduceAdd, Int.reduceSub, Int.reduceMul, Int.reduceLT, Int.reduceLE, Int.reduceEq, rX, dg_cells, dg_fold, List.drop_succ_cons, u1, u2, ha, hb, dBA, Ne.symm dBA, Hp.read_of g5, Hp.read_of g7, Ne.symm dA5, Ne.symm dB5, Ne.symm dA7, Ne.symm dB7, eqvK_dg, Bool.false_xor]
            cases hxa : decide (ux = a)
            · simp (dsimp := false) (implicitDefEqProofs := false) (disch := first | omega | assumption | (simp only [rL, Nat.reduceAdd]; try omega)) only [↓rD, rU, ev, ofConst, ofCell, ↓reduceIte, Nat.reduceEqDiff, Nat.reduceAdd, Nat.reduceSub, Nat.reduceMul, Nat.reduceLeDiff, Nat.reduceLT, Int.reduceNeg, Int.reduceToNat, Int.reduceAdd, Int.reduceSub, Int.reduceMul, Int.reduceLT, Int.reduceLE, Int.reduceEq, rX, dg_cells, dg_fold, List.drop_succ_cons]
              exact ⟨s, hb3, rfl, rfl⟩
            · simp (dsimp := false) (implicitDefEqProofs := false) (disch := first | omega | assumption | (simp only [rL, Nat.reduceAdd]; try omega)) only [↓rD, rU, ev, ofConst, ofCell, ↓reduceIte, Nat.reduceEqDiff, Nat.reduceAdd, Nat.reduceSub, Nat.reduceMul, Nat.reduceLeDiff, Nat.reduceLT, Int.reduceNeg, Int.reduceToNat, Int.reduceAdd, Int.reduceSub, Int.reduceMul, Int.reduceLT, Int.reduceLE, Int.reduceEq, rX, dg_cells, dg_fold, List.drop_succ_cons, u1, u2, ha, hb, dBA, Ne.symm dBA, Hp.read_of g5, Hp.read_of g7, Ne.symm dA5, Ne.symm dB5, Ne.symm dA7, Ne.symm dB7, eqvK_dg, Bool.false_xor]
              exact ⟨s, hb3, rfl, by simp⟩
end Go.Proofs.YtnnjjmiahcnbaaaGreat
set_option maxRecDepth 100000
namespace Go.Proofs.YtnnjjmiahcnbaaaGreat
open Go Go.Av
def WC (bs : List UInt8) (ow : Own) : Ob := .cells [.sl (bs.map byteAV) ow, .v (.int .i64 0)]
def WS (s0 : Hp) (l : Nat) (bs : List UInt8) (s : Hp) : Prop := ∃ ow, Owned (s0.set l (WC bs ow)) s 1 (bs.map byteAV) ow
theorem put_spec (s0 s : Hp) (l : Nat) (bs cs : List UInt8) (o : Own) (h : WS s0 l bs s) (hl : bs.length + cs.length ≤ 70368744177664) :
    AC Tryz.prog 115 [.ptr l 0, .v (.bool true), .sl (cs.map byteAV) o] s fun _ s' => WS s0 l (bs ++ cs) s' := by
  obtain ⟨ow, h⟩ := h
  have g := h.sub _ _ (Hp.set_same _ _ _)
  refine AC_run hm prep115 (by simp) ?_
  simp (dsimp := false) (implicitDefEqProofs := false) (disch := first | omega | assumption | (simp only [rL, Nat.reduceAdd]; try omega)) only [↓rD, rU, ev, ofConst, ofCell, ↓reduceIte, Nat.reduceEqDiff, Nat.reduceAdd, Nat.reduceSub, Nat.reduceMul, Nat.reduceLeDiff, Nat.reduceLT, Int.reduceNeg, Int.reduceToNat, Int.reduceAdd, Int.reduceSub, Int.reduceMul, Int.reduceLT, Int.reduceLE, Int.reduceEq, rX, dg_cells, dg_fold, List.drop_succ_cons, Bool.not_true, Hp.read_of g]
  refine app_bytes h (by omega) fun o2 s2 h2 => ?_
  have g2 := h2.sub _ _ (Hp.set_same _ _ _)
  simp (dsimp := false) (implicitDefEqProofs := false) (disch := first | omega | assumption | (simp only [rL, Nat.reduceAdd]; try omega)) only [↓rD, rU, ev, ofConst, ofCell, ↓reduceIte, Nat.reduceEqDiff, Nat.reduceAdd, Nat.reduceSub, Nat.reduceMul, Nat.reduceLeDiff, Nat.reduceLT, Int.reduceNeg, Int.reduceToNat, Int.reduceAdd, Int.reduceSub, Int.reduceMul, Int.reduceLT, Int.reduceLE, Int.reduceEq, rX, dg_cells, dg_fold, List.drop_succ_cons, Hp.read_of g2, Hp.stA_of g2]
  have h5 := h2.set (ob := WC (bs ++ cs) o2) (Hp.set_same _ _ _)
  rw [Hp.set_set] at h5
  exact ⟨_, Hp.sub_refl, o2, h5⟩
theorem wbyte_spec (s0 s : Hp) (l : Nat) (bs : List UInt8) (b : UInt8) (h : WS s0 l bs s) (hl : bs.length + 1 ≤ 70368744177664) :
    AC Tryz.prog 102 [.ptr l 0, .v (.int .u8 b.toNat)] s fun _ s' => WS s0 l (bs ++ [b]) s' := by
  refine AC_run hm prep102 (by simp) ?_
  simp (dsimp := false) (implicitDefEqProofs := false) (disch := first | omega | assumption | (simp only [rL, Nat.reduceAdd]; try omega)) only [↓rD, rU, ev, ofConst, ofCell, ↓reduceIte, Nat.reduceEqDiff, Nat.reduceAdd, Nat.reduceSub, Nat.reduceMul, Nat.reduceLeDiff, Nat.reduceLT, Int.reduceNeg, Int.reduceToNat, Int.reduceAdd, Int.reduceSub, Int.reduceMul, Int.reduceLT, Int.reduceLE, Int.reduceEq, rX, dg_cells, dg_fold, List.drop_succ_cons]
  refine bsl_byte Hp.sub_refl fun o1 s1 h1 => ?_
  simp (dsimp := false) (implicitDefEqProofs := false) (disch := first | omega | assumption | (simp only [rL, Nat.reduceAdd]; try omega)) only [↓rD, rU, ev, ofConst, ofCell, ↓reduceIte, Nat.reduceEqDiff, Nat.reduceAdd, Nat.reduceSub, Nat.reduceMul, Nat.reduceLeDiff, Nat.reduceLT, Int.reduceNeg, Int.reduceToNat, Int.reduceAdd, Int.reduceSub, Int.reduceMul, Int.reduceLT, Int.reduceLE, Int.reduceEq, rX, dg_cells, dg_fold, List.drop_succ_cons]
  obtain ⟨ow, h⟩ := h
  refine call_intro (put_spec s0 s1 l bs [b] o1 ⟨ow, h.mono h1.sub⟩ hl) ?_
  intro r s2 h2
  simp (dsimp := false) (implicitDefEqProofs := false) (disch := first | omega | assumption | (simp only [rL, Nat.reduceAdd]; try omega)) only [↓rD, rU, ev, ofConst, ofCell, ↓reduceIte, Nat.reduceEqDiff, Nat.reduceAdd, Nat.reduceSub, Nat.reduceMul, Nat.reduceLeDiff, Nat.reduceLT, Int.reduceNeg, Int.reduceToNat, Int.reduceAdd, Int.reduceSub, Int.reduceMul, Int.reduceLT, Int.reduceLE, Int.reduceEq, rX, dg_cells, dg_fold, List.drop_succ_cons]
  exact ⟨s2, Hp.sub_refl, h2⟩
def numN (n : Int) : Nat := (BitVec.ofInt 64 n ^^^ BitVec.ofInt 64 9223372036854775808).toNat
def numB (n : Int) : List UInt8 := eightB (numN n)
theorem xor_num (n : Int) : binV .xor (.int .u64 (IntKind.u64.wrap n)) (.int .u64 9223372036854775808) = some (.int .u64 (numN n)) := by
  have e : BitVec.ofInt 64 (IntKind.u64.wrap n) = BitVec.ofInt 64 n := by
    rw [wrap_u64_mod]; apply BitVec.eq_of_toInt_eq; simp [BitVec.toInt_ofInt, Int.bmod]
  have h : binV .xor (.int .u64 (IntKind.u64.wrap n)) (.int .u64 9223372036854775808) = some (.int .u64 (IntKind.u64.wrap (BitVec.ofInt 64 (IntKind.u64.wrap n) ^^^ BitVec.ofInt 64 9223372036854775808).toNat)) := rfl
  rw [h, e]
  have hlt := (BitVec.ofInt 64 n ^^^ BitVec.ofInt 64 9223372036854775808).isLt
  rw [wrap_u64 (by omega) (by omega)]; rfl
theorem num_spec (s0 s : Hp) (l : Nat) (bs : List UInt8) (n : Int) (h : WS s0 l bs s) (hl : bs.length + 8 ≤ 70368744177664) :
    AC Tryz.prog 77 [.ptr l 0, .v (.int .i64 n)] s fun _ s' => WS s0 l (bs ++ numB n) s' := by
  refine AC_run hm prep77 (by simp) ?_
  simp (dsimp := false) (implicitDefEqProofs := false) (disch := first | omega | assumption | (simp only [rL, Nat.reduceAdd]; try omega)) only [↓rD, rU, ev, ofConst, ofCell, ↓reduceIte, Nat.reduceEqDiff, Nat.reduceAdd, Nat.reduceSub, Nat.reduceMul, Nat.reduceLeDiff, Nat.reduceLT, Int.reduceNeg, Int.reduceToNat, Int.reduceAdd, Int.reduceSub, Int.reduceMul, Int.reduceLT, Int.reduceLE, Int.reduceEq, rX, dg_cells, dg_fold, List.drop_succ_cons, xor_num]
  generalize hN : numN n = N
  refine loop_intro (fun f s' => ∃ j : Nat, j ≤ 8 ∧ WS s0 l (bs ++ (eightB N).take j) s' ∧ f 0 = .ptr l 0 ∧ f 4 = .v (.int .u64 N) ∧ f 5 = .v (.int .i64 (56 - 8 * (j : Int))))
    (fun f _ => match f 5 with | .v (.int _ n) => (n + 8).toNat | _ => 0) ⟨0, by omega, by simpa using h, ?_⟩ ?_
  · simp (dsimp := false) (implicitDefEqProofs := false) (disch := first | omega | assumption | (simp only [rL, Nat.reduceAdd]; try omega)) only [↓rD, rU, ev, ofConst, ofCell, ↓reduceIte, Nat.reduceEqDiff, Nat.reduceAdd, Nat.reduceSub, Nat.reduceMul, Nat.reduceLeDiff, Nat.reduceLT, Int.reduceNeg, Int.reduceToNat, Int.reduceAdd, Int.reduceSub, Int.reduceMul, Int.reduceLT, Int.reduceLE, Int.reduceEq, rX, dg_cells, dg_fold, List.drop_succ_cons]
  · rintro f s' ⟨j, hj, hw, f0, f4, f5⟩
    by_cases hlt : (0 : Int) ≤ 56 - 8 * (j : Int)
    · simp (dsimp := false) (implicitDefEqProofs := false) (disch := first | omega | assumption | (simp only [rL, Nat.reduceAdd]; try omega)) only [↓rD, rU, ev, ofConst, ofCell, ↓reduceIte, Nat.reduceEqDiff, Nat.reduceAdd, Nat.reduceSub, Nat.reduceMul, Nat.reduceLeDiff, Nat.reduceLT, Int.reduceNeg, Int.reduceToNat, Int.reduceAdd, Int.reduceSub, Int.reduceMul, Int.reduceLT, Int.reduceLE, Int.reduceEq, rX, dg_cells, dg_fold, List.drop_succ_cons, f0, f4, f5, hlt, wrap_u8_nat]
      refine call_intro (wbyte_spec s0 s' l _ _ hw ?_) ?_
      · simp; omega
      intro r s2 h2
      simp (dsimp := false) (implicitDefEqProofs := false) (disch := first | omega | assumption | (simp only [rL, Nat.reduceAdd]; try omega)) only [↓rD, rU, ev, ofConst, ofCell, ↓reduceIte, Nat.reduceEqDiff, Nat.reduceAdd, Nat.reduceSub, Nat.reduceMul, Nat.reduceLeDiff, Nat.reduceLT, Int.reduceNeg, Int.reduceToNat, Int.reduceAdd, Int.reduceSub, Int.reduceMul, Int.reduceLT, Int.reduceLE, Int.reduceEq, rX, dg_cells, dg_fold, List.drop_succ_cons, f0, f4, f5, hlt]
      refine ⟨⟨j + 1, by omega, ?_, by simp; omega⟩, by omega⟩
      have e : (eightB N).take (j + 1) = (eightB N).take j ++ [UInt8.ofNat (N >>> (56 - 8 * (j : Int)).toNat)] := by
        rcases (by omega : j = 0 ∨ j = 1 ∨ j = 2 ∨ j = 3 ∨ j = 4 ∨ j = 5 ∨ j = 6 ∨ j = 7) with rfl | rfl | rfl | rfl | rfl | rfl | rfl | rfl <;> rfl
      rw [e, ← List.append_assoc]; exact h2
    · obtain rfl : j = 8 := by omega
      simp (dsimp := false) (implicitDefEqProofs := false) (disch := first | omega | assumption | (simp only [rL, Nat.reduceAdd]; try omega)) only [↓rD, rU, ev, ofConst, ofCell, ↓reduceIte, Nat.reduceEqDiff, Nat.reduceAdd, Nat.reduceSub, Nat.reduceMul, Nat.reduceLeDiff, Nat.reduceLT, Int.reduceNeg, Int.reduceToNat, Int.reduceAdd, Int.reduceSub, Int.reduceMul, Int.reduceLT, Int.reduceLE, Int.reduceEq, rX, dg_cells, dg_fold, List.drop_succ_cons, f0, f4, f5, hlt]
      refine ⟨s', Hp.sub_refl, ?_⟩
      rw [numB, hN]; exact hw
end Go.Proofs.YtnnjjmiahcnbaaaGreat
/-
  Running abstract code, continued: strings as lists of bytes, min and max, copies.
-/
namespace Go.Av
open Go
def strV (bs : List UInt8) : AV := .v (.string ⟨bs.toArray⟩)
theorem toList_loop (b : ByteArray) : ∀ (n i : Nat) (r : List UInt8), b.size - i = n → ByteArray.toList.loop b i r = r.reverse ++ b.data.toList.drop i
  | 0, i, r, h => by
    rw [ByteArray.toList.loop, if_neg (by omega), List.drop_of_length_le (by simp; exact Nat.le_of_sub_eq_zero h)]; simp
  | n + 1, i, r, h => by
    have hi : i < b.size := by omega
    have hi' : i < b.data.toList.length := by simpa using hi
    rw [ByteArray.toList.loop, if_pos hi, toList_loop b n (i + 1) _ (by omega), List.drop_eq_getElem_cons hi']
    have : b.get! i = b.data.toList[i] := by
      rw [ByteArray.get!]
      simp [hi]
    rw [this]; simp
theorem toList_data (b : ByteArray) : b.toList = b.data.toList := by
  rw [ByteArray.toList, toList_loop b _ 0 [] rfl]; simp
theorem toList_mk (bs : List UInt8) : (⟨bs.toArray⟩ : ByteArray).toList = bs := by rw [toList_data]
theorem eql_str (a b : List UInt8) : binV .eql (.string ⟨a.toArray⟩) (.string ⟨b.toArray⟩) = some (.bool (decide (a = b))) := by
  simp only [binV, binStr, toList_mk]; congr 2
  by_cases h : a = b <;> simp [h]
theorem neq_str (a b : List UInt8) : binV .neq (.string ⟨a.toArray⟩) (.string ⟨b.toArray⟩) = some (.bool (decide (a ≠ b))) := by
  simp only [binV, binStr, toList_mk]; congr 2
  by_cases h : a = b <;> simp [h]
theorem size_str (a : List UInt8) : (⟨a.toArray⟩ : ByteArray).size = a.length := by simp [ByteArray.size]
theorem append_str (a b : List UInt8) : ((⟨a.toArray⟩ : ByteArray) ++ ⟨b.toArray⟩) = ⟨(a ++ b).toArray⟩ := by
  apply ByteArray.ext; simp
theorem add_str (a b : List UInt8) (h : a.length + b.length ≤ 9223372036854775807) : binV .add (.string ⟨a.toArray⟩) (.string ⟨b.toArray⟩) = some (.string ⟨(a ++ b).toArray⟩) := by
  simp only [binV, binStr, size_str, if_pos h, append_str]
section
variable {P : Ctx} {f : Fr} {s : Hp} {Kv : AV → Hp → Prop}
theorem chkT_guard {d : Nat} {op : AOp} {g : Nat} {w : Bool} : chkT P ⟨some d, op, some (g, w)⟩ f s = guardK (f g) w (hidP (G P op f s (fun r _ => r = f d)) ()) (hidP ((.tup [] : AV) = f d) ()) := rfl
theorem Def_guard {d : Option Nat} {op : AOp} {g : Nat} {w : Bool} : Def P ⟨d, op, some (g, w)⟩ f = guardK (f g) w (hidP (G P op f Hp.emp (fun _ _ => True)) ()) (hidP True ()) := rfl
def b2sA (a : AV) : Option AV :=
  match a with
  | .sl xs _ => match bytesOf xs with
    | some l => some (.v (.string ⟨l.toArray⟩))
    | none => none
  | _ => none
theorem b2sA_map {bs : List UInt8} {o : Own} : b2sA (.sl (bs.map byteAV) o) = some (.v (.string ⟨bs.toArray⟩)) := by simp [b2sA, bytesOf_map]
theorem G_b2s {x : Operand} : G P (.b2s x) f s Kv = valK (b2sA (ev f x)) (hid1 (fun r => Kv r s) ()) := by
  simp only [G, b2sA]; generalize ev f x = a
  cases a <;> first | rfl | (rename_i xs o; simp only []; generalize bytesOf xs = c; cases c <;> rfl)
def mmA (mx : Bool) (a b : AV) : Option AV :=
  match a, b with
  | .v (.int k a), .v (.int k' b) => if k = k' then some (.v (.int k (if mx then max a b else min a b))) else none
  | _, _ => none
theorem mmA_max {k : IntKind} {a b : Int} : mmA true (.v (.int k a)) (.v (.int k b)) = some (.v (.int k (max a b))) := by simp [mmA]
theorem mmA_min {k : IntKind} {a b : Int} : mmA false (.v (.int k a)) (.v (.int k b)) = some (.v (.int k (min a b))) := by simp [mmA]
theorem G_mm {mx : Bool} {k : IntKind} {x y : Operand} : G P (.mm mx k x y) f s Kv = valK (mmA mx (ev f x) (ev f y)) (hid1 (fun r => Kv r s) ()) := by
  simp only [G, mmA]; generalize ev f x = a; generalize ev f y = b
  cases a <;> first
    | rfl
    | (rename_i v; cases v <;> first
        | rfl
        | (cases b <;> first
            | rfl
            | (rename_i w; cases w <;> first | rfl | (simp only [valK_ite, hid1_eq]))))
def lenTA (a : AV) : Option AV :=
  match a with
  | .v (.string t) => some (.v (.int .i64 t.size))
  | _ => none
theorem lenTA_str {bs : List UInt8} : lenTA (.v (.string ⟨bs.toArray⟩)) = some (.v (.int .i64 bs.length)) := by simp [lenTA, size_str]
theorem G_lenT {x : Operand} : G P (.lenT x) f s Kv = valK (lenTA (ev f x)) (hid1 (fun r => Kv r s) ()) := by
  simp only [G, lenTA]; generalize ev f x = a
  cases a <;> first | rfl | (rename_i v; cases v <;> rfl)
def slcSA (a : AV) (lo hi : Option AV) : Option AV :=
  match a with
  | .v (.string t) => match bO lo 0, bO hi t.size with
    | some a, some b => if 0 ≤ a ∧ a ≤ b ∧ b ≤ t.size then some (.v (.string (t.extract a.toNat b.toNat))) else none
    | _, _ => none
  | _ => none
theorem extract_str (bs : List UInt8) (i j : Nat) : (⟨bs.toArray⟩ : ByteArray).extract i j = ⟨((bs.take j).drop i).toArray⟩ := by
  apply ByteArray.ext
  simp only [ByteArray.data_extract]
  simp [List.drop_take]
theorem slcSA_lo {bs : List UInt8} {k : IntKind} {a : Int} (h : 0 ≤ a) (h2 : a ≤ bs.length) : slcSA (.v (.string ⟨bs.toArray⟩)) (some (.v (.int k a))) none = some (.v (.string ⟨(bs.drop a.toNat).toArray⟩)) := by
  simp [slcSA, bO, intOf, size_str, h, h2, extract_str]
theorem slcSA_hi {bs : List UInt8} {k : IntKind} {b : Int} (h : 0 ≤ b) (h2 : b ≤ bs.length) : slcSA (.v (.string ⟨bs.toArray⟩)) none (some (.v (.int k b))) = some (.v (.string ⟨(bs.take b.toNat).toArray⟩)) := by
  simp [slcSA, bO, intOf, size_str, h, h2, extract_str]
theorem slcSA_both {bs : List UInt8} {k k' : IntKind} {a b : Int} (h : 0 ≤ a) (h1 : a ≤ b) (h2 : b ≤ bs.length) : slcSA (.v (.string ⟨bs.toArray⟩)) (some (.v (.int k a))) (some (.v (.int k' b))) = some (.v (.string ⟨((bs.take b.toNat).drop a.toNat).toArray⟩)) := by
  simp [slcSA, bO, intOf, size_str, h, h1, h2, extract_str]
theorem G_slcS {x : Operand} {lo hi : Option Operand} : G P (.slcS x lo hi) f s Kv = valK (slcSA (ev f x) (lo.map (ev f)) (hi.map (ev f))) (hid1 (fun r => Kv r s) ()) := by
  simp only [G, slcSA, bnd_bO]
  generalize ev f x = a; generalize lo.map (ev f) = p; generalize hi.map (ev f) = q
  cases a <;> try rfl
  rename_i v
  cases v <;> try rfl
  rename_i t
  simp only []
  generalize bO p 0 = u; generalize bO q t.size = w
  cases u <;> cases w <;> try rfl
  simp only [valK_ite, hid1_eq]
  apply propext; constructor
  · rintro ⟨h1, h2, h3, h5⟩; exact ⟨⟨h1, h2, h3⟩, h5⟩
  · rintro ⟨⟨h1, h2, h3⟩, h5⟩; exact ⟨h1, h2, h3, h5⟩
theorem idxSA_str {bs : List UInt8} {k : IntKind} {n : Int} (h : 0 ≤ n) (h2 : n < bs.length) : idxSA (.v (.string ⟨bs.toArray⟩)) (.v (.int k n)) = some (.v (.int .u8 (bs.getD n.toNat 0).toNat)) := by
  have h3 : n.toNat < bs.length := by omega
  have e : bs.getD n.toNat 0 = bs[n.toNat] := by simp [List.getD, h3]
  simp [idxSA, h, h3, e]
def cpyK (k : Nat) (s : Hp) (x y : AV) (C : AV → Hp → Prop) : Prop :=
  match x, y with
  | .msl l off n k', .sl ys _ => k' = k ∧ (∀ e ∈ ys, e.cells.length = k) ∧ match s l with
    | some (.cells cs) => off + n * k ≤ cs.length ∧ C (.v (.int .i64 (min ys.length n))) (s.set l (.cells (putAt cs off (flat (ys.take n)))))
    | _ => False
  | .mb l n _ k', .sl ys _ => k' = k ∧ (∀ e ∈ ys, e.cells.length = k) ∧ match s l with
    | some (.cells cs) => n * k ≤ cs.length ∧ C (.v (.int .i64 (min ys.length n))) (s.set l (.cells (putAt cs 0 (flat (ys.take n)))))
    | _ => False
  | _, _ => False
theorem G_cpy {k : Nat} {x y : Operand} : G P (.cpy k x y) f s Kv = cpyK k s (ev f x) (ev f y) (hid2 Kv ()) := rfl
theorem cpy_intro {k l off n : Nat} {ys cs : List AV} {o : Own} {C : AV → Hp → Prop} {d : Dep C} (h1 : allLen k ys) (h2 : s l = some (.cells cs)) (h3 : off + n * k ≤ cs.length)
    (hC : C (.v (.int .i64 (min ys.length n))) (s.set l (.cells (putAt cs off (flat (ys.take n)))))) : cpyK k s (.msl l off n k) (.sl ys o) (hid2 C d) := by
  refine ⟨rfl, h1, ?_⟩; rw [h2]; exact ⟨h3, hC⟩
def slcMA (k n : Nat) (s : Hp) (a : AV) (lo hi : Option AV) : Option AV :=
  match a with
  | .ptr l off => match bO lo 0, bO hi n with
    | some a, some b => match s.read l with
      | some cs => if 0 ≤ a ∧ a ≤ b ∧ b ≤ n ∧ off + n * k ≤ cs.length ∧ a < n then some (.msl l (off + a.toNat * k) (b.toNat - a.toNat) k) else none
      | none => none
    | _, _ => none
  | _ => none
theorem slcMA_all {k n l off : Nat} {cs : List AV} (h : s.read l = some cs) (h2 : off + n * k ≤ cs.length) (h3 : 0 < n) : slcMA k n s (.ptr l off) none none = some (.msl l off n k) := by
  simp [slcMA, bO, h, h2, h3]
theorem G_slcAm {k n : Nat} {x : Operand} {lo hi : Option Operand} : G P (.slcA k n x lo hi false) f s Kv = valK (slcMA k n s (ev f x) (lo.map (ev f)) (hi.map (ev f))) (hid1 (fun r => Kv r s) ()) := by
  simp only [G, slcMA, bnd_bO]; generalize ev f x = a
  generalize lo.map (ev f) = p; generalize hi.map (ev f) = q
  cases a <;> try rfl
  rename_i l off
  simp only []
  generalize bO p 0 = u; generalize bO q n = w; generalize s.read l = c
  cases u <;> cases w <;> cases c <;> first
    | rfl
    | (simp [valK]; done)
    | (simp only [valK_ite, hid1_eq, Bool.false_eq_true, if_false]
       apply propext; constructor
       · rintro ⟨h1, h2, h3, h4, h5, h6⟩; exact ⟨⟨h1, h2, h3, h4, h5⟩, h6⟩
       · rintro ⟨⟨h1, h2, h3, h4, h5⟩, h6⟩; exact ⟨h1, h2, h3, h4, h5, h6⟩)
def bslMK (k : Nat) (s : Hp) (vs0 : List AV) (C : AV → Hp → Prop) : Prop :=
  (∀ e ∈ vs0, e.cells.length = k) ∧ (if vs0.length = 0 then C (.sl [] .zero) s else ∀ g, s g = none → C (.mb g vs0.length vs0.length k) (s.set g (.cells (flat vs0))))
theorem G_bslM {k : Nat} {xs : List Operand} : G P (.bslM k xs) f s Kv = bslMK k s (xs.map (ev f)) (hid2 Kv ()) := by
  simp only [G, bslMK, hid2, List.length_map]
theorem bslM_nil {k : Nat} {C : AV → Hp → Prop} {d : Dep C} : bslMK k s [] (hid2 C d) = C (.sl [] .zero) s := by simp [bslMK, hid2]
theorem bslM_intro {k : Nat} {vs0 : List AV} {C : AV → Hp → Prop} {d : Dep C} (h1 : allLen k vs0) (h0 : vs0 ≠ []) (hk : ∀ g, s g = none → C (.mb g vs0.length vs0.length k) (s.set g (.cells (flat vs0)))) : bslMK k s vs0 (hid2 C d) := by
  refine ⟨h1, ?_⟩
  rw [if_neg (fun h => h0 (List.eq_nil_of_length_eq_zero h))]
  exact hk
def mksK (k bytes : Nat) (z : List AV) (s : Hp) (x y : AV) (C : AV → Hp → Prop) : Prop :=
  match x, y with
  | .v (.int _ n), .v (.int _ m) => n = m ∧ 0 ≤ n ∧ n ≤ 9223372036854775807 ∧ n * bytes ≤ 281474976710656 ∧ ∀ g, s g = none → C (.mb g n.toNat n.toNat k) (s.set g (.cells (List.replicate n.toNat z).flatten))
  | _, _ => False
theorem G_mks {k bytes : Nat} {z : List AV} {x y : Operand} : G P (.mks k bytes z x y) f s Kv = mksK k bytes z s (ev f x) (ev f y) (hid2 Kv ()) := rfl
theorem mks_intro {k bytes n : Nat} {z : List AV} {kd kd' : IntKind} {C : AV → Hp → Prop} {d : Dep C} (h1 : n * bytes ≤ 281474976710656) (h2 : n ≤ 9223372036854775807) (hk : ∀ g, s g = none → C (.mb g n n k) (s.set g (.cells (List.replicate n z).flatten))) :
    mksK k bytes z s (.v (.int kd (n : Int))) (.v (.int kd' (n : Int))) (hid2 C d) := ⟨rfl, by omega, by omega, by omega, fun g hg => by
  have := hk g hg
  simp only [hid2, Int.toNat_natCast]; exact this⟩
def appMK (k bytes : Nat) (s : Hp) (x y : AV) (C : AV → Hp → Prop) : Prop :=
  match srcS s k y with
  | some (m, ys) => match x with
    | .sl xs o => xs = [] ∧ (o = .nil ∨ o = .zero) ∧ m * bytes ≤ 140737488355328 ∧ m ≤ 9223372036854775807 ∧
      (if m = 0 then C (.sl [] o) s else ∀ g cap sp, s g = none → m ≤ cap → cap ≤ maxLen → sp.length = (cap - m) * k → C (.mb g m cap k) (s.set g (.cells (ys ++ sp))))
    | .mb l n cap k' => match s l with
      | some (.cells cs) => k' = k ∧ cs.length = cap * k ∧ (n + m) * bytes ≤ 140737488355328 ∧ n + m ≤ 9223372036854775807 ∧
        (if n + m ≤ cap then C (.mb l (n + m) cap k) (s.set l (.cells (putAt cs (n * k) ys)))
         else ∀ g cap' sp, s g = none → n + m ≤ cap' → cap' ≤ maxLen → sp.length = (cap' - (n + m)) * k → C (.mb g (n + m) cap' k) (s.set g (.cells (cs.take (n * k) ++ ys ++ sp))))
      | some (.sc cs) => k' = k ∧ cs.length = cap * k ∧ (n + m) * bytes ≤ 140737488355328 ∧ n + m ≤ 9223372036854775807 ∧
        (if n + m ≤ cap then C (.mb l (n + m) cap k) (s.set l (.sc (putAt cs (n * k) ys)))
         else ∀ g cap' sp, s g = none → n + m ≤ cap' → cap' ≤ maxLen → sp.length = (cap' - (n + m)) * k → C (.mb g (n + m) cap' k) (s.set g (.cells (cs.take (n * k) ++ ys ++ sp))))
      | _ => False
    | _ => False
  | none => False
theorem G_appM {k bytes : Nat} {x y : Operand} : G P (.appM k bytes x y) f s Kv = appMK k bytes s (ev f x) (ev f y) (hid2 Kv ()) := rfl
def MO (s0 s : Hp) (k : Nat) (us : List AV) (a : AV) : Prop :=
  s0.sub s ∧ ((us = [] ∧ (a = .sl [] .nil ∨ a = .sl [] .zero)) ∨ ∃ l n cap cs, a = .mb l n cap k ∧ s0 l = none ∧ s l = some (.cells cs) ∧ cs.length = cap * k ∧ cs.take (n * k) = us ∧ us.length = n * k ∧ n ≤ cap ∧ cap ≤ maxLen)
theorem MO.nil {s0 s : Hp} {k : Nat} (h : s0.sub s) : MO s0 s k [] (.sl [] .nil) := ⟨h, .inl ⟨rfl, .inl rfl⟩⟩
theorem MO.zero {s0 s : Hp} {k : Nat} (h : s0.sub s) : MO s0 s k [] (.sl [] .zero) := ⟨h, .inl ⟨rfl, .inr rfl⟩⟩
theorem MO.mono {s0 s s' : Hp} {k : Nat} {us : List AV} {a : AV} (h : MO s0 s k us a) (hs : s.sub s') : MO s0 s' k us a := by
  obtain ⟨h1, h2⟩ := h
  refine ⟨Hp.sub_trans h1 hs, ?_⟩
  rcases h2 with h2 | ⟨l, n, cap, cs, q1, q2, q3, q4⟩
  · exact .inl h2
  · exact .inr ⟨l, n, cap, cs, q1, q2, hs _ _ q3, q4⟩
theorem MO.base {s0 s1 s : Hp} {k : Nat} {us : List AV} {a : AV} (h : MO s0 s k us a) (hs : s1.sub s0) : MO s1 s k us a := by
  obtain ⟨h1, h2⟩ := h
  refine ⟨Hp.sub_trans hs h1, ?_⟩
  rcases h2 with h2 | ⟨l, n, cap, cs, q1, q2, q3⟩
  · exact .inl h2
  · exact .inr ⟨l, n, cap, cs, q1, Hp.sub_none hs q2, q3⟩
theorem MO.new {s0 s : Hp} {k l2 : Nat} {us : List AV} {a : AV} {ob : Ob} (h : MO s0 s k us a) (hl : s l2 = none) : MO (s0.set l2 ob) (s.set l2 ob) k us a := by
  obtain ⟨h1, h2⟩ := h
  refine ⟨Hp.sub_set h1, ?_⟩
  rcases h2 with h2 | ⟨l, n, cap, cs, q1, q2, q3, q4⟩
  · exact .inl h2
  · have hne : l ≠ l2 := by rintro rfl; rw [hl] at q3; cases q3
    exact .inr ⟨l, n, cap, cs, q1, by rw [Hp.set_ne _ _ hne]; exact q2, by rw [Hp.set_ne _ _ hne]; exact q3, q4⟩
theorem MO.src {s0 s : Hp} {k : Nat} {us : List AV} {a : AV} (h : MO s0 s k us a) : ∃ n, us.length = n * k ∧ srcF s k a = some (n, us) ∧ lenAA a = some (.v (.int .i64 n)) := by
  obtain ⟨h1, h2⟩ := h
  rcases h2 with ⟨rfl, rfl | rfl⟩ | ⟨l, n, cap, cs, rfl, q2, q3, q4, q5, q6, q7, q8⟩
  · exact ⟨0, by simp, rfl, rfl⟩
  · exact ⟨0, by simp, rfl, rfl⟩
  · refine ⟨n, q6, ?_, rfl⟩
    have : n * k ≤ cs.length := by rw [q4]; exact Nat.mul_le_mul_right _ q7
    simp [srcF, Hp.read_of q3, this, q5]
theorem appM_own {s0 : Hp} {k bytes m : Nat} {us ys : List AV} {x y : AV} {C : AV → Hp → Prop} {d : Dep C} (h : MO s0 s k us x) (hk : 0 < k) (hs : srcF s k y = some (m, ys)) (hy : ys.length = m * k) (h3 : (us.length + ys.length) * bytes ≤ 140737488355328 * k) (h4 : us.length + ys.length ≤ 9223372036854775807)
    (hC : ∀ a' s', MO s0 s' k (us ++ ys) a' → C a' s') : appMK k bytes s x y (hid2 C d) := by
  obtain ⟨h1, h2⟩ := h
  unfold appMK
  rw [srcS_of hs]
  simp only [hid2]
  have bnd : ∀ n, us.length = n * k → (n + m) * bytes ≤ 140737488355328 ∧ n + m ≤ 9223372036854775807 := by
    intro n hn
    have e : us.length + ys.length = (n + m) * k := by rw [hn, hy, Nat.add_mul]
    rw [e] at h3 h4
    constructor
    · have : (n + m) * bytes * k ≤ 140737488355328 * k := by rw [Nat.mul_assoc, Nat.mul_comm bytes k, ← Nat.mul_assoc]; exact h3
      exact Nat.le_of_mul_le_mul_right this hk
    · have : (n + m) * 1 ≤ (n + m) * k := Nat.mul_le_mul_left _ hk
      omega
  rcases h2 with ⟨rfl, ho⟩ | ⟨l, n, cap, cs, rfl, q2, q3, q4, q5, q6, q7, q8⟩
  · obtain ⟨b1, b2⟩ := bnd 0 (by simp)
    have main : ∀ o, (o = .nil ∨ o = .zero) → (([] : List AV) = [] ∧ (o = .nil ∨ o = .zero) ∧ m * bytes ≤ 140737488355328 ∧ m ≤ 9223372036854775807 ∧
      (if m = 0 then C (.sl [] o) s else ∀ g cap sp, s g = none → m ≤ cap → cap ≤ maxLen → sp.length = (cap - m) * k → C (.mb g m cap k) (s.set g (.cells (ys ++ sp))))) := by
      intro o hoo
      refine ⟨rfl, hoo, by simpa using b1, by omega, ?_⟩
      split
      · rename_i hm
        subst hm
        have : ys = [] := List.eq_nil_of_length_eq_zero (by simpa using hy)
        subst this
        refine hC _ _ ⟨h1, .inl ⟨rfl, ?_⟩⟩
        rcases hoo with rfl | rfl
        · exact .inl rfl
        · exact .inr rfl
      · intro g cap sp hg hc hcm hsp
        refine hC _ _ ⟨Hp.sub_new h1 (Hp.sub_none h1 hg), .inr ⟨g, m, cap, ys ++ sp, rfl, Hp.sub_none h1 hg, Hp.set_same _ _ _, ?_, ?_, by simpa using hy, hc, hcm⟩⟩
        · rw [List.length_append, hy, hsp, ← Nat.add_mul]; congr 1; omega
        · rw [← hy, List.take_left]; rfl
    rcases ho with rfl | rfl
    · exact main _ (.inl rfl)
    · exact main _ (.inr rfl)
  · obtain ⟨b1, b2⟩ := bnd n q6
    simp only [q3]
    refine ⟨trivial, q4, b1, b2, ?_⟩
    have hnk : (cs.take (n * k)).length = n * k := by rw [q5, q6]
    split
    · rename_i hroom
      have hfit : n * k + ys.length ≤ cs.length := by rw [hy, q4, ← Nat.add_mul]; exact Nat.mul_le_mul_right _ hroom
      refine hC _ _ ⟨Hp.sub_new h1 q2, .inr ⟨l, n + m, cap, _, rfl, q2, Hp.set_same _ _ _, ?_, ?_, by rw [List.length_append, q6, hy, Nat.add_mul], hroom, q8⟩⟩
      · rw [putAt_length _ _ _ hfit, q4]
      · have e : (n + m) * k = (cs.take (n * k) ++ ys).length := by rw [List.length_append, hnk, hy, Nat.add_mul]
        rw [putAt, e, List.take_left, q5]
    · intro g cap' sp hg hc hcm hsp
      refine hC _ _ ⟨Hp.sub_new h1 (Hp.sub_none h1 hg), .inr ⟨g, n + m, cap', _, rfl, Hp.sub_none h1 hg, Hp.set_same _ _ _, ?_, ?_, by rw [List.length_append, q6, hy, Nat.add_mul], hc, hcm⟩⟩
      · rw [List.length_append, List.length_append, hnk, hy, hsp, ← Nat.add_mul, ← Nat.add_mul]; congr 1; omega
      · have e : (n + m) * k = (cs.take (n * k) ++ ys).length := by rw [List.length_append, hnk, hy, Nat.add_mul]
        rw [e, List.take_left, q5]
theorem srcF_bytes {bs : List UInt8} {o : Own} : srcF s 1 (.sl (bs.map byteAV) o) = some (bs.length, bs.map byteAV) := by
  have : ((bs.map byteAV).all fun e => decide (e.cells.length = 1)) = true := by simp [byteAV, AV.cells]
  simp [srcF, this, flat_bytes]
def b2sMA (s : Hp) (a : AV) : Option AV :=
  match srcF s 1 a with
  | some (_, xs) => match bytesOf xs with
    | some l => some (.v (.string ⟨l.toArray⟩))
    | none => none
  | none => none
theorem G_b2sM {x : Operand} : G P (.b2sM x) f s Kv = valK (b2sMA s (ev f x)) (hid1 (fun r => Kv r s) ()) := by
  simp only [G, b2sMA]
  cases srcF s 1 (ev f x) with
  | none => rfl
  | some p =>
    obtain ⟨m, xs⟩ := p
    simp only
    cases bytesOf xs <;> rfl
theorem b2sMA_of {a : AV} {n : Nat} {bs : List UInt8} (h : srcF s 1 a = some (n, bs.map byteAV)) : b2sMA s a = some (.v (.string ⟨bs.toArray⟩)) := by simp [b2sMA, h, bytesOf_map]
def s2bA (a : AV) : Option AV :=
  match a with
  | .v (.string t) => some (.sl (t.data.toList.map byteAV) .any)
  | _ => none
theorem s2bA_str {bs : List UInt8} : s2bA (.v (.string ⟨bs.toArray⟩)) = some (.sl (bs.map byteAV) .any) := by simp [s2bA]
theorem G_s2b {x : Operand} : G P (.s2b x) f s Kv = valK (s2bA (ev f x)) (hid1 (fun r => Kv r s) ()) := by
  simp only [G, s2bA]; generalize ev f x = a
  cases a <;> first | rfl | (rename_i v; cases v <;> rfl)
/-! ### a slice that is written no more -/
theorem RV.frozen {H : PH} {w : World} {l n cap k : Nat} {cs : List AV} {v : Value} (hh : Holds H s w) (hl : s l = some (.ro cs)) (hn : n * k ≤ cs.length) (hv : RV H v (.mb l n cap k)) : RV H v (.sl (elemsOf k n cs) .any) := by
  obtain ⟨hone, vs, T, fz, hb, hr, hH⟩ := hh.ob l _ hl
  have hsz : vs.size = cs.length := hr.1
  cases hv with
  | mb l n cap k hk hcap =>
    obtain ⟨e1, e2, e3⟩ := elemsOf_cells hk hn hone
    by_cases h0 : n = 0
    · subst h0
      have : elemsOf k 0 cs = [] := List.eq_nil_of_length_eq_zero e3
      rw [this]
      exact .slEmpty _ _ _ (fun h => by cases h) trivial
    · refine .sl l 0 n cap k (fun j => vs.getD j Go.undef) _ .any hk e3.symm hcap e1 ?_ ?_ ?_ trivial
      · intro c hc; rw [e2] at hc; exact hone c (List.mem_of_mem_take hc)
      · intro j hj; rw [Nat.zero_add]; exact hH j (by omega)
      · intro j u hu
        rw [e2] at hu
        have hj : j < n * k := by have := (List.getElem?_eq_some_iff.1 hu).1; simp at this; omega
        rw [List.getElem?_take_of_lt hj] at hu
        exact hr.2 j u hu
theorem AC.freeze {P : Program} {g : FuncId} {pre post : List AV} {l n cap k : Nat} {cs : List AV} {R : AV → Hp → Prop} (hl : s l = some (.cells cs)) (hn : n * k ≤ cs.length) (h : AC P g (pre ++ .sl (elemsOf k n cs) .any :: post) (s.set l (.ro cs)) R) : AC P g (pre ++ .mb l n cap k :: post) s R := by
  refine h.pre fun vs w H ha hh => ?_
  obtain ⟨H', st⟩ := Step.freeze hh hl
  refine ⟨H', ?_, st⟩
  have ha' := ha.mono st.le
  refine ⟨by rw [ha'.1]; simp, fun j u hu => ?_⟩
  by_cases hj : j = pre.length
  · subst hj
    have h1 := ha'.2 pre.length (.mb l n cap k) (by simp)
    have h2 : u = .sl (elemsOf k n cs) .any := by simpa using hu.symm
    subst h2
    exact RV.frozen st.holds (Hp.set_same _ _ _) hn h1
  · refine ha'.2 j u ?_
    rw [List.getElem?_append] at hu ⊢
    split
    · rename_i h1; rw [if_pos h1] at hu; exact hu
    · rename_i h1
      rw [if_neg h1] at hu
      obtain ⟨i, hi⟩ : ∃ i, j - pre.length = i + 1 := ⟨j - pre.length - 1, by omega⟩
      rw [hi] at hu ⊢
      simpa using hu
end
/-! bundles of the lemmas above, for 'simp' -/
def rF :=
  And.intro @G_bslM <|
  And.intro @G_appM <|
  And.intro @G_mks <|
  And.intro @G_b2sM <|
  And.intro @G_s2b <|
  And.intro @G_b2s <|
  And.intro @G_mm <|
  And.intro @G_lenT <|
  And.intro @G_slcS <|
  And.intro @G_cpy <|
  And.intro @G_slcAm <|
  And.intro @chkT_guard <|
  @Def_guard
def rG :=
  And.intro @s2bA_str <|
  And.intro @iaSA_mb <|
  And.intro @lenAA_mb <|
  And.intro @slcAA_mb <|
  And.intro @b2sA_map <|
  And.intro @mmA_max <|
  And.intro @mmA_min <|
  And.intro @lenTA_str <|
  And.intro @slcSA_lo <|
  And.intro @slcSA_hi <|
  And.intro @slcSA_both <|
  And.intro @slcMA_all <|
  And.intro @neq_str <|
  And.intro @eql_str <|
  And.intro @idxSA_str <|
  And.intro @ite_true.{1} <|
  And.intro @ite_false.{1} <|
  And.intro @Bool.not_false <|
  And.intro @Bool.not_true <|
  And.intro @Bool.false_xor <|
  And.intro @Bool.true_xor <|
  And.intro @Bool.true_and <|
  And.intro @Bool.false_and <|
  And.intro @decide_true <|
  @decide_false
end Go.Av
/-
  Running abstract code, continued: functions as values, interfaces, panics, strings' iterators, builders.
-/
namespace Go.Av
open Go
section
variable {P : Ctx} {f : Fr} {s : Hp} {Kv : AV → Hp → Prop}
theorem G_clo {fn : FuncId} {a b : List Operand} : G P (.clo fn a b) f s Kv = letK (.clo fn (a.map (ev f)) (b.map (ev f))) (hid1 (fun r => Kv r s) ()) := rfl
def callVK (P : Ctx) (x : AV) (args : List AV) (s : Hp) (C : AV → Hp → Prop) : Prop :=
  match x with
  | .clo fn ds cs => callOk P.p fn = true ∧ ACp P.p fn (ds ++ args ++ cs) s C (up P.k)
  | _ => False
theorem G_callV {x : Operand} {args : List Operand} : G P (.callV x args) f s Kv = callVK P (ev f x) (args.map (ev f)) s (hid2 Kv ()) := rfl
theorem callV_intro {fn : FuncId} {ds cs args : List AV} {C R : AV → Hp → Prop} {d : Dep C} (hok : callOk P.p fn = true) (h : AC P.p fn (ds ++ args ++ cs) s R) (hr : ∀ r s', R r s' → C r s') : callVK P (.clo fn ds cs) args s (hid2 C d) := ⟨hok, (h.mono hr).p⟩
theorem callVp_intro {fn : FuncId} {ds cs args : List AV} {C R Rp : AV → Hp → Prop} {d : Dep C} (hok : callOk P.p fn = true) (h : ACp P.p fn (ds ++ args ++ cs) s R (up Rp)) (hr : ∀ r s', R r s' → C r s') (hp : ∀ r s', Rp r s' → P.k r s') : callVK P (.clo fn ds cs) args s (hid2 C d) := ⟨hok, h.mono hr (fun _ _ => up_mono hp)⟩
theorem G_mki {t : TypeId} {x : Operand} : G P (.mki t x) f s Kv = letK (.iface t (ev f x)) (hid1 (fun r => Kv r s) ()) := rfl
def asrtA (t : TypeId) (ok : Bool) (z : AV) (x : AV) : Option AV :=
  match x with
  | .iface d y => if d = t then some (if ok then .tup [y, .v (.bool true)] else y) else if ok = true then some (.tup [z, .v (.bool false)]) else none
  | .v .nilIface => if ok = true then some (.tup [z, .v (.bool false)]) else none
  | _ => none
theorem G_asrt {t : TypeId} {ok : Bool} {z : AV} {x : Operand} : G P (.asrt t ok z x) f s Kv = valK (asrtA t ok z (ev f x)) (hid1 (fun r => Kv r s) ()) := by
  simp only [G, asrtA]; generalize ev f x = a
  cases a <;> first
    | rfl
    | (rename_i d y; by_cases h : d = t
       · simp only [h, if_true]; rfl
       · simp only [h, if_false]; cases ok <;> simp [valK, hid1])
    | (rename_i v; cases v <;> first | rfl | (cases ok <;> simp [valK, hid1]))
theorem asrtA_yes {t : TypeId} {z y : AV} : asrtA t true z (.iface t y) = some (.tup [y, .v (.bool true)]) := by simp [asrtA]
theorem asrtA_no {t d : TypeId} {z y : AV} (h : d ≠ t) : asrtA t true z (.iface d y) = some (.tup [z, .v (.bool false)]) := by simp [asrtA, h]
theorem asrtA_nil {t : TypeId} {z : AV} : asrtA t true z (.v .nilIface) = some (.tup [z, .v (.bool false)]) := by simp [asrtA]
theorem asrtA_one {t : TypeId} {z y : AV} : asrtA t false z (.iface t y) = some y := by simp [asrtA]
def eqiA (neg : Bool) (x : AV) : Option AV :=
  match x with
  | .iface _ _ => some (.v (.bool neg))
  | .v .nilIface => some (.v (.bool (!neg)))
  | _ => none
theorem G_eqi {neg : Bool} {x : Operand} : G P (.eqi neg x) f s Kv = valK (eqiA neg (ev f x)) (hid1 (fun r => Kv r s) ()) := by
  simp only [G, eqiA]; generalize ev f x = a
  cases a <;> first
    | rfl
    | (rename_i v; cases v <;> rfl)
theorem eqiA_some {neg : Bool} {t : TypeId} {y : AV} : eqiA neg (.iface t y) = some (.v (.bool neg)) := rfl
theorem eqiA_nil {neg : Bool} : eqiA neg (.v .nilIface) = some (.v (.bool (!neg))) := rfl
def eqfnA (neg : Bool) (x : AV) : Option AV :=
  match x with
  | .clo _ _ _ => some (.v (.bool neg))
  | .v .nilFunc => some (.v (.bool (!neg)))
  | _ => none
theorem G_eqfn {neg : Bool} {x : Operand} : G P (.eqfn neg x) f s Kv = valK (eqfnA neg (ev f x)) (hid1 (fun r => Kv r s) ()) := by
  simp only [G, eqfnA]; generalize ev f x = a
  cases a <;> first
    | rfl
    | (rename_i v; cases v <;> rfl)
theorem eqfnA_some {neg : Bool} {g : Nat} {a b : List AV} : eqfnA neg (.clo g a b) = some (.v (.bool neg)) := rfl
theorem eqfnA_nil {neg : Bool} : eqfnA neg (.v .nilFunc) = some (.v (.bool (!neg))) := rfl
def panK (P : Ctx) (x : AV) (s : Hp) : Prop :=
  match x with
  | .iface t y => up P.k (.iface t y) s
  | _ => False
theorem G_pan {x : Operand} : G P (.pan x) f s Kv = panK P (ev f x) s := rfl
theorem pan_intro {t : TypeId} {y : AV} (h : P.k (.iface t y) s) : panK P (.iface t y) s := up_of h
def rngSK (x : AV) (s : Hp) (C : Nat → ByteArray → Prop) : Prop :=
  match x with
  | .v (.string t) => ∀ l, s l = none → C l t
  | _ => False
theorem G_rngS {x : Operand} : G P (.rngS x) f s Kv = rngSK (ev f x) s (hid2 (fun l t => Kv (.ptr l 0) (s.set l (.it t 0))) ()) := rfl
theorem rngS_str {bs : List UInt8} {C : Nat → ByteArray → Prop} {d : Dep C} : rngSK (.v (.string ⟨bs.toArray⟩)) s (hid2 C d) = newK s (hid1 (fun l => C l ⟨bs.toArray⟩) ()) := rfl
def nxtSK (x : AV) (s : Hp) (C : AV → Hp → Prop) : Prop :=
  match x with
  | .ptr l off => off = 0 ∧ match s l with
    | some (.it t pos) => if pos < t.size then C (.tup [.v (.bool true), .v (.int .i64 pos), .v (.int .i32 (Utf8.decode t pos).1)]) (s.set l (.it t (pos + (Utf8.decode t pos).2))) else C (.tup [.v (.bool false)]) s
    | _ => False
  | _ => False
theorem G_nxtS {x : Operand} : G P (.nxtS x) f s Kv = nxtSK (ev f x) s (hid2 Kv ()) := rfl
theorem nxtS_some {l pos : Nat} {bs : List UInt8} {C : AV → Hp → Prop} {d : Dep C} (h : s l = some (.it ⟨bs.toArray⟩ pos)) (hp : pos < bs.length)
    (hC : C (.tup [.v (.bool true), .v (.int .i64 pos), .v (.int .i32 (Utf8.decode ⟨bs.toArray⟩ pos).1)]) (s.set l (.it ⟨bs.toArray⟩ (pos + (Utf8.decode ⟨bs.toArray⟩ pos).2)))) : nxtSK (.ptr l 0) s (hid2 C d) := by
  refine ⟨rfl, ?_⟩
  rw [h]
  simp only [size_str, if_pos hp]; exact hC
theorem nxtS_none {l pos : Nat} {bs : List UInt8} {C : AV → Hp → Prop} {d : Dep C} (h : s l = some (.it ⟨bs.toArray⟩ pos)) (hp : ¬ pos < bs.length) (hC : C (.tup [.v (.bool false)]) s) : nxtSK (.ptr l 0) s (hid2 C d) := by
  refine ⟨rfl, ?_⟩
  rw [h]
  simp only [size_str, if_neg hp]; exact hC
def s2bMK (x : AV) (s : Hp) (C : AV → Hp → Prop) : Prop :=
  match x with
  | .v (.string t) => t.size ≤ 140737488355328 ∧ ∀ g cap sp, s g = none → t.size ≤ cap → cap ≤ maxLen → sp.length = cap - t.size → C (.mb g t.size cap 1) (s.set g (.sc (t.data.toList.map byteAV ++ sp)))
  | _ => False
theorem G_s2bM {x : Operand} : G P (.s2bM x) f s Kv = s2bMK (ev f x) s (hid2 Kv ()) := rfl
theorem G_allocT {T : TypeId} {z : List AV} : G P (.allocT T z) f s Kv = newK s (hid1 (fun l => Kv (.ptr l 0) (s.set l (.tc T z))) ()) := rfl
def appTK (e : TypeId) (s : Hp) (x y : AV) (C : AV → Hp → Prop) : Prop :=
  match srcS s 1 y with
    | some (m, ys) => match x with
      | .sl xs o => xs = [] ∧ (o = .nil ∨ o = .zero) ∧ m ≤ 140737488355328 ∧
        (if m = 0 then C (.sl [] o) s else ∀ g cap sp, s g = none → m ≤ cap → cap ≤ maxLen → sp.length = (cap - m) * 1 → C (.mb g m cap 1) (s.set g (.tc e (ys ++ sp))))
      | .mb l n cap k' => match s l with
        | some (.tc T cs) => T = e ∧ k' = 1 ∧ cs.length = cap * 1 ∧ n + m ≤ 140737488355328 ∧
          (if n + m ≤ cap then C (.mb l (n + m) cap 1) (s.set l (.tc T (putAt cs (n * 1) ys)))
           else ∀ g cap' sp, s g = none → n + m ≤ cap' → cap' ≤ maxLen → sp.length = (cap' - (n + m)) * 1 → C (.mb g (n + m) cap' 1) (s.set g (.tc e (cs.take (n * 1) ++ ys ++ sp))))
        | _ => False
      | _ => False
    | none => False
theorem G_appT {e : TypeId} {x y : Operand} : G P (.appT e x y) f s Kv = appTK e s (ev f x) (ev f y) (hid2 Kv ()) := rfl
def toUK (x : AV) (s : Hp) (C : AV → Prop) : Prop :=
  match x with
  | .ptr l off => match s.read l with
    | some cs => off < cs.length ∧ C (.ptr l off)
    | none => False
  | _ => False
theorem G_toU {x : Operand} : G P (.toU x) f s Kv = toUK (ev f x) s (hid1 (fun r => Kv r s) ()) := by
  simp only [G, toUK]; generalize ev f x = a
  cases a <;> rfl
theorem toU_ptr {l off : Nat} {cs : List AV} {C : AV → Prop} {d : Dep C} (h : s.read l = some cs) (h2 : off < cs.length) (hC : C (.ptr l off)) : toUK (.ptr l off) s (hid1 C d) := by
  simp only [toUK, h]; exact ⟨h2, hC⟩
def frUK (T : TypeId) (n : Nat) (x : AV) (s : Hp) (C : AV → Prop) : Prop :=
  match x with
  | .ptr l off => off = 0 ∧ match s l with
    | some (.tc T' cs) => T' = T ∧ cs.length = n ∧ C (.ptr l off)
    | _ => False
  | _ => False
theorem G_frU {T : TypeId} {n : Nat} {x : Operand} : G P (.frU T n x) f s Kv = frUK T n (ev f x) s (hid1 (fun r => Kv r s) ()) := by
  simp only [G, frUK]; generalize ev f x = a
  cases a <;> rfl
theorem frU_ptr {T : TypeId} {n l : Nat} {cs : List AV} {C : AV → Prop} {d : Dep C} (h : s l = some (.tc T cs)) (h2 : cs.length = n) (hC : C (.ptr l 0)) : frUK T n (.ptr l 0) s (hid1 C d) := by
  simp only [frUK, h]; exact ⟨trivial, trivial, h2, hC⟩
def sdatA (x : AV) : Option AV :=
  match x with
  | .sl [] .nil => some (.v (.pointer none))
  | .mb l _ cap _ => if 0 < cap then some (.ptr l 0) else none
  | _ => none
theorem G_sdat {x : Operand} : G P (.sdat x) f s Kv = valK (sdatA (ev f x)) (hid1 (fun r => Kv r s) ()) := by
  simp only [G, sdatA]; generalize ev f x = a
  cases a <;> first
    | rfl
    | (rename_i xs o; cases xs <;> cases o <;> simp [valK, hid1])
    | (simp only [valK_ite, hid1_eq]; done)
theorem sdatA_nil : sdatA (.sl [] .nil) = some (.v (.pointer none)) := rfl
theorem sdatA_mb {l n cap k : Nat} (h : 0 < cap) : sdatA (.mb l n cap k) = some (.ptr l 0) := by simp [sdatA, h]
def ustrK (e : TypeId) (x y : AV) (s : Hp) (C : AV → Hp → Prop) : Prop :=
  match x, y with
    | .v (.pointer none), .v (.int k n) => k = .i64 ∧ n = 0 ∧ C (.v (.string ⟨#[]⟩)) s
    | .ptr l off, .v (.int k n) => k = .i64 ∧ off = 0 ∧ 0 < n ∧ match s l with
      | some (.tc T cs) => T = e ∧ n ≤ cs.length ∧ n ≤ 9223372036854775807 ∧ match bytesOf (cs.take n.toNat) with
        | some bs => C (.v (.string ⟨bs.toArray⟩)) (s.del l)
        | none => False
      | _ => False
    | _, _ => False
theorem G_ustr {e : TypeId} {x y : Operand} : G P (.ustr e x y) f s Kv = ustrK e (ev f x) (ev f y) s (hid2 Kv ()) := by
  simp only [G, ustrK]; generalize ev f x = a; generalize ev f y = b
  cases a <;> first
    | rfl
    | (rename_i v; cases v <;> first
        | rfl
        | (rename_i p; cases p <;> first | rfl | (cases b <;> first | rfl | (rename_i u; cases u <;> rfl))))
    | (cases b <;> first | rfl | (rename_i u; cases u <;> rfl))
theorem ustr_nil {e : TypeId} {C : AV → Hp → Prop} {d : Dep C} (hC : C (.v (.string ⟨#[]⟩)) s) : ustrK e (.v (.pointer none)) (.v (.int .i64 0)) s (hid2 C d) := ⟨rfl, rfl, hC⟩
theorem ustr_some {e : TypeId} {l n : Nat} {cs : List AV} {bs : List UInt8} {C : AV → Hp → Prop} {d : Dep C} (h : s l = some (.tc e cs)) (h0 : 0 < n) (hn : n ≤ cs.length) (h63 : n ≤ 9223372036854775807) (hb : cs.take n = bs.map byteAV)
    (hC : C (.v (.string ⟨bs.toArray⟩)) (s.del l)) : ustrK e (.ptr l 0) (.v (.int .i64 (n : Int))) s (hid2 C d) := by
  refine ⟨rfl, rfl, by omega, ?_⟩
  rw [h]
  refine ⟨rfl, by omega, by omega, ?_⟩
  simp only [Int.toNat_natCast, hb, bytesOf_map]; exact hC
def storeXK (s : Hp) (n : Nat) (p : AV) (ys : List AV) (C : Hp → Prop) : Prop :=
  match p with
  | .ptr l off => match s l with
    | some (.cells cs) => ys.length = n ∧ off + n ≤ cs.length ∧ C (s.set l (.cells (putAt cs off ys)))
    | some (.tc T cs) => ys.length = n ∧ off + n ≤ cs.length ∧ C (s.set l (.tc T (putAt cs off ys)))
    | some (.sc cs) => ys.length = n ∧ off + n ≤ cs.length ∧ C (s.set l (.sc (putAt cs off ys)))
    | _ => False
  | _ => False
theorem G_storeX {n : Nat} {x y : Operand} : G P (.storeX n x y) f s Kv = storeXK s n (ev f x) (ev f y).cells (hid1 (fun s' => Kv (.tup []) s') ()) := by
  simp only [G, storeXK]; generalize ev f x = a
  cases a <;> rfl
theorem storeX_t {n l off : Nat} {T : TypeId} {cs ys : List AV} {C : Hp → Prop} {d : Dep C} (h : s l = some (.tc T cs)) (h1 : ys.length = n) (h2 : off + n ≤ cs.length) (hC : C (s.set l (.tc T (putAt cs off ys)))) : storeXK s n (.ptr l off) ys (hid1 C d) := by
  simp only [storeXK, h]; exact ⟨h1, h2, hC⟩
theorem storeX_c {n l off : Nat} {cs ys : List AV} {C : Hp → Prop} {d : Dep C} (h : s l = some (.cells cs)) (h1 : ys.length = n) (h2 : off + n ≤ cs.length) (hC : C (s.set l (.cells (putAt cs off ys)))) : storeXK s n (.ptr l off) ys (hid1 C d) := by
  simp only [storeXK, h]; exact ⟨h1, h2, hC⟩
theorem storeX_s {n l off : Nat} {cs ys : List AV} {C : Hp → Prop} {d : Dep C} (h : s l = some (.sc cs)) (h1 : ys.length = n) (h2 : off + n ≤ cs.length) (hC : C (s.set l (.sc (putAt cs off ys)))) : storeXK s n (.ptr l off) ys (hid1 C d) := by
  simp only [storeXK, h]; exact ⟨h1, h2, hC⟩
theorem awp_refuse {K : Ex → Fr → Hp → Prop} : awp P .refuse K f s = False := rfl
theorem Hp.read_set_tc {l : Nat} {T : TypeId} {cs : List AV} : (s.set l (.tc T cs)).read l = some cs := by simp [Hp.read, Hp.set]
theorem Hp.read_ofT {l : Nat} {T : TypeId} {cs : List AV} (h : s l = some (.tc T cs)) : s.read l = some cs := by simp [Hp.read, h]
theorem cells_clo {g : Nat} {a b : List AV} : (AV.clo g a b).cells = [.clo g a b] := rfl
theorem nilcA_clo {g : Nat} {a b : List AV} : nilcA (.clo g a b) = some (.clo g a b) := rfl
def eqppA (neg : Bool) (s : Hp) (x y : AV) : Option AV :=
  match x, y with
    | .ptr _ _, .v (.pointer none) => some (.v (.bool neg))
    | .v (.pointer none), .ptr _ _ => some (.v (.bool neg))
    | .v (.pointer none), .v (.pointer none) => some (.v (.bool (!neg)))
    | .ptr l o, .ptr l' o' => if isCells s l = true ∧ isCells s l' = true then some (.v (.bool (xor neg (decide (l = l' ∧ o = o'))))) else none
    | _, _ => none
theorem G_eqpp {neg : Bool} {x y : Operand} : G P (.eqpp neg x y) f s Kv = valK (eqppA neg s (ev f x) (ev f y)) (hid1 (fun r => Kv r s) ()) := by
  simp only [G, eqppA]; generalize ev f x = a; generalize ev f y = b
  cases a <;> first
    | rfl
    | (rename_i v; cases v <;> first
        | rfl
        | (rename_i p; cases p <;> first | rfl | (cases b <;> first | rfl | (rename_i u; cases u <;> first | rfl | (rename_i q; cases q <;> rfl)))))
    | (cases b <;> first | rfl | (rename_i u; cases u <;> first | rfl | (rename_i q; cases q <;> rfl)) | (simp only [valK_ite, hid1_eq]; done))
theorem eqppA_same {neg : Bool} {l o : Nat} (h : isCells s l = true) : eqppA neg s (.ptr l o) (.ptr l o) = some (.v (.bool (!neg))) := by simp [eqppA, h]
theorem eqppA_nil {neg : Bool} {l o : Nat} : eqppA neg s (.ptr l o) (.v (.pointer none)) = some (.v (.bool neg)) := rfl
theorem eqppA_nil2 {neg : Bool} {l o : Nat} : eqppA neg s (.v (.pointer none)) (.ptr l o) = some (.v (.bool neg)) := rfl
theorem eqppA_nn {neg : Bool} : eqppA neg s (.v (.pointer none)) (.v (.pointer none)) = some (.v (.bool (!neg))) := rfl
end
theorem beq_tt : (true == true) = true := rfl
theorem beq_tf : (true == false) = false := rfl
theorem beq_ft : (false == true) = false := rfl
theorem beq_ff : (false == false) = true := rfl
/-! bundles -/
def rK :=
  And.intro @G_clo <|
  And.intro @G_callV <|
  And.intro @G_mki <|
  And.intro @G_asrt <|
  And.intro @G_eqi <|
  And.intro @G_eqfn <|
  And.intro @G_pan <|
  And.intro @G_rngS <|
  And.intro @G_nxtS <|
  And.intro @G_s2bM <|
  And.intro @G_allocT <|
  And.intro @G_appT <|
  And.intro @G_toU <|
  And.intro @G_frU <|
  And.intro @G_sdat <|
  And.intro @G_ustr <|
  And.intro @G_storeX <|
  And.intro @G_eqpp <|
  @awp_refuse
def rM :=
  And.intro @beq_tt <|
  And.intro @beq_tf <|
  And.intro @beq_ft <|
  And.intro @beq_ff <|
  And.intro @asrtA_yes <|
  And.intro @asrtA_no <|
  And.intro @asrtA_nil <|
  And.intro @asrtA_one <|
  And.intro @eqiA_some <|
  And.intro @eqiA_nil <|
  And.intro @eqfnA_some <|
  And.intro @eqfnA_nil <|
  And.intro @rngS_str <|
  And.intro @sdatA_nil <|
  And.intro @sdatA_mb <|
  And.intro @Hp.read_set_tc <|
  And.intro @cells_clo <|
  And.intro @nilcA_clo <|
  And.intro @eqppA_same <|
  And.intro @eqppA_nil <|
  And.intro @eqppA_nil2 <|
  @eqppA_nn
end Go.Av
/-
  Running abstract code, continued: maps.
-/
namespace Go.Av
open Go
/-! ### what a map says of a key -/
noncomputable def putM (F : AV → Option AV) (k v : AV) : AV → Option AV := fun k' => @ite _ (k' = k) (Classical.propDecidable _) (some v) (F k')
theorem putM_same {F : AV → Option AV} {k v : AV} : putM F k v k = some v := by simp [putM]
theorem putM_ne {F : AV → Option AV} {k v k' : AV} (h : k' ≠ k) : putM F k v k' = F k' := by simp [putM, h]
theorem findM_shift (k : AV) : ∀ (us : List (AV × AV × Nat)) (i : Nat), findM us k i = (findM us k 0).map fun r => (r.1 + i, r.2)
  | [], _ => rfl
  | u :: us, i => by
    unfold findM
    split
    · simp
    · rw [findM_shift k us (i + 1), findM_shift k us (0 + 1)]
      cases findM us k 0 <;> simp [Nat.add_comm, Nat.add_left_comm, Nat.add_assoc]
theorem findM_cons (u : AV × AV × Nat) (us : List (AV × AV × Nat)) (k : AV) : findM (u :: us) k 0 = @ite _ (k = u.1) (Classical.propDecidable _) (some (0, u.2.1)) ((findM us k 0).map fun r => (r.1 + 1, r.2)) := by
  conv => lhs; unfold findM
  rw [findM_shift k us (0 + 1)]
  by_cases h : k = u.1
  · rw [if_pos ((peq_iff _ _).2 h), if_pos h]
  · rw [if_neg (fun e => h ((peq_iff _ _).1 e)), if_neg h]
theorem findM_get (k : AV) : ∀ (us : List (AV × AV × Nat)) {j : Nat} {v : AV}, findM us k 0 = some (j, v) → ∃ b, us[j]? = some (k, v, b)
  | [], _, _, h => by simp [findM] at h
  | u :: us, j, v, h => by
    rw [findM_cons] at h
    split at h
    · next hk => simp only [Option.some.injEq, Prod.mk.injEq] at h; obtain ⟨rfl, rfl⟩ := h; exact ⟨u.2.2, by rw [hk]; rfl⟩
    · cases hf : findM us k 0 with
      | none => rw [hf] at h; cases h
      | some r =>
        rw [hf] at h
        simp only [Option.map_some, Option.some.injEq, Prod.mk.injEq] at h
        obtain ⟨rfl, rfl⟩ := h
        obtain ⟨b, hb⟩ := findM_get k us (j := r.1) (v := r.2) hf
        exact ⟨b, by simpa using hb⟩
theorem findM_push (k v : AV) (c : Nat) (k' : AV) : ∀ us : List (AV × AV × Nat), findM us k 0 = none → (findM (us ++ [(k, v, c)]) k' 0).map (·.2) = putM (fun k' => (findM us k' 0).map (·.2)) k v k'
  | [], _ => by
    rw [List.nil_append, findM_cons]
    by_cases h : k' = k
    · subst h; simp [putM]
    · simp [putM, h, findM]
  | u :: us, hn => by
    rw [findM_cons] at hn
    split at hn
    · cases hn
    · next hk =>
      have hn' : findM us k 0 = none := by cases hf : findM us k 0 with | none => rfl | some r => rw [hf] at hn; cases hn
      have ih := findM_push k v c k' us hn'
      rw [List.cons_append, findM_cons]
      by_cases h : k' = u.1
      · have hkk : k' ≠ k := fun e => hk (by rw [← e]; exact h)
        rw [if_pos h, putM_ne hkk]
        rw [findM_cons, if_pos h]
      · rw [if_neg h]
        by_cases hkk : k' = k
        · subst hkk
          rw [putM_same] at ih ⊢
          cases hf : findM (us ++ [(k', v, c)]) k' 0 with
          | none => rw [hf] at ih; cases ih
          | some r => rw [hf] at ih; simpa using ih
        · rw [putM_ne hkk] at ih ⊢
          rw [findM_cons, if_neg h, Option.map_map, Option.map_map]
          exact ih
theorem findM_set (k v v' : AV) (k' : AV) : ∀ (us : List (AV × AV × Nat)) (j : Nat), findM us k 0 = some (j, v) → (findM (us.modify j fun u => (u.1, v', u.2.2)) k' 0).map (·.2) = putM (fun k' => (findM us k' 0).map (·.2)) k v' k'
  | [], _, h => by simp [findM] at h
  | u :: us, j, h => by
    rw [findM_cons] at h
    split at h
    · next hk =>
      simp only [Option.some.injEq, Prod.mk.injEq] at h
      obtain ⟨rfl, _⟩ := h
      rw [List.modify_zero_cons, findM_cons]
      by_cases h : k' = k
      · subst h; rw [putM_same]; simp [hk]
      · have : ¬ k' = u.1 := fun e => h (by rw [e, ← hk])
        rw [putM_ne h, if_neg this]
        rw [findM_cons, if_neg this]
    · next hk =>
      cases hf : findM us k 0 with
      | none => rw [hf] at h; cases h
      | some r =>
        rw [hf] at h
        simp only [Option.map_some, Option.some.injEq, Prod.mk.injEq] at h
        obtain ⟨rfl, rfl⟩ := h
        have ih := findM_set k r.2 v' k' us r.1 hf
        rw [List.modify_succ_cons, findM_cons]
        by_cases h : k' = u.1
        · have hkk : k' ≠ k := fun e => hk (by rw [← e]; exact h)
          rw [if_pos h, putM_ne hkk]
          rw [findM_cons, if_pos h]
        · rw [if_neg h]
          by_cases hkk : k' = k
          · subst hkk
            rw [putM_same] at ih ⊢
            rw [Option.map_map]
            exact ih
          · rw [putM_ne hkk] at ih ⊢
            rw [findM_cons, if_neg h, Option.map_map, Option.map_map]
            exact ih
theorem bornM_get : ∀ (us : List (AV × AV × Nat)) {j : Nat} {u : AV × AV × Nat}, (us.map (·.2.2)).Nodup → us[j]? = some u → bornM us (u.2.2 : Int) = some j
  | [], _, _, _, h => by simp at h
  | u0 :: us, 0, u, _, h => by
    obtain rfl : u0 = u := by simpa using h
    unfold bornM; rw [List.findIdx?_cons]; simp
  | u0 :: us, j + 1, u, hn, h => by
    simp only [List.map_cons, List.nodup_cons] at hn
    have h' : us[j]? = some u := by simpa using h
    have ih := bornM_get us hn.2 h'
    have hne : ¬ ((u0.2.2 : Int) == (u.2.2 : Int)) = true := by
      intro e
      have e' : u0.2.2 = u.2.2 := by have := beq_iff_eq.1 e; omega
      exact hn.1 (by rw [e']; exact List.mem_map.2 ⟨u, List.mem_of_getElem? h', rfl⟩)
    unfold bornM at ih ⊢
    rw [List.findIdx?_cons, if_neg hne, ih]; rfl
structure MapIs (rs : List (Nat × CK)) (us : List (AV × AV × Nat)) (clock : Nat) (F : AV → Option AV) : Prop where
  val : ∀ k, (findM us k 0).map (·.2) = F k
  keys : keysOk rs us
  born : (us.map (·.2.2)).Nodup
  lt : ∀ u ∈ us, u.2.2 < clock
theorem MapIs.new {rs : List (Nat × CK)} : MapIs rs [] 0 fun _ => none := ⟨fun _ => rfl, fun u h => by simp at h, by simp, fun u h => by simp at h⟩
theorem map_born_modify (us : List (AV × AV × Nat)) (j : Nat) (v : AV) : (us.modify j fun u => (u.1, v, u.2.2)).map (·.2.2) = us.map (·.2.2) := by
  induction us generalizing j with
  | nil => simp
  | cons u us ih => cases j with
    | zero => simp
    | succ j => simp [ih]
theorem mem_modify {us : List (AV × AV × Nat)} {j : Nat} {v : AV} {u : AV × AV × Nat} (h : u ∈ us.modify j fun u => (u.1, v, u.2.2)) : ∃ u0 ∈ us, u.1 = u0.1 ∧ u.2.2 = u0.2.2 := by
  induction us generalizing j with
  | nil => simp at h
  | cons u0 us ih => cases j with
    | zero =>
      simp only [List.modify_zero_cons, List.mem_cons] at h
      rcases h with rfl | h
      · exact ⟨u0, by simp, rfl, rfl⟩
      · exact ⟨u, by simp [h], rfl, rfl⟩
    | succ j =>
      simp only [List.modify_succ_cons, List.mem_cons] at h
      rcases h with rfl | h
      · exact ⟨u, by simp, rfl, rfl⟩
      · obtain ⟨q, h1, h2⟩ := ih h; exact ⟨q, by simp [h1], h2⟩
theorem MapIs.set {rs : List (Nat × CK)} {us : List (AV × AV × Nat)} {clock : Nat} {F : AV → Option AV} (h : MapIs rs us clock F) {k v v' : AV} {j : Nat} (hf : findM us k 0 = some (j, v)) : MapIs rs (us.modify j fun u => (u.1, v', u.2.2)) clock (putM F k v') where
  val := fun k' => by
    rw [findM_set k v v' k' us j hf]
    simp only [putM]
    rw [h.val]
  keys := fun u hu => by
    obtain ⟨u0, h1, h2, _⟩ := mem_modify hu
    rw [h2]; exact h.keys u0 h1
  born := by rw [map_born_modify]; exact h.born
  lt := fun u hu => by
    obtain ⟨u0, h1, _, h2⟩ := mem_modify hu
    rw [h2]; exact h.lt u0 h1
theorem MapIs.push {rs : List (Nat × CK)} {us : List (AV × AV × Nat)} {clock : Nat} {F : AV → Option AV} (h : MapIs rs us clock F) {cs : List AV} {v : AV} (hfit : fitR rs cs) (hf : findM us (.agg cs) 0 = none) : MapIs rs (us ++ [(.agg cs, v, clock)]) (clock + 1) (putM F (.agg cs) v) where
  val := fun k' => by
    rw [findM_push _ v clock k' us hf]
    simp only [putM]
    rw [h.val]
  keys := fun u hu => by
    rcases List.mem_append.1 hu with hu | hu
    · exact h.keys u hu
    · simp at hu; subst hu; exact ⟨cs, rfl, hfit⟩
  born := by
    rw [List.map_append, List.nodup_append]
    refine ⟨h.born, by simp, ?_⟩
    intro a ha b hb
    obtain ⟨u, hu, rfl⟩ := List.mem_map.1 ha
    simp at hb; subst hb
    exact Nat.ne_of_lt (h.lt u hu)
  lt := fun u hu => by
    rcases List.mem_append.1 hu with hu | hu
    · exact Nat.lt_succ_of_lt (h.lt u hu)
    · simp at hu; subst hu; exact Nat.lt_succ_self _
theorem putM_twice {F : AV → Option AV} {k v v' : AV} : putM (putM F k v) k v' = putM F k v' := by
  funext k'
  by_cases h : k' = k
  · subst h; rw [putM_same, putM_same]
  · rw [putM_ne h, putM_ne h, putM_ne h]
def MapAt (s : Hp) (l : Nat) (rs : List (Nat × CK)) (F : AV → Option AV) : Prop := ∃ us clock, s l = some (.mp us clock) ∧ MapIs rs us clock F
def MapMid (s : Hp) (l : Nat) (rs : List (Nat × CK)) (F : AV → Option AV) (k : AV) (b : Nat) : Prop :=
  ∃ us clock, s l = some (.mp us clock) ∧ ∀ v, ∃ j, bornM us (b : Int) = some j ∧ MapIs rs (us.modify j fun u => (u.1, v, u.2.2)) clock (putM F k v)
theorem MapAt.mono {s s' : Hp} {l : Nat} {rs : List (Nat × CK)} {F : AV → Option AV} (h : MapAt s l rs F) (hs : s' l = s l) : MapAt s' l rs F := by
  obtain ⟨us, c, h1, h2⟩ := h; exact ⟨us, c, by rw [hs]; exact h1, h2⟩
theorem MapMid.mono {s s' : Hp} {l : Nat} {rs : List (Nat × CK)} {F : AV → Option AV} {k : AV} {b : Nat} (h : MapMid s l rs F k b) (hs : s' l = s l) : MapMid s' l rs F k b := by
  obtain ⟨us, c, h1, h2⟩ := h; exact ⟨us, c, by rw [hs]; exact h1, h2⟩
section
variable {P : Ctx} {f : Fr} {s : Hp} {Kv : AV → Hp → Prop}
theorem G_mkM : G P .mkM f s Kv = newK s (hid1 (fun l => Kv (.mapr l) (s.set l (.mp [] 0))) ()) := rfl
def lkpK (ok : Bool) (rs : List (Nat × CK)) (z : AV) (s : Hp) (x k : AV) (C : AV → Prop) : Prop :=
  match x, k with
  | .mapr l, .agg cs => match s l with
    | some (.mp us _) => fitR rs cs ∧ keysOk rs us ∧ (match findM us (.agg cs) 0 with
      | some (_, v) => C (if ok then .tup [v, .v (.bool true)] else v)
      | none => C (if ok then .tup [z, .v (.bool false)] else z))
    | _ => False
  | _, _ => False
theorem G_lkp {ok : Bool} {rs : List (Nat × CK)} {z : AV} {x k : Operand} : G P (.lkp ok rs z x k) f s Kv = lkpK ok rs z s (ev f x) (ev f k) (hid1 (fun r => Kv r s) ()) := by
  simp only [G, lkpK]; generalize ev f x = a; generalize ev f k = b
  cases a <;> first
    | rfl
    | (cases b <;> rfl)
theorem lkp_intro {ok : Bool} {rs : List (Nat × CK)} {z : AV} {l : Nat} {cs : List AV} {F : AV → Option AV} {C : AV → Prop} {d : Dep C} (h : MapAt s l rs F) (hf : fitR rs cs)
    (hs : ∀ v, F (.agg cs) = some v → C (if ok then .tup [v, .v (.bool true)] else v)) (hn : F (.agg cs) = none → C (if ok then .tup [z, .v (.bool false)] else z)) : lkpK ok rs z s (.mapr l) (.agg cs) (hid1 C d) := by
  obtain ⟨us, c, h1, h2⟩ := h
  simp only [lkpK, h1]
  refine ⟨hf, h2.keys, ?_⟩
  have hv := h2.val (.agg cs)
  cases hq : findM us (.agg cs) 0 with
  | none => rw [hq] at hv; exact hn hv.symm
  | some r => rw [hq] at hv; exact hs _ hv.symm
def mupK (rs : List (Nat × CK)) (s : Hp) (x k v : AV) (C : Hp → Prop) : Prop :=
  match x, k with
  | .mapr l, .agg cs => match s l with
    | some (.mp us clock) => fitR rs cs ∧ keysOk rs us ∧ C (s.set l (.mp (updM us (.agg cs) v clock).1 (updM us (.agg cs) v clock).2))
    | _ => False
  | _, _ => False
theorem G_mup {rs : List (Nat × CK)} {x k v : Operand} : G P (.mup rs x k v) f s Kv = mupK rs s (ev f x) (ev f k) (ev f v) (hid1 (fun s' => Kv (.tup []) s') ()) := by
  simp only [G, mupK]; generalize ev f x = a; generalize ev f k = b
  cases a <;> first
    | rfl
    | (cases b <;> rfl)
theorem mup_intro {rs : List (Nat × CK)} {l : Nat} {cs : List AV} {v : AV} {F : AV → Option AV} {C : Hp → Prop} {d : Dep C} (h : MapAt s l rs F) (hf : fitR rs cs)
    (hC : ∀ o, MapAt (s.set l o) l rs (putM F (.agg cs) v) → C (s.set l o)) : mupK rs s (.mapr l) (.agg cs) v (hid1 C d) := by
  obtain ⟨us, c, h1, h2⟩ := h
  simp only [mupK, h1]
  refine ⟨hf, h2.keys, hC _ ⟨_, _, Hp.set_same _ _ _, ?_⟩⟩
  unfold updM
  cases hq : findM us (.agg cs) 0 with
  | none => exact h2.push hf hq
  | some r => exact h2.set hq
def mentK (rs : List (Nat × CK)) (z : AV) (s : Hp) (x k : AV) (C : AV → Hp → Prop) : Prop :=
  match x, k with
  | .mapr l, .agg cs => match s l with
    | some (.mp us clock) => fitR rs cs ∧ keysOk rs us ∧ C (.tup [(entM us (.agg cs) z clock).1, .v (.int .i64 ((entM us (.agg cs) z clock).2.1 : Nat))]) (s.set l (.mp (entM us (.agg cs) z clock).2.2.1 (entM us (.agg cs) z clock).2.2.2))
    | _ => False
  | _, _ => False
theorem G_ment {rs : List (Nat × CK)} {z : AV} {x k : Operand} : G P (.ment rs z x k) f s Kv = mentK rs z s (ev f x) (ev f k) (hid2 Kv ()) := rfl
theorem ment_intro {rs : List (Nat × CK)} {z : AV} {l : Nat} {cs : List AV} {F : AV → Option AV} {C : AV → Hp → Prop} {d : Dep C} (h : MapAt s l rs F) (hf : fitR rs cs)
    (hC : ∀ b o, MapMid (s.set l o) l rs F (.agg cs) b → C (.tup [(F (.agg cs)).getD z, .v (.int .i64 (b : Nat))]) (s.set l o)) : mentK rs z s (.mapr l) (.agg cs) (hid2 C d) := by
  obtain ⟨us, c, h1, h2⟩ := h
  simp only [mentK, h1]
  refine ⟨hf, h2.keys, ?_⟩
  simp only [hid2]
  have hv := h2.val (.agg cs)
  have e : (F (.agg cs)).getD z = (entM us (.agg cs) z c).1 := by
    rw [← hv]; unfold entM
    cases findM us (.agg cs) 0 <;> rfl
  rw [← e]
  refine hC _ _ ⟨_, _, Hp.set_same _ _ _, fun v => ?_⟩
  unfold entM
  cases hq : findM us (.agg cs) 0 with
  | none =>
    have h3 := h2.push (v := z) hf hq
    have hl : (us ++ [(AV.agg cs, z, c)])[us.length]? = some (AV.agg cs, z, c) := by simp
    have hfd : ∃ j v0, findM (us ++ [(AV.agg cs, z, c)]) (.agg cs) 0 = some (j, v0) := by
      have := h3.val (.agg cs)
      rw [putM_same] at this
      cases hz : findM (us ++ [(AV.agg cs, z, c)]) (.agg cs) 0 with
      | none => rw [hz] at this; cases this
      | some r => exact ⟨r.1, r.2, rfl⟩
    obtain ⟨j, v0, hj⟩ := hfd
    have h4 := h3.set (v' := v) hj
    rw [putM_twice] at h4
    obtain ⟨b, hb⟩ := findM_get _ _ hj
    have hbc : b = c := by
      have hmem := List.mem_of_getElem? hb
      rcases List.mem_append.1 hmem with hm | hm
      · exfalso
        obtain ⟨i, hi, hie⟩ := List.getElem_of_mem hm
        have hnone : ∀ us : List (AV × AV × Nat), findM us (.agg cs) 0 = none → ∀ u ∈ us, u.1 ≠ .agg cs := by
          intro us
          induction us with
          | nil => intro _ u hu; simp at hu
          | cons u0 us ih =>
            intro hn u hu
            rw [findM_cons] at hn
            split at hn
            · cases hn
            · next hk =>
              have hn' : findM us (.agg cs) 0 = none := by cases hf : findM us (.agg cs) 0 with | none => rfl | some r => rw [hf] at hn; cases hn
              rcases List.mem_cons.1 hu with rfl | hu
              · exact fun e => hk e.symm
              · exact ih hn' u hu
        exact hnone us hq _ hm rfl
      · simp at hm; exact hm.2
    have hbn := bornM_get _ h3.born hb
    subst hbc
    exact ⟨j, hbn, h4⟩
  | some r =>
    obtain ⟨b, hb⟩ := findM_get _ _ (j := r.1) (v := r.2) hq
    have hbn := bornM_get _ h2.born hb
    refine ⟨r.1, ?_, h2.set hq⟩
    simp only [hb, Option.map_some, Option.getD_some]
    exact hbn
def mstK (s : Hp) (x i v : AV) (C : Hp → Prop) : Prop :=
  match x, i with
  | .mapr l, .v (.int _ b) => match s l with
    | some (.mp us clock) => match bornM us b with
      | some j => C (s.set l (.mp (us.modify j fun u => (u.1, v, u.2.2)) clock))
      | none => False
    | _ => False
  | _, _ => False
theorem G_mst {x i v : Operand} : G P (.mst x i v) f s Kv = mstK s (ev f x) (ev f i) (ev f v) (hid1 (fun s' => Kv (.tup []) s') ()) := by
  simp only [G, mstK]; generalize ev f x = a; generalize ev f i = b
  cases a <;> first
    | rfl
    | (cases b <;> first | rfl | (rename_i u; cases u <;> rfl))
theorem mst_intro {rs : List (Nat × CK)} {l b : Nat} {k v : AV} {F : AV → Option AV} {C : Hp → Prop} {d : Dep C} (h : MapMid s l rs F k b)
    (hC : ∀ o, MapAt (s.set l o) l rs (putM F k v) → C (s.set l o)) : mstK s (.mapr l) (.v (.int .i64 (b : Nat))) v (hid1 C d) := by
  obtain ⟨us, c, h1, h2⟩ := h
  obtain ⟨j, h3, h4⟩ := h2 v
  simp only [mstK, h1, h3]
  exact hC _ ⟨_, _, Hp.set_same _ _ _, h4⟩
end
theorem binA_neqS {a b : List UInt8} : binA .neq (strV a) (strV b) = some (.v (.bool (!decide (a = b)))) := by
  simp only [strV, binA_v, neq_str a b]
  by_cases h : a = b <;> simp [h]
theorem binA_eqlS {a b : List UInt8} : binA .eql (strV a) (strV b) = some (.v (.bool (decide (a = b)))) := by
  simp only [strV, binA_v, eql_str a b]; rfl
theorem b2sMA_bytes {s : Hp} {bs : List UInt8} {o : Own} : b2sMA s (.sl (bs.map byteAV) o) = some (strV bs) := b2sMA_of srcF_bytes
theorem b2sA_bytes {bs : List UInt8} {o : Own} : b2sA (.sl (bs.map byteAV) o) = some (strV bs) := b2sA_map
theorem AC_nil {P : Program} {g : FuncId} {args : List AV} {s : Hp} {R : AV → Hp → Prop} (h : (∀ xs, AV.sl xs .nil ∈ args → xs = []) → AC P g args s R) : AC P g args s R := fun vs w H ha hs => by
  refine h (fun xs hx => ?_) vs w H ha hs
  obtain ⟨j, hj, he⟩ := List.getElem_of_mem hx
  have hv := ha.2 j _ (by rw [List.getElem?_eq_getElem hj, he])
  generalize vs.getD j undef = v at hv
  cases hv with
  | slEmpty => rfl
  | sl b off len cap k vals xs o hk hlen hcap hel hone hH hR ho => exact ho.elim
/-! bundles -/
def rP :=
  And.intro @G_mkM <|
  And.intro @G_lkp <|
  And.intro @G_mup <|
  And.intro @G_ment <|
  @G_mst
def rQ :=
  And.intro @binA_neqS <|
  And.intro @binA_eqlS <|
  And.intro @b2sMA_bytes <|
  @b2sA_bytes
def rA := And.intro rD (And.intro rF (And.intro rK rP))
def rZ := And.intro rU <| And.intro rX <| And.intro rG <| And.intro rM rQ
end Go.Av
set_option maxRecDepth 100000
namespace Go.Av
open Go
variable {P : Ctx} {f : Fr} {s s0 : Hp} {Kv : AV → Hp → Prop}
def eqnK (neg : Bool) (a : AV) (C : AV → Prop) : Prop :=
  match a with
  | .sl xs o => match o with
    | .nil => C (.v (.bool (!neg)))
    | .buf _ _ => C (.v (.bool neg))
    | _ => (xs = [] → C (.v (.bool (!neg)))) ∧ C (.v (.bool neg))
  | .mb _ _ _ _ => C (.v (.bool neg))
  | _ => False
theorem G_eqn {neg : Bool} {x : Operand} : G P (.eqn neg x) f s Kv = eqnK neg (ev f x) (hid1 (fun r => Kv r s) ()) := rfl
theorem eqn_intro {neg : Bool} {xs : List AV} {o : Own} {C : AV → Prop} {d : Dep C} (hn : o = .nil → xs = []) (h1 : xs = [] → C (.v (.bool (!neg)))) (h2 : C (.v (.bool neg))) : eqnK neg (.sl xs o) (hid1 C d) := by
  cases o with
  | nil => exact h1 (hn rfl)
  | buf g c => exact h2
  | any => exact ⟨h1, h2⟩
  | zero => exact ⟨h1, h2⟩
end Go.Av
namespace Go.Proofs.YtnnjjmiahcnbaaaGreat
open Go Go.Av
theorem clone_spec (bs : List UInt8) (o : Own) (s : Hp) (ho : o = .nil → bs = []) (hb : bs.length ≤ 70368744177664) :
    AC Tryz.prog 16 [.sl (bs.map byteAV) o] s fun r s' => ∃ o', Owned s s' 1 (bs.map byteAV) o' ∧ r = .sl (bs.map byteAV) o' := by
  refine AC_run hm prep16 (by simp) ?_
  simp (dsimp := false) (implicitDefEqProofs := false) (disch := first | omega | assumption | (simp only [rL, Nat.reduceAdd]; try omega)) only [↓rD, rU, ev, ofConst, ofCell, ↓reduceIte, Nat.reduceEqDiff, Nat.reduceAdd, Nat.reduceSub, Nat.reduceMul, Nat.reduceLeDiff, Nat.reduceLT, Int.reduceNeg, Int.reduceToNat, Int.reduceAdd, Int.reduceSub, Int.reduceMul, Int.reduceLT, Int.reduceLE, Int.reduceEq, rX, dg_cells, dg_fold, List.drop_succ_cons, ↓G_eqn]
  refine eqn_intro (fun h => by rw [ho h]; rfl) (fun h => ?_) ?_
  · have hb0 : bs = [] := by simpa using h
    subst hb0
    simp (dsimp := false) (implicitDefEqProofs := false) (disch := first | omega | assumption | (simp only [rL, Nat.reduceAdd]; try omega)) only [↓rD, rU, ev, ofConst, ofCell, ↓reduceIte, Nat.reduceEqDiff, Nat.reduceAdd, Nat.reduceSub, Nat.reduceMul, Nat.reduceLeDiff, Nat.reduceLT, Int.reduceNeg, Int.reduceToNat, Int.reduceAdd, Int.reduceSub, Int.reduceMul, Int.reduceLT, Int.reduceLE, Int.reduceEq, rX, dg_cells, dg_fold, List.drop_succ_cons, Bool.not_false]
    exact ⟨s, Hp.sub_refl, .nil, Owned.nil Hp.sub_refl, rfl⟩
  · simp (dsimp := false) (implicitDefEqProofs := false) (disch := first | omega | assumption | (simp only [rL, Nat.reduceAdd]; try omega)) only [↓rD, rU, ev, ofConst, ofCell, ↓reduceIte, Nat.reduceEqDiff, Nat.reduceAdd, Nat.reduceSub, Nat.reduceMul, Nat.reduceLeDiff, Nat.reduceLT, Int.reduceNeg, Int.reduceToNat, Int.reduceAdd, Int.reduceSub, Int.reduceMul, Int.reduceLT, Int.reduceLE, Int.reduceEq, rX, dg_cells, dg_fold, List.drop_succ_cons]
    refine bsl_own Hp.sub_refl (by simp [allLen]) fun o1 s1 h1 => ?_
    simp (dsimp := false) (implicitDefEqProofs := false) (disch := first | omega | assumption | (simp only [rL, Nat.reduceAdd]; try omega)) only [↓rD, rU, ev, ofConst, ofCell, ↓reduceIte, Nat.reduceEqDiff, Nat.reduceAdd, Nat.reduceSub, Nat.reduceMul, Nat.reduceLeDiff, Nat.reduceLT, Int.reduceNeg, Int.reduceToNat, Int.reduceAdd, Int.reduceSub, Int.reduceMul, Int.reduceLT, Int.reduceLE, Int.reduceEq, rX, dg_cells, dg_fold, List.drop_succ_cons]
    refine app_bytes (xs := []) h1 (by simp; omega) fun o2 s2 h2 => ?_
    simp (dsimp := false) (implicitDefEqProofs := false) (disch := first | omega | assumption | (simp only [rL, Nat.reduceAdd]; try omega)) only [↓rD, rU, ev, ofConst, ofCell, ↓reduceIte, Nat.reduceEqDiff, Nat.reduceAdd, Nat.reduceSub, Nat.reduceMul, Nat.reduceLeDiff, Nat.reduceLT, Int.reduceNeg, Int.reduceToNat, Int.reduceAdd, Int.reduceSub, Int.reduceMul, Int.reduceLT, Int.reduceLE, Int.reduceEq, rX, dg_cells, dg_fold, List.drop_succ_cons, List.nil_append]
    exact ⟨s2, Hp.sub_refl, o2, by simpa using h2, rfl⟩
theorem clone_spec2 (bs : List UInt8) (o : Own) (s : Hp) (hb : bs.length ≤ 70368744177664) :
    AC Tryz.prog 16 [.sl (bs.map byteAV) o] s fun r s' => ∃ o', Owned s s' 1 (bs.map byteAV) o' ∧ r = .sl (bs.map byteAV) o' :=
  AC_nil fun h => clone_spec bs o s (fun e => by subst e; simpa using h (bs.map byteAV) (by simp)) hb
theorem wbytes_spec (s0 s : Hp) (l : Nat) (bs : List UInt8) (h : WS s0 l bs s) (hb : bs.length ≤ 70368744177664) :
    AC Tryz.prog 78 [.ptr l 0] s fun r s' => ∃ o', Owned s s' 1 (bs.map byteAV) o' ∧ r = .sl (bs.map byteAV) o' := by
  obtain ⟨ow, h⟩ := h
  have g := h.sub _ _ (Hp.set_same _ _ _)
  refine AC_run hm prep78 (by simp) ?_
  simp (dsimp := false) (implicitDefEqProofs := false) (disch := first | omega | assumption | (simp only [rL, Nat.reduceAdd]; try omega)) only [↓rD, rU, ev, ofConst, ofCell, ↓reduceIte, Nat.reduceEqDiff, Nat.reduceAdd, Nat.reduceSub, Nat.reduceMul, Nat.reduceLeDiff, Nat.reduceLT, Int.reduceNeg, Int.reduceToNat, Int.reduceAdd, Int.reduceSub, Int.reduceMul, Int.reduceLT, Int.reduceLE, Int.reduceEq, rX, dg_cells, dg_fold, List.drop_succ_cons, Hp.read_of g, ne_eq, not_true_eq_false]
  refine call_intro (clone_spec bs ow s (fun hn => ?_) hb) ?_
  · subst hn; have := h.2; simpa using this
  rintro _ s1 ⟨o1, h1, rfl⟩
  simp (dsimp := false) (implicitDefEqProofs := false) (disch := first | omega | assumption | (simp only [rL, Nat.reduceAdd]; try omega)) only [↓rD, rU, ev, ofConst, ofCell, ↓reduceIte, Nat.reduceEqDiff, Nat.reduceAdd, Nat.reduceSub, Nat.reduceMul, Nat.reduceLeDiff, Nat.reduceLT, Int.reduceNeg, Int.reduceToNat, Int.reduceAdd, Int.reduceSub, Int.reduceMul, Int.reduceLT, Int.reduceLE, Int.reduceEq, rX, dg_cells, dg_fold, List.drop_succ_cons]
  exact ⟨s1, Hp.sub_refl, o1, h1, rfl⟩
end Go.Proofs.YtnnjjmiahcnbaaaGreat
set_option maxRecDepth 100000
namespace Go.Av
open Go
theorem slcRA_at {s : Hp} {n l off : Nat} {cs : List AV} (h : s l = some (.ro cs)) (h2 : off + n ≤ cs.length) : slcRA 1 n s (.ptr l off) = some (.sl ((cs.drop off).take n) .any) := by
  simp [slcRA, h, h2, elemsOf]
end Go.Av
namespace Go.Proofs.YtnnjjmiahcnbaaaGreat
open Go Go.Av
def opC (n : Int) (h d : List UInt8) : List AV := .v (.int .i64 n) :: (h.map byteAV ++ d.map byteAV)
def OPV (n : Int) (h d : List UInt8) : AV := .agg (opC n h d)
def digPre (n : Int) (h d : List UInt8) : List UInt8 := preB 68 [numB n, h, d]
theorem digPre_length (n : Int) (h d : List UInt8) (hh : h.length = 32) (hd : d.length = 32) : (digPre n h d).length = 97 := by simp [digPre, preB, chunk, eightB, numB, hh, hd]
theorem opC_length {n : Int} {h d : List UInt8} (hh : h.length = 32) (hd : d.length = 32) : (opC n h d).length = 65 := by simp [opC, hh, hd]
theorem opC_h {n : Int} {h d : List UInt8} (hh : h.length = 32) : ((opC n h d).drop 1).take 32 = h.map byteAV := by
  simp only [opC, List.drop_succ_cons, List.drop_zero]
  rw [show (32 : Nat) = (h.map byteAV).length by simp [hh], List.take_left]
theorem opC_d {n : Int} {h d : List UInt8} (hh : h.length = 32) (hd : d.length = 32) : ((opC n h d).drop 33).take 32 = d.map byteAV := by
  simp only [opC, List.drop_succ_cons]
  rw [show (32 : Nat) = (h.map byteAV).length by simp [hh], List.drop_left, List.take_of_length_le (by simp [hd, hh])]
theorem digPre_spec (n : Int) (h d : List UInt8) (hh : h.length = 32) (hd : d.length = 32) (s : Hp) :
    AC Tryz.prog 48 [OPV n h d] s fun r s' => ∃ o, Owned s s' 1 ((digPre n h d).map byteAV) o ∧ r = .sl ((digPre n h d).map byteAV) o := by
  refine AC_run hm prep48 (by simp) ?_
  have hc : (OPV n h d).cells = opC n h d := rfl
  have hl := opC_length (n := n) hh hd
  simp (dsimp := false) (implicitDefEqProofs := false) (disch := first | omega | assumption | (simp only [rL, Nat.reduceAdd]; try omega)) only [↓rD, rU, ev, ofConst, ofCell, ↓reduceIte, Nat.reduceEqDiff, Nat.reduceAdd, Nat.reduceSub, Nat.reduceMul, Nat.reduceLeDiff, Nat.reduceLT, Int.reduceNeg, Int.reduceToNat, Int.reduceAdd, Int.reduceSub, Int.reduceMul, Int.reduceLT, Int.reduceLE, Int.reduceEq, rX, dg_cells, dg_fold, List.drop_succ_cons, hc, hl]
  refine newK_intro fun l1 n1 => ?_
  simp (dsimp := false) (implicitDefEqProofs := false) (disch := first | omega | assumption | (simp only [rL, Nat.reduceAdd]; try omega)) only [↓rD, rU, ev, ofConst, ofCell, ↓reduceIte, Nat.reduceEqDiff, Nat.reduceAdd, Nat.reduceSub, Nat.reduceMul, Nat.reduceLeDiff, Nat.reduceLT, Int.reduceNeg, Int.reduceToNat, Int.reduceAdd, Int.reduceSub, Int.reduceMul, Int.reduceLT, Int.reduceLE, Int.reduceEq, rX, dg_cells, dg_fold, List.drop_succ_cons, hc, hl]
  refine newK_intro fun l3 n3 => ?_
  obtain ⟨d31, e3⟩ := Hp.set_none n3
  have hm0 : mkv false 1 (opC n h d) = .v (.int .i64 n) := rfl
  simp (dsimp := false) (implicitDefEqProofs := false) (disch := first | omega | assumption | (simp only [rL, Nat.reduceAdd]; try omega)) only [↓rD, rU, ev, ofConst, ofCell, ↓reduceIte, Nat.reduceEqDiff, Nat.reduceAdd, Nat.reduceSub, Nat.reduceMul, Nat.reduceLeDiff, Nat.reduceLT, Int.reduceNeg, Int.reduceToNat, Int.reduceAdd, Int.reduceSub, Int.reduceMul, Int.reduceLT, Int.reduceLE, Int.reduceEq, rX, dg_cells, dg_fold, List.drop_succ_cons, hc, hl, hm0, Ne.symm d31]
  have hW : WS (s.set l1 (.ro (opC n h d))) l3 [] ((s.set l1 (.ro (opC n h d))).set l3 (.cells [.sl [] .nil, .v (.int .i64 0)])) := ⟨.nil, Owned.nil Hp.sub_refl⟩
  refine call_intro (num_spec _ _ l3 [] n hW (by simp)) ?_
  intro r s1 hW
  rw [List.nil_append] at hW
  have g1 : s1 l1 = some (.ro (opC n h d)) := by
    obtain ⟨ow, hO⟩ := hW
    exact hO.sub _ _ (by rw [Hp.set_ne _ _ (Ne.symm d31)]; exact Hp.set_same _ _ _)
  have hs1 : s.sub s1 := by
    obtain ⟨ow, hO⟩ := hW
    exact Hp.sub_trans (Hp.sub_new (Hp.sub_new Hp.sub_refl n1) e3) hO.sub
  have k1 : slcRA 1 32 s1 (.ptr l1 1) = some (.sl (h.map byteAV) .any) := by rw [slcRA_at g1 (by omega), opC_h hh]
  have k2 : slcRA 1 32 s1 (.ptr l1 33) = some (.sl (d.map byteAV) .any) := by rw [slcRA_at g1 (by omega), opC_d hh hd]
  simp (dsimp := false) (implicitDefEqProofs := false) (disch := first | omega | assumption | (simp only [rL, Nat.reduceAdd]; try omega)) only [↓rD, rU, ev, ofConst, ofCell, ↓reduceIte, Nat.reduceEqDiff, Nat.reduceAdd, Nat.reduceSub, Nat.reduceMul, Nat.reduceLeDiff, Nat.reduceLT, Int.reduceNeg, Int.reduceToNat, Int.reduceAdd, Int.reduceSub, Int.reduceMul, Int.reduceLT, Int.reduceLE, Int.reduceEq, rX, dg_cells, dg_fold, List.drop_succ_cons, k1, k2]
  refine call_intro (wbytes_spec _ s1 l3 (numB n) hW (by simp [numB, eightB])) ?_
  rintro _ s2 ⟨o2, h2, rfl⟩
  have g2 := h2.sub _ _ g1
  have k3 : slcRA 1 32 s2 (.ptr l1 1) = some (.sl (h.map byteAV) .any) := by rw [slcRA_at g2 (by omega), opC_h hh]
  have k4 : slcRA 1 32 s2 (.ptr l1 33) = some (.sl (d.map byteAV) .any) := by rw [slcRA_at g2 (by omega), opC_d hh hd]
  simp (dsimp := false) (implicitDefEqProofs := false) (disch := first | omega | assumption | (simp only [rL, Nat.reduceAdd]; try omega)) only [↓rD, rU, ev, ofConst, ofCell, ↓reduceIte, Nat.reduceEqDiff, Nat.reduceAdd, Nat.reduceSub, Nat.reduceMul, Nat.reduceLeDiff, Nat.reduceLT, Int.reduceNeg, Int.reduceToNat, Int.reduceAdd, Int.reduceSub, Int.reduceMul, Int.reduceLT, Int.reduceLE, Int.reduceEq, rX, dg_cells, dg_fold, List.drop_succ_cons, k3, k4]
  refine bsl_own Hp.sub_refl (by simp [allLen, AV.cells]) fun o3 s3 h3 => ?_
  simp (dsimp := false) (implicitDefEqProofs := false) (disch := first | omega | assumption | (simp only [rL, Nat.reduceAdd]; try omega)) only [↓rD, rU, ev, ofConst, ofCell, ↓reduceIte, Nat.reduceEqDiff, Nat.reduceAdd, Nat.reduceSub, Nat.reduceMul, Nat.reduceLeDiff, Nat.reduceLT, Int.reduceNeg, Int.reduceToNat, Int.reduceAdd, Int.reduceSub, Int.reduceMul, Int.reduceLT, Int.reduceLE, Int.reduceEq, rX, dg_cells, dg_fold, List.drop_succ_cons]
  have hlen := digPre_length n h d hh hd
  refine call_intro (pre_spec 68 [(numB n, o2), (h, .any), (d, .any)] o3 (by simp only [digPre] at hlen; simp only [List.map_cons, List.map_nil, hlen]; omega) _) ?_
  rintro _ s4 ⟨o4, h4, rfl⟩
  simp (dsimp := false) (implicitDefEqProofs := false) (disch := first | omega | assumption | (simp only [rL, Nat.reduceAdd]; try omega)) only [↓rD, rU, ev, ofConst, ofCell, ↓reduceIte, Nat.reduceEqDiff, Nat.reduceAdd, Nat.reduceSub, Nat.reduceMul, Nat.reduceLeDiff, Nat.reduceLT, Int.reduceNeg, Int.reduceToNat, Int.reduceAdd, Int.reduceSub, Int.reduceMul, Int.reduceLT, Int.reduceLE, Int.reduceEq, rX, dg_cells, dg_fold, List.drop_succ_cons]
  exact ⟨s4, Hp.sub_refl, o4, h4.base (Hp.sub_trans hs1 (Hp.sub_trans h2.sub h3.sub)), rfl⟩
end Go.Proofs.YtnnjjmiahcnbaaaGreat
/-
  block.Digest; openings as values; a writer's digests.
-/
set_option maxRecDepth 100000
namespace Go.Av
open Go
theorem slcRA_same {s : Hp} {n l : Nat} {cs : List AV} (h : cs.length = n) : slcRA 1 n (s.set l (.ro cs)) (.ptr l 0) = some (.sl cs .any) := slcRA_one (Hp.set_same _ _ _) h
end Go.Av
namespace Go.Proofs.YtnnjjmiahcnbaaaGreat
open Go Go.Av
theorem op_fold {n : Int} {h d : List UInt8} (hh : h.length = 32) (hd : d.length = 32) : (.agg ((opC n h d).take 65) : AV) = OPV n h d := by
  rw [List.take_of_length_le (by rw [opC_length hh hd]; omega)]; rfl
theorem bdigest_spec (n : Int) (h d : List UInt8) (hh : h.length = 32) (hd : d.length = 32) (s : Hp) :
    AC Tryz.prog 25 [OPV n h d] s fun r s' => s' = s ∧ r = dg (sha256 (digPre n h d)) := by
  refine AC_run hm prep25 (by simp) ?_
  have hc : (OPV n h d).cells = opC n h d := rfl
  have hl := opC_length (n := n) hh hd
  have hf := op_fold (n := n) hh hd
  simp (dsimp := false) (implicitDefEqProofs := false) (disch := first | omega | assumption | (simp only [rL, Nat.reduceAdd]; try omega)) only [↓rD, rU, ev, ofConst, ofCell, ↓reduceIte, Nat.reduceEqDiff, Nat.reduceAdd, Nat.reduceSub, Nat.reduceMul, Nat.reduceLeDiff, Nat.reduceLT, Int.reduceNeg, Int.reduceToNat, Int.reduceAdd, Int.reduceSub, Int.reduceMul, Int.reduceLT, Int.reduceLE, Int.reduceEq, rX, dg_cells, dg_fold, List.drop_succ_cons, hc, hl]
  refine newK_intro fun l1 n1 => ?_
  simp (dsimp := false) (implicitDefEqProofs := false) (disch := first | omega | assumption | (simp only [rL, Nat.reduceAdd]; try omega)) only [↓rD, rU, ev, ofConst, ofCell, ↓reduceIte, Nat.reduceEqDiff, Nat.reduceAdd, Nat.reduceSub, Nat.reduceMul, Nat.reduceLeDiff, Nat.reduceLT, Int.reduceNeg, Int.reduceToNat, Int.reduceAdd, Int.reduceSub, Int.reduceMul, Int.reduceLT, Int.reduceLE, Int.reduceEq, rX, dg_cells, dg_fold, List.drop_succ_cons, hc, hl]
  refine newK_intro fun l2 n2 => ?_
  obtain ⟨d21, e2⟩ := Hp.set_none n2
  simp (dsimp := false) (implicitDefEqProofs := false) (disch := first | omega | assumption | (simp only [rL, Nat.reduceAdd]; try omega)) only [↓rD, rU, ev, ofConst, ofCell, ↓reduceIte, Nat.reduceEqDiff, Nat.reduceAdd, Nat.reduceSub, Nat.reduceMul, Nat.reduceLeDiff, Nat.reduceLT, Int.reduceNeg, Int.reduceToNat, Int.reduceAdd, Int.reduceSub, Int.reduceMul, Int.reduceLT, Int.reduceLE, Int.reduceEq, rX, dg_cells, dg_fold, List.drop_succ_cons, hc, hl, Ne.symm d21, hf]
  refine call_intro (digPre_spec n h d hh hd _) ?_
  rintro _ s1 ⟨o1, h1, rfl⟩
  simp (dsimp := false) (implicitDefEqProofs := false) (disch := first | omega | assumption | (simp only [rL, Nat.reduceAdd]; try omega)) only [↓rD, rU, ev, ofConst, ofCell, ↓reduceIte, Nat.reduceEqDiff, Nat.reduceAdd, Nat.reduceSub, Nat.reduceMul, Nat.reduceLeDiff, Nat.reduceLT, Int.reduceNeg, Int.reduceToNat, Int.reduceAdd, Int.reduceSub, Int.reduceMul, Int.reduceLT, Int.reduceLE, Int.reduceEq, rX, dg_cells, dg_fold, List.drop_succ_cons]
  refine call_intro (sum_spec (digPre n h d) o1 (by rw [digPre_length n h d hh hd]; omega) _) ?_
  rintro _ _ ⟨rfl, rfl⟩
  have g2 := h1.sub _ _ (Hp.set_same _ _ _)
  have hq := sha256_length (digPre n h d)
  generalize sha256 (digPre n h d) = e at *
  simp (dsimp := false) (implicitDefEqProofs := false) (disch := first | omega | assumption | (simp only [rL, Nat.reduceAdd]; try omega)) only [↓rD, rU, ev, ofConst, ofCell, ↓reduceIte, Nat.reduceEqDiff, Nat.reduceAdd, Nat.reduceSub, Nat.reduceMul, Nat.reduceLeDiff, Nat.reduceLT, Int.reduceNeg, Int.reduceToNat, Int.reduceAdd, Int.reduceSub, Int.reduceMul, Int.reduceLT, Int.reduceLE, Int.reduceEq, rX, dg_cells, dg_fold, List.drop_succ_cons, hq, Hp.stA_of g2, Hp.read_of g2]
  exact ⟨s, Hp.sub_new (Hp.sub_trans (Hp.sub_new (Hp.sub_new Hp.sub_refl n1) e2) h1.sub) e2, rfl⟩
structure Opn where
  n : Int
  h : List UInt8
  d : List UInt8
  deriving DecidableEq
def Opn.ok (o : Opn) : Prop := o.h.length = 32 ∧ o.d.length = 32
def Opn.C (o : Opn) : List AV := opC o.n o.h o.d
def Opn.V (o : Opn) : AV := OPV o.n o.h o.d
def Opn.sum (o : Opn) : List UInt8 := sha256 (digPre o.n o.h o.d)
theorem Opn.lenC {o : Opn} (ho : o.ok) : o.C.length = 65 := opC_length ho.1 ho.2
theorem Opn.cells {o : Opn} : o.V.cells = o.C := rfl
theorem Opn.fold {o : Opn} (ho : o.ok) : (.agg (o.C.take 65) : AV) = o.V := op_fold ho.1 ho.2
theorem Opn.fold' {o : Opn} : (.agg o.C : AV) = o.V := rfl
theorem Opn.m0 {o : Opn} : mkv false 1 o.C = .v (.int .i64 o.n) := rfl
theorem Opn.h32 {o : Opn} (ho : o.ok) : (o.C.drop 1).take 32 = o.h.map byteAV := opC_h ho.1
theorem dg_fold' {d : List UInt8} : (.agg (d.map byteAV) : AV) = dg d := rfl
theorem WS.mono {s0 s s' : Hp} {l : Nat} {bs : List UInt8} (h : WS s0 l bs s) (hs : s.sub s') : WS s0 l bs s' := by
  obtain ⟨ow, h⟩ := h; exact ⟨ow, h.mono hs⟩
theorem WS.sub {s0 s : Hp} {l : Nat} {bs : List UInt8} (h : WS s0 l bs s) (h0 : s0 l = none) : s0.sub s := by
  obtain ⟨ow, h⟩ := h; exact Hp.sub_trans (Hp.sub_new Hp.sub_refl h0) h.sub
theorem WS.base {s0 s1 s : Hp} {l : Nat} {bs : List UInt8} (h : WS s0 l bs s) (hs : s1.sub s0) : WS s1 l bs s := by
  obtain ⟨ow, h⟩ := h; exact ⟨ow, h.base (Hp.sub_set hs)⟩
theorem WS.cell {s0 s : Hp} {l : Nat} {bs : List UInt8} (h : WS s0 l bs s) : ∃ ow, s l = some (WC bs ow) := by
  obtain ⟨ow, h⟩ := h; exact ⟨ow, h.sub _ _ (Hp.set_same _ _ _)⟩
theorem WS.new {s0 s : Hp} {l l2 : Nat} {bs : List UInt8} {ob : Ob} (h : WS s0 l bs s) (h2 : s l2 = none) : l2 ≠ l ∧ s0 l2 = none ∧ WS (s0.set l2 ob) l bs (s.set l2 ob) := by
  obtain ⟨ow, hc⟩ := h.cell
  have hne : l2 ≠ l := by rintro rfl; rw [h2] at hc; cases hc
  obtain ⟨ow, h⟩ := h
  have h0 := Hp.sub_none h.sub h2
  rw [Hp.set_ne _ _ hne] at h0
  refine ⟨hne, h0, ow, ?_⟩
  rw [Hp.set_set_comm _ hne]
  exact h.new h2
theorem WS.get {s0 s : Hp} {l l2 : Nat} {bs : List UInt8} {ob : Ob} (h : WS s0 l bs s) (hne : l2 ≠ l) (h2 : s0 l2 = some ob) : s l2 = some ob := by
  obtain ⟨ow, h⟩ := h
  exact h.sub _ _ (by rw [Hp.set_ne _ _ hne]; exact h2)
theorem wdigest_spec (s0 s : Hp) (l : Nat) (bs d : List UInt8) (hd : d.length = 32) (h : WS s0 l bs s) (hl : bs.length + 32 ≤ 70368744177664) :
    AC Tryz.prog 99 [.ptr l 0, dg d] s fun _ s' => WS s0 l (bs ++ d) s' := by
  refine AC_run hm prep99 (by simp) ?_
  simp (dsimp := false) (implicitDefEqProofs := false) (disch := first | omega | assumption | (simp only [rL, Nat.reduceAdd]; try omega)) only [↓rD, rU, ev, ofConst, ofCell, ↓reduceIte, Nat.reduceEqDiff, Nat.reduceAdd, Nat.reduceSub, Nat.reduceMul, Nat.reduceLeDiff, Nat.reduceLT, Int.reduceNeg, Int.reduceToNat, Int.reduceAdd, Int.reduceSub, Int.reduceMul, Int.reduceLT, Int.reduceLE, Int.reduceEq, rX, dg_cells, dg_fold, List.drop_succ_cons, ↓rF, rG, hd]
  refine newK_intro fun l3 n3 => ?_
  simp (dsimp := false) (implicitDefEqProofs := false) (disch := first | omega | assumption | (simp only [rL, Nat.reduceAdd]; try omega)) only [↓rD, rU, ev, ofConst, ofCell, ↓reduceIte, Nat.reduceEqDiff, Nat.reduceAdd, Nat.reduceSub, Nat.reduceMul, Nat.reduceLeDiff, Nat.reduceLT, Int.reduceNeg, Int.reduceToNat, Int.reduceAdd, Int.reduceSub, Int.reduceMul, Int.reduceLT, Int.reduceLE, Int.reduceEq, rX, dg_cells, dg_fold, List.drop_succ_cons, ↓rF, rG, hd, slcRA_same]
  refine call_intro (put_spec s0 _ l bs d .any (h.mono (Hp.sub_new Hp.sub_refl n3)) (by omega)) ?_
  intro r s1 h1
  simp (dsimp := false) (implicitDefEqProofs := false) (disch := first | omega | assumption | (simp only [rL, Nat.reduceAdd]; try omega)) only [↓rD, rU, ev, ofConst, ofCell, ↓reduceIte, Nat.reduceEqDiff, Nat.reduceAdd, Nat.reduceSub, Nat.reduceMul, Nat.reduceLeDiff, Nat.reduceLT, Int.reduceNeg, Int.reduceToNat, Int.reduceAdd, Int.reduceSub, Int.reduceMul, Int.reduceLT, Int.reduceLE, Int.reduceEq, rX, dg_cells, dg_fold, List.drop_succ_cons, ↓rF, rG]
  exact ⟨_, Hp.sub_refl, h1⟩
theorem numB_length (n : Int) : (numB n).length = 8 := rfl
theorem Opn.d32 {o : Opn} (ho : o.ok) : (o.C.drop 33).take 32 = o.d.map byteAV := opC_d ho.1 ho.2
end Go.Proofs.YtnnjjmiahcnbaaaGreat
/-
  codec.Reader: parts are read.
-/
set_option maxRecDepth 100000
namespace Go.Proofs.YtnnjjmiahcnbaaaGreat
open Go Go.Av
structure Rd where
  b : List UInt8
  e : Int
def RC (r : Rd) (ow : Own) : Ob := .cells [.sl (r.b.map byteAV) ow, .v (.int .i64 r.e)]
def RS (s0 : Hp) (l : Nat) (r : Rd) (s : Hp) : Prop := ∃ ow, (s0.set l (RC r ow)).sub s
theorem RS.cell {s0 s : Hp} {l : Nat} {r : Rd} (h : RS s0 l r s) : ∃ ow, s l = some (.cells [.sl (r.b.map byteAV) ow, .v (.int .i64 r.e)]) := by
  obtain ⟨ow, h⟩ := h; exact ⟨ow, h _ _ (Hp.set_same _ _ _)⟩
theorem RS.mono {s0 s s' : Hp} {l : Nat} {r : Rd} (h : RS s0 l r s) (hs : s.sub s') : RS s0 l r s' := by
  obtain ⟨ow, h⟩ := h; exact ⟨ow, Hp.sub_trans h hs⟩
theorem RS.base {s0 s1 s : Hp} {l : Nat} {r : Rd} (h : RS s0 l r s) (hs : s1.sub s0) : RS s1 l r s := by
  obtain ⟨ow, h⟩ := h; exact ⟨ow, Hp.sub_trans (Hp.sub_set hs) h⟩
theorem RS.sub {s0 s : Hp} {l : Nat} {r : Rd} (h : RS s0 l r s) (h0 : s0 l = none) : s0.sub s := by
  obtain ⟨ow, h⟩ := h; exact Hp.sub_trans (Hp.sub_new Hp.sub_refl h0) h
theorem RS.set {s0 s : Hp} {l : Nat} {r : Rd} (h : RS s0 l r s) (r' : Rd) (ow : Own) : RS s0 l r' (s.set l (RC r' ow)) := by
  obtain ⟨ow', h⟩ := h; exact ⟨ow, Hp.sub_set_of h⟩
theorem RS.get {s0 s : Hp} {l l2 : Nat} {r : Rd} {ob : Ob} (h : RS s0 l r s) (hne : l2 ≠ l) (h2 : s0 l2 = some ob) : s l2 = some ob := by
  obtain ⟨ow, h⟩ := h; exact h _ _ (by rw [Hp.set_ne _ _ hne]; exact h2)
theorem RS.new {s0 s : Hp} {l l2 : Nat} {r : Rd} {ob : Ob} (h : RS s0 l r s) (h2 : s l2 = none) : l2 ≠ l ∧ s0 l2 = none ∧ RS (s0.set l2 ob) l r (s.set l2 ob) := by
  obtain ⟨ow, hc⟩ := h.cell
  have hne : l2 ≠ l := by rintro rfl; rw [h2] at hc; cases hc
  obtain ⟨ow, h⟩ := h
  have h0 := Hp.sub_none h h2
  rw [Hp.set_ne _ _ hne] at h0
  refine ⟨hne, h0, ow, ?_⟩
  rw [Hp.set_set_comm _ hne]
  exact Hp.sub_set h
theorem RS.other {s0 s : Hp} {l l2 : Nat} {r : Rd} {ob : Ob} (h : RS s0 l r s) (hne : l2 ≠ l) : RS (s0.set l2 ob) l r (s.set l2 ob) := by
  obtain ⟨ow, h⟩ := h
  refine ⟨ow, ?_⟩
  rw [Hp.set_set_comm _ hne]
  exact Hp.sub_set h
theorem New_spec (bs : List UInt8) (o : Own) (s : Hp) (ho : o = .nil → bs = []) (hb : bs.length ≤ 70368744177664) :
    AC Tryz.prog 52 [.sl (bs.map byteAV) o] s fun r s' => ∃ l, s l = none ∧ r = .ptr l 0 ∧ RS s l ⟨bs, 0⟩ s' := by
  refine AC_run hm prep52 (by simp) ?_
  simp (dsimp := false) (implicitDefEqProofs := false) (disch := first | omega | assumption | (simp only [rL, Nat.reduceAdd]; try omega)) only [↓rD, rU, ev, ofConst, ofCell, ↓reduceIte, Nat.reduceEqDiff, Nat.reduceAdd, Nat.reduceSub, Nat.reduceMul, Nat.reduceLeDiff, Nat.reduceLT, Int.reduceNeg, Int.reduceToNat, Int.reduceAdd, Int.reduceSub, Int.reduceMul, Int.reduceLT, Int.reduceLE, Int.reduceEq, rX, dg_cells, dg_fold, List.drop_succ_cons, ↓rF, rG]
  refine call_intro (clone_spec bs o s ho hb) ?_
  rintro _ s1 ⟨o1, h1, rfl⟩
  have e : putAt [AV.sl [] Own.nil, AV.v (Value.int IntKind.i64 0)] 0 [AV.sl (bs.map byteAV) o1] = [AV.sl (bs.map byteAV) o1, AV.v (Value.int IntKind.i64 0)] := rfl
  simp (dsimp := false) (implicitDefEqProofs := false) (disch := first | omega | assumption | (simp only [rL, Nat.reduceAdd]; try omega)) only [↓rD, rU, ev, ofConst, ofCell, ↓reduceIte, Nat.reduceEqDiff, Nat.reduceAdd, Nat.reduceSub, Nat.reduceMul, Nat.reduceLeDiff, Nat.reduceLT, Int.reduceNeg, Int.reduceToNat, Int.reduceAdd, Int.reduceSub, Int.reduceMul, Int.reduceLT, Int.reduceLE, Int.reduceEq, rX, dg_cells, dg_fold, List.drop_succ_cons, ↓rF, rG, e]
  refine newK_intro fun l6 n6 => ?_
  simp (dsimp := false) (implicitDefEqProofs := false) (disch := first | omega | assumption | (simp only [rL, Nat.reduceAdd]; try omega)) only [↓rD, rU, ev, ofConst, ofCell, ↓reduceIte, Nat.reduceEqDiff, Nat.reduceAdd, Nat.reduceSub, Nat.reduceMul, Nat.reduceLeDiff, Nat.reduceLT, Int.reduceNeg, Int.reduceToNat, Int.reduceAdd, Int.reduceSub, Int.reduceMul, Int.reduceLT, Int.reduceLE, Int.reduceEq, rX, dg_cells, dg_fold, List.drop_succ_cons, ↓rF, rG, e]
  exact ⟨_, Hp.sub_refl, l6, Hp.sub_none h1.sub n6, rfl, o1, Hp.sub_set h1.sub⟩
def failF (r : Rd) (e : Int) : Rd := if r.e = 0 then { r with e := e } else r
theorem put_rd1 {a b c : AV} : putAt [a, b] 1 [c] = [a, c] := rfl
theorem put_rd0 {a b c : AV} : putAt [a, b] 0 [c] = [c, b] := rfl
theorem fail_spec (s0 s : Hp) (l : Nat) (r : Rd) (e : Int) (h : RS s0 l r s) :
    AC Tryz.prog 91 [.ptr l 0, .v (.int .i64 e)] s fun _ s' => RS s0 l (failF r e) s' := by
  obtain ⟨ow, g⟩ := h.cell
  refine AC_run hm prep91 (by simp) ?_
  by_cases c : r.e = 0
  · simp (dsimp := false) (implicitDefEqProofs := false) (disch := first | omega | assumption | (simp only [rL, Nat.reduceAdd]; try omega)) only [↓rD, rU, ev, ofConst, ofCell, ↓reduceIte, Nat.reduceEqDiff, Nat.reduceAdd, Nat.reduceSub, Nat.reduceMul, Nat.reduceLeDiff, Nat.reduceLT, Int.reduceNeg, Int.reduceToNat, Int.reduceAdd, Int.reduceSub, Int.reduceMul, Int.reduceLT, Int.reduceLE, Int.reduceEq, rX, dg_cells, dg_fold, List.drop_succ_cons, ↓rF, rG, Hp.read_of g, Hp.stA_of g, c, put_rd1]
    refine ⟨_, Hp.sub_refl, ?_⟩
    rw [failF, if_pos c]
    exact h.set { r with e := e } ow
  · simp (dsimp := false) (implicitDefEqProofs := false) (disch := first | omega | assumption | (simp only [rL, Nat.reduceAdd]; try omega)) only [↓rD, rU, ev, ofConst, ofCell, ↓reduceIte, Nat.reduceEqDiff, Nat.reduceAdd, Nat.reduceSub, Nat.reduceMul, Nat.reduceLeDiff, Nat.reduceLT, Int.reduceNeg, Int.reduceToNat, Int.reduceAdd, Int.reduceSub, Int.reduceMul, Int.reduceLT, Int.reduceLE, Int.reduceEq, rX, dg_cells, dg_fold, List.drop_succ_cons, ↓rF, rG, Hp.read_of g, c]
    refine ⟨_, Hp.sub_refl, ?_⟩
    rw [failF, if_neg c]; exact h
def takeR (r : Rd) (n : Nat) : Option (List UInt8) × Rd :=
  if r.e = 0 then (if r.b.length < n then (none, { r with e := 20 }) else (some (r.b.take n), { r with b := r.b.drop n })) else (none, r)
theorem rtake_spec2 (s0 s : Hp) (l : Nat) (r : Rd) (n : Nat) (hn : n ≤ 100000000) (h : RS s0 l r s) :
    AC Tryz.prog 89 [.ptr l 0, .v (.int .i64 n)] s fun x s' => RS s0 l (takeR r n).2 s' ∧
      (∃ ow, (ow = .nil → (takeR r n).1.getD [] = []) ∧ x = .tup [.sl (((takeR r n).1.getD []).map byteAV) ow, .v (.bool (takeR r n).1.isSome)]) := by
  obtain ⟨ow, g⟩ := h.cell
  refine AC_run hm prep89 (by simp) ?_
  by_cases c : r.e = 0
  · by_cases c2 : r.b.length < n
    · have c2' : (r.b.length : Int) < n := by omega
      have e : takeR r n = (none, { r with e := 20 }) := by rw [takeR, if_pos c, if_pos c2]
      rw [e]
      simp (dsimp := false) (implicitDefEqProofs := false) (disch := first | omega | assumption | (simp only [rL, Nat.reduceAdd]; try omega)) only [↓rD, rU, ev, ofConst, ofCell, ↓reduceIte, Nat.reduceEqDiff, Nat.reduceAdd, Nat.reduceSub, Nat.reduceMul, Nat.reduceLeDiff, Nat.reduceLT, Int.reduceNeg, Int.reduceToNat, Int.reduceAdd, Int.reduceSub, Int.reduceMul, Int.reduceLT, Int.reduceLE, Int.reduceEq, rX, dg_cells, dg_fold, List.drop_succ_cons, ↓rF, rG, ne_eq, not_true_eq_false, not_false_eq_true, Int.reduceNe, List.getElem?_cons_zero, List.getElem?_cons_succ, Hp.read_of g, c, c2']
      refine call_intro (fail_spec s0 s l r 20 h) ?_
      intro x s1 h1
      rw [failF, if_pos c] at h1
      obtain ⟨ow1, g1⟩ := h1.cell
      simp (dsimp := false) (implicitDefEqProofs := false) (disch := first | omega | assumption | (simp only [rL, Nat.reduceAdd]; try omega)) only [↓rD, rU, ev, ofConst, ofCell, ↓reduceIte, Nat.reduceEqDiff, Nat.reduceAdd, Nat.reduceSub, Nat.reduceMul, Nat.reduceLeDiff, Nat.reduceLT, Int.reduceNeg, Int.reduceToNat, Int.reduceAdd, Int.reduceSub, Int.reduceMul, Int.reduceLT, Int.reduceLE, Int.reduceEq, rX, dg_cells, dg_fold, List.drop_succ_cons, ↓rF, rG, ne_eq, not_true_eq_false, not_false_eq_true, Int.reduceNe, List.getElem?_cons_zero, List.getElem?_cons_succ, Hp.read_of g1]
      exact ⟨_, Hp.sub_refl, h1, .nil, fun _ => rfl, rfl⟩
    · have c2' : ¬ (r.b.length : Int) < n := by omega
      have e : takeR r n = (some (r.b.take n), { r with b := r.b.drop n }) := by rw [takeR, if_pos c, if_neg c2]
      rw [e]
      simp (dsimp := false) (implicitDefEqProofs := false) (disch := first | omega | assumption | (simp only [rL, Nat.reduceAdd]; try omega)) only [↓rD, rU, ev, ofConst, ofCell, ↓reduceIte, Nat.reduceEqDiff, Nat.reduceAdd, Nat.reduceSub, Nat.reduceMul, Nat.reduceLeDiff, Nat.reduceLT, Int.reduceNeg, Int.reduceToNat, Int.reduceAdd, Int.reduceSub, Int.reduceMul, Int.reduceLT, Int.reduceLE, Int.reduceEq, rX, dg_cells, dg_fold, List.drop_succ_cons, ↓rF, rG, ne_eq, not_true_eq_false, not_false_eq_true, Int.reduceNe, List.getElem?_cons_zero, List.getElem?_cons_succ, Hp.read_of g, Hp.stA_of g, c, c2', put_rd0]
      exact ⟨_, Hp.sub_refl, h.set ⟨r.b.drop n, 0⟩ .any, .any, (fun h => by cases h), rfl⟩
  · have e : takeR r n = (none, r) := by rw [takeR, if_neg c]
    rw [e]
    simp (dsimp := false) (implicitDefEqProofs := false) (disch := first | omega | assumption | (simp only [rL, Nat.reduceAdd]; try omega)) only [↓rD, rU, ev, ofConst, ofCell, ↓reduceIte, Nat.reduceEqDiff, Nat.reduceAdd, Nat.reduceSub, Nat.reduceMul, Nat.reduceLeDiff, Nat.reduceLT, Int.reduceNeg, Int.reduceToNat, Int.reduceAdd, Int.reduceSub, Int.reduceMul, Int.reduceLT, Int.reduceLE, Int.reduceEq, rX, dg_cells, dg_fold, List.drop_succ_cons, ↓rF, rG, ne_eq, not_true_eq_false, not_false_eq_true, Int.reduceNe, List.getElem?_cons_zero, List.getElem?_cons_succ, Hp.read_of g, c]
    exact ⟨_, Hp.sub_refl, h, .nil, fun _ => rfl, rfl⟩
theorem rtake_spec (s0 s : Hp) (l : Nat) (r : Rd) (n : Nat) (hn : n ≤ 100000000) (h : RS s0 l r s) :
    AC Tryz.prog 89 [.ptr l 0, .v (.int .i64 n)] s fun x s' => RS s0 l (takeR r n).2 s' ∧
      (∃ ow, x = .tup [.sl (((takeR r n).1.getD []).map byteAV) ow, .v (.bool (takeR r n).1.isSome)]) :=
  (rtake_spec2 s0 s l r n hn h).mono fun _ _ ⟨h1, ow, _, h2⟩ => ⟨h1, ow, h2⟩
def byteR (r : Rd) : UInt8 × Rd := ((takeR r 1).1.getD [] |>.headD 0, (takeR r 1).2)
theorem takeR_len {r : Rd} {n : Nat} {bs : List UInt8} (h : (takeR r n).1 = some bs) : bs.length = n := by
  unfold takeR at h
  split at h
  · split at h
    · cases h
    · simp only [Option.some.injEq] at h
      subst h; rw [List.length_take]; omega
  · cases h
theorem rbyte_spec (s0 s : Hp) (l : Nat) (r : Rd) (h : RS s0 l r s) :
    AC Tryz.prog 117 [.ptr l 0] s fun x s' => RS s0 l (byteR r).2 s' ∧ x = .v (.int .u8 (byteR r).1.toNat) := by
  refine AC_run hm prep117 (by simp) ?_
  simp (dsimp := false) (implicitDefEqProofs := false) (disch := first | omega | assumption | (simp only [rL, Nat.reduceAdd]; try omega)) only [↓rD, rU, ev, ofConst, ofCell, ↓reduceIte, Nat.reduceEqDiff, Nat.reduceAdd, Nat.reduceSub, Nat.reduceMul, Nat.reduceLeDiff, Nat.reduceLT, Int.reduceNeg, Int.reduceToNat, Int.reduceAdd, Int.reduceSub, Int.reduceMul, Int.reduceLT, Int.reduceLE, Int.reduceEq, rX, dg_cells, dg_fold, List.drop_succ_cons, ↓rF, rG, ne_eq, not_true_eq_false, not_false_eq_true, Int.reduceNe, List.getElem?_cons_zero, List.getElem?_cons_succ]
  refine call_intro (rtake_spec s0 s l r 1 (by omega) h) ?_
  rintro x s1 ⟨h1, ow, rfl⟩
  unfold byteR
  have hl := fun bs => takeR_len (r := r) (n := 1) (bs := bs)
  generalize takeR r 1 = t at *
  obtain ⟨bs, r1⟩ := t
  cases bs with
  | none =>
    simp only [Option.isSome_none, Option.getD_none] at *
    simp (dsimp := false) (implicitDefEqProofs := false) (disch := first | omega | assumption | (simp only [rL, Nat.reduceAdd]; try omega)) only [↓rD, rU, ev, ofConst, ofCell, ↓reduceIte, Nat.reduceEqDiff, Nat.reduceAdd, Nat.reduceSub, Nat.reduceMul, Nat.reduceLeDiff, Nat.reduceLT, Int.reduceNeg, Int.reduceToNat, Int.reduceAdd, Int.reduceSub, Int.reduceMul, Int.reduceLT, Int.reduceLE, Int.reduceEq, rX, dg_cells, dg_fold, List.drop_succ_cons, ↓rF, rG, ne_eq, not_true_eq_false, not_false_eq_true, Int.reduceNe, List.getElem?_cons_zero, List.getElem?_cons_succ]
    exact ⟨_, Hp.sub_refl, h1, rfl⟩
  | some bs =>
    simp only [Option.isSome_some, Option.getD_some] at *
    have hl := hl bs rfl
    match bs, hl with
    | [b], _ =>
      have e : elA 1 (some (byteAV b)) = some (.rptr [.v (.int .u8 b.toNat)]) := rfl
      simp (dsimp := false) (implicitDefEqProofs := false) (disch := first | omega | assumption | (simp only [rL, Nat.reduceAdd]; try omega)) only [iaSA_sl, e, ↓rD, rU, ev, ofConst, ofCell, ↓reduceIte, Nat.reduceEqDiff, Nat.reduceAdd, Nat.reduceSub, Nat.reduceMul, Nat.reduceLeDiff, Nat.reduceLT, Int.reduceNeg, Int.reduceToNat, Int.reduceAdd, Int.reduceSub, Int.reduceMul, Int.reduceLT, Int.reduceLE, Int.reduceEq, rX, dg_cells, dg_fold, List.drop_succ_cons, ↓rF, rG, ne_eq, not_true_eq_false, not_false_eq_true, Int.reduceNe, List.getElem?_cons_zero, List.getElem?_cons_succ, List.headD_cons]
      exact ⟨_, Hp.sub_refl, h1⟩
def beN (bs : List UInt8) : Nat := bs.foldl (fun u b => u * 256 + b.toNat) 0
def numR (r : Rd) : Int × Rd :=
  match (takeR r 8).1 with
  | none => (0, (takeR r 8).2)
  | some bs => ((BitVec.ofNat 64 (beN bs) ^^^ 9223372036854775808#64).toInt, (takeR r 8).2)
theorem beN_le : ∀ (bs : List UInt8) (u : Nat), bs.foldl (fun u b => u * 256 + b.toNat) u + 1 ≤ (u + 1) * 256 ^ bs.length
  | [], u => by simp
  | b :: bs, u => by
    have h := beN_le bs (u * 256 + b.toNat)
    have hb := b.toNat_lt
    rw [List.foldl_cons, List.length_cons, Nat.pow_succ]
    refine Nat.le_trans h ?_
    rw [Nat.mul_comm (256 ^ bs.length) 256, ← Nat.mul_assoc]
    exact Nat.mul_le_mul_right _ (by omega)
theorem beN_lt (bs : List UInt8) : beN bs < 256 ^ bs.length := by
  have := beN_le bs 0
  rw [beN]; omega
theorem beN_take (bs : List UInt8) (j : Nat) (h : j < bs.length) : beN (bs.take (j + 1)) = beN (bs.take j) * 256 + (bs.getD j 0).toNat := by
  rw [List.take_succ, List.getElem?_eq_getElem h, beN, List.foldl_append]
  simp [beN, List.getD, h]
theorem or_u64 (a b : Nat) (ha : a < 18446744073709551616) (hb : b < 18446744073709551616) : binV .or (.int .u64 a) (.int .u64 b) = some (.int .u64 ((a ||| b : Nat) : Int)) := by
  have h : binV .or (.int .u64 a) (.int .u64 b) = some (.int .u64 (IntKind.u64.wrap (BitVec.ofInt 64 (a : Int) ||| BitVec.ofInt 64 (b : Int)).toNat)) := rfl
  have hlt := (BitVec.ofInt 64 (a : Int) ||| BitVec.ofInt 64 (b : Int)).isLt
  rw [h, wrap_u64 (by omega) (by omega), BitVec.toNat_or, BitVec.ofInt_natCast, BitVec.ofInt_natCast, BitVec.toNat_ofNat, BitVec.toNat_ofNat, Nat.mod_eq_of_lt ha, Nat.mod_eq_of_lt hb]
theorem or_byte (u b : Nat) (hb : b < 256) : u * 256 ||| b = u * 256 + b := by
  have h := Nat.shiftLeft_add_eq_or_of_lt (i := 8) (b := b) (by omega) u
  rw [Nat.shiftLeft_eq] at h
  exact h.symm
theorem shl_u64_8 (a : Nat) (ha : a < 72057594037927936) : binV .shl (.int .u64 a) (.int .u64 8) = some (.int .u64 ((a * 256 : Nat) : Int)) := by
  have h : binV .shl (.int .u64 a) (.int .u64 8) = some (.int .u64 (IntKind.u64.wrap ((a : Int) * 2 ^ 8))) := rfl
  rw [h, wrap_u64 (by omega) (by omega)]
  simp
theorem xor_top (a : Nat) (ha : a < 18446744073709551616) : binV .xor (.int .u64 a) (.int .u64 9223372036854775808) = some (.int .u64 ((BitVec.ofNat 64 a ^^^ 9223372036854775808#64).toNat : Int)) := by
  have h : binV .xor (.int .u64 a) (.int .u64 9223372036854775808) = some (.int .u64 (IntKind.u64.wrap (BitVec.ofInt 64 (a : Int) ^^^ BitVec.ofInt 64 9223372036854775808).toNat)) := rfl
  have hlt := (BitVec.ofNat 64 a ^^^ 9223372036854775808#64).isLt
  have e : BitVec.ofInt 64 9223372036854775808 = 9223372036854775808#64 := by decide
  rw [h, BitVec.ofInt_natCast, e, wrap_u64 (by omega) (by omega)]
theorem wrap_i64_bv (x : BitVec 64) : IntKind.i64.wrap (x.toNat : Int) = x.toInt := by
  have e1 : ((2 : Int) ^ IntKind.i64.bits) = 18446744073709551616 := rfl
  have e2 : ((2 : Int) ^ (IntKind.i64.bits - 1)) = 9223372036854775808 := rfl
  have hlt := x.isLt
  simp only [IntKind.wrap, e1, e2, IntKind.signed, Bool.true_and, decide_eq_true_eq, BitVec.toInt_eq_toNat_cond]
  have : (x.toNat : Int) % 18446744073709551616 = x.toNat := by omega
  rw [this]
  split <;> split <;> omega
theorem rnum_spec (s0 s : Hp) (l : Nat) (r : Rd) (h : RS s0 l r s) :
    AC Tryz.prog 93 [.ptr l 0] s fun x s' => RS s0 l (numR r).2 s' ∧ x = .v (.int .i64 (numR r).1) := by
  refine AC_run hm prep93 (by simp) ?_
  simp (dsimp := false) (implicitDefEqProofs := false) (disch := first | omega | assumption | (simp only [rL, Nat.reduceAdd]; try omega)) only [↓rD, rU, ev, ofConst, ofCell, ↓reduceIte, Nat.reduceEqDiff, Nat.reduceAdd, Nat.reduceSub, Nat.reduceMul, Nat.reduceLeDiff, Nat.reduceLT, Int.reduceNeg, Int.reduceToNat, Int.reduceAdd, Int.reduceSub, Int.reduceMul, Int.reduceLT, Int.reduceLE, Int.reduceEq, rX, dg_cells, dg_fold, List.drop_succ_cons, ↓rF, rG, ne_eq, not_true_eq_false, not_false_eq_true, Int.reduceNe, List.getElem?_cons_zero, List.getElem?_cons_succ]
  refine call_intro (rtake_spec s0 s l r 8 (by omega) h) ?_
  rintro x s1 ⟨h1, ow, rfl⟩
  unfold numR
  have hl := fun bs => takeR_len (r := r) (n := 8) (bs := bs)
  generalize takeR r 8 = t at *
  obtain ⟨bs, r1⟩ := t
  cases bs with
  | none =>
    simp only [Option.isSome_none, Option.getD_none] at *
    simp (dsimp := false) (implicitDefEqProofs := false) (disch := first | omega | assumption | (simp only [rL, Nat.reduceAdd]; try omega)) only [↓rD, rU, ev, ofConst, ofCell, ↓reduceIte, Nat.reduceEqDiff, Nat.reduceAdd, Nat.reduceSub, Nat.reduceMul, Nat.reduceLeDiff, Nat.reduceLT, Int.reduceNeg, Int.reduceToNat, Int.reduceAdd, Int.reduceSub, Int.reduceMul, Int.reduceLT, Int.reduceLE, Int.reduceEq, rX, dg_cells, dg_fold, List.drop_succ_cons, ↓rF, rG, ne_eq, not_true_eq_false, not_false_eq_true, Int.reduceNe, List.getElem?_cons_zero, List.getElem?_cons_succ]
    exact ⟨_, Hp.sub_refl, h1⟩
  | some bs =>
    simp only [Option.isSome_some, Option.getD_some] at *
    have hl := hl bs rfl
    simp (dsimp := false) (implicitDefEqProofs := false) (disch := first | omega | assumption | (simp only [rL, Nat.reduceAdd]; try omega)) only [↓rD, rU, ev, ofConst, ofCell, ↓reduceIte, Nat.reduceEqDiff, Nat.reduceAdd, Nat.reduceSub, Nat.reduceMul, Nat.reduceLeDiff, Nat.reduceLT, Int.reduceNeg, Int.reduceToNat, Int.reduceAdd, Int.reduceSub, Int.reduceMul, Int.reduceLT, Int.reduceLE, Int.reduceEq, rX, dg_cells, dg_fold, List.drop_succ_cons, ↓rF, rG, ne_eq, not_true_eq_false, not_false_eq_true, Int.reduceNe, List.getElem?_cons_zero, List.getElem?_cons_succ]
    refine loop_intro (fun f s' => ∃ j : Nat, j ≤ 8 ∧ s' = s1 ∧ f 15 = .sl (bs.map byteAV) ow ∧ f 16 = .v (.int .i64 bs.length) ∧ f 17 = .v (.int .i64 j) ∧ f 5 = .v (.int .u64 (beN (bs.take j))))
      (fun f _ => match f 17 with | .v (.int _ n) => (8 - n).toNat | _ => 0) ⟨0, by omega, rfl, ?_⟩ ?_
    · simp (dsimp := false) (implicitDefEqProofs := false) (disch := first | omega | assumption | (simp only [rL, Nat.reduceAdd]; try omega)) only [↓rD, rU, ev, ofConst, ofCell, ↓reduceIte, Nat.reduceEqDiff, Nat.reduceAdd, Nat.reduceSub, Nat.reduceMul, Nat.reduceLeDiff, Nat.reduceLT, Int.reduceNeg, Int.reduceToNat, Int.reduceAdd, Int.reduceSub, Int.reduceMul, Int.reduceLT, Int.reduceLE, Int.reduceEq, rX, dg_cells, dg_fold, List.drop_succ_cons, ↓rF, rG, ne_eq, not_true_eq_false, not_false_eq_true, Int.reduceNe, List.getElem?_cons_zero, List.getElem?_cons_succ, List.take_zero]
      rfl
    · rintro f sA ⟨j, hj, rfl, f15, f16, f17, f5⟩
      have hb := beN_lt (bs.take j)
      rw [List.length_take] at hb
      by_cases hlt : (j : Int) < bs.length
      · have hj' : j < bs.length := by omega
        have hpow : beN (bs.take j) < 72057594037927936 := by
          refine Nat.lt_of_lt_of_le hb ?_
          refine Nat.le_trans (Nat.pow_le_pow_right (n := 256) (i := min j bs.length) (j := 7) (by omega) (by omega)) (by decide)
        have hel := getB (bs := bs) hj'
        have hbj := beN_take bs j hj'
        generalize hB : bs.getD j 0 = B at *
        have hBl := B.toNat_lt
        have hw : IntKind.u64.wrap (B.toNat : Int) = B.toNat := wrap_u64 (by omega) (by omega)
        generalize beN (bs.take j) = u at *
        have hor : binV .or (.int .u64 ((u * 256 : Nat) : Int)) (.int .u64 (B.toNat : Int)) = some (.int .u64 ((u * 256 + B.toNat : Nat) : Int)) := by
          rw [or_u64 _ _ (by omega) (by omega), or_byte _ _ (by omega)]
        have hel' : elA 1 (bs.map byteAV)[j]? = some (.rptr [.v (.int .u8 B.toNat)]) := by rw [hel]; rfl
        simp (dsimp := false) (implicitDefEqProofs := false) (disch := first | omega | assumption | (simp only [rL, Nat.reduceAdd]; try omega)) only [f15, f16, f17, f5, hlt, ↓rD, rU, ev, ofConst, ofCell, ↓reduceIte, Nat.reduceEqDiff, Nat.reduceAdd, Nat.reduceSub, Nat.reduceMul, Nat.reduceLeDiff, Nat.reduceLT, Int.reduceNeg, Int.reduceToNat, Int.reduceAdd, Int.reduceSub, Int.reduceMul, Int.reduceLT, Int.reduceLE, Int.reduceEq, rX, dg_cells, dg_fold, List.drop_succ_cons, ↓rF, rG, ne_eq, not_true_eq_false, not_false_eq_true, Int.reduceNe, List.getElem?_cons_zero, List.getElem?_cons_succ, iaSA_sl, hel', shl_u64_8, hw, hor]
        refine ⟨⟨j + 1, by omega, by simp, ?_⟩, by omega⟩
        rw [hbj]
      · obtain rfl : j = 8 := by omega
        have e8 : bs.take 8 = bs := List.take_of_length_le (by omega)
        rw [e8] at f5 hb
        have hb' : beN bs < 18446744073709551616 := by
          refine Nat.lt_of_lt_of_le hb ?_
          rw [hl]; decide
        simp (dsimp := false) (implicitDefEqProofs := false) (disch := first | omega | assumption | (simp only [rL, Nat.reduceAdd]; try omega)) only [f15, f16, f17, f5, hlt, ↓rD, rU, ev, ofConst, ofCell, ↓reduceIte, Nat.reduceEqDiff, Nat.reduceAdd, Nat.reduceSub, Nat.reduceMul, Nat.reduceLeDiff, Nat.reduceLT, Int.reduceNeg, Int.reduceToNat, Int.reduceAdd, Int.reduceSub, Int.reduceMul, Int.reduceLT, Int.reduceLE, Int.reduceEq, rX, dg_cells, dg_fold, List.drop_succ_cons, ↓rF, rG, ne_eq, not_true_eq_false, not_false_eq_true, Int.reduceNe, List.getElem?_cons_zero, List.getElem?_cons_succ, xor_top, wrap_i64_bv]
        exact ⟨_, Hp.sub_refl, h1⟩
def digR (r : Rd) : List UInt8 × Rd := ((takeR r 32).1.getD zd, (takeR r 32).2)
theorem digR_length (r : Rd) : (digR r).1.length = 32 := by
  unfold digR
  have hl := fun bs => takeR_len (r := r) (n := 32) (bs := bs)
  cases h : (takeR r 32).1 with
  | none => rfl
  | some bs => exact hl bs h
theorem rdigest_spec (s0 s : Hp) (l : Nat) (r : Rd) (h : RS s0 l r s) :
    AC Tryz.prog 92 [.ptr l 0] s fun x s' => RS s0 l (digR r).2 s' ∧ x = dg (digR r).1 := by
  refine AC_run hm prep92 (by simp) ?_
  have hq := digR_length r
  simp (dsimp := false) (implicitDefEqProofs := false) (disch := first | omega | assumption | (simp only [rL, Nat.reduceAdd]; try omega)) only [↓rD, rU, ev, ofConst, ofCell, ↓reduceIte, Nat.reduceEqDiff, Nat.reduceAdd, Nat.reduceSub, Nat.reduceMul, Nat.reduceLeDiff, Nat.reduceLT, Int.reduceNeg, Int.reduceToNat, Int.reduceAdd, Int.reduceSub, Int.reduceMul, Int.reduceLT, Int.reduceLE, Int.reduceEq, rX, dg_cells, dg_fold, List.drop_succ_cons, ↓rF, rG, ne_eq, not_true_eq_false, not_false_eq_true, Int.reduceNe, List.getElem?_cons_zero, List.getElem?_cons_succ]
  refine newK_intro fun l2 n2 => ?_
  obtain ⟨d2, e2, h⟩ := h.new (ob := zc) n2
  simp (dsimp := false) (implicitDefEqProofs := false) (disch := first | omega | assumption | (simp only [rL, Nat.reduceAdd]; try omega)) only [↓rD, rU, ev, ofConst, ofCell, ↓reduceIte, Nat.reduceEqDiff, Nat.reduceAdd, Nat.reduceSub, Nat.reduceMul, Nat.reduceLeDiff, Nat.reduceLT, Int.reduceNeg, Int.reduceToNat, Int.reduceAdd, Int.reduceSub, Int.reduceMul, Int.reduceLT, Int.reduceLE, Int.reduceEq, rX, dg_cells, dg_fold, List.drop_succ_cons, ↓rF, rG, ne_eq, not_true_eq_false, not_false_eq_true, Int.reduceNe, List.getElem?_cons_zero, List.getElem?_cons_succ]
  refine newK_intro fun l3 n3 => ?_
  obtain ⟨d3, e3, h⟩ := h.new (ob := zc) n3
  obtain ⟨d32, e3⟩ := Hp.set_none e3
  simp (dsimp := false) (implicitDefEqProofs := false) (disch := first | omega | assumption | (simp only [rL, Nat.reduceAdd]; try omega)) only [↓rD, rU, ev, ofConst, ofCell, ↓reduceIte, Nat.reduceEqDiff, Nat.reduceAdd, Nat.reduceSub, Nat.reduceMul, Nat.reduceLeDiff, Nat.reduceLT, Int.reduceNeg, Int.reduceToNat, Int.reduceAdd, Int.reduceSub, Int.reduceMul, Int.reduceLT, Int.reduceLE, Int.reduceEq, rX, dg_cells, dg_fold, List.drop_succ_cons, ↓rF, rG, ne_eq, not_true_eq_false, not_false_eq_true, Int.reduceNe, List.getElem?_cons_zero, List.getElem?_cons_succ]
  refine call_intro (rtake_spec _ _ l r 32 (by omega) h) ?_
  rintro x s1 ⟨h1, ow, rfl⟩
  have g2 := h1.get d2 (by rw [Hp.set_ne _ _ (Ne.symm d32)]; exact Hp.set_same _ _ _)
  have g3 := h1.get d3 (Hp.set_same _ _ _)
  have hfin : ∀ (x y : Ob), RS s0 l (takeR r 32).2 ((s1.set l3 x).set l2 y) := fun x y => by
    have := (h1.other (ob := x) d3).other (ob := y) d2
    rw [Hp.set_set] at this
    refine this.base ?_
    rw [Hp.set_set_comm _ d32, Hp.set_set]
    exact Hp.sub_new (Hp.sub_new Hp.sub_refl e2) e3
  unfold digR at hq ⊢
  have hl := fun bs => takeR_len (r := r) (n := 32) (bs := bs)
  generalize takeR r 32 = t at *
  obtain ⟨bs, r1⟩ := t
  unfold zc at g2 g3
  have hz : (List.replicate 32 (AV.v (Value.int IntKind.u8 0))).length = 32 := rfl
  cases bs with
  | none =>
    simp only [Option.isSome_none, Option.getD_none] at *
    simp (dsimp := false) (implicitDefEqProofs := false) (disch := first | omega | assumption | (simp only [rL, Nat.reduceAdd]; try omega)) only [↓rD, rU, ev, ofConst, ofCell, ↓reduceIte, Nat.reduceEqDiff, Nat.reduceAdd, Nat.reduceSub, Nat.reduceMul, Nat.reduceLeDiff, Nat.reduceLT, Int.reduceNeg, Int.reduceToNat, Int.reduceAdd, Int.reduceSub, Int.reduceMul, Int.reduceLT, Int.reduceLE, Int.reduceEq, rX, dg_cells, dg_fold, List.drop_succ_cons, ↓rF, rG, ne_eq, not_true_eq_false, not_false_eq_true, Int.reduceNe, List.getElem?_cons_zero, List.getElem?_cons_succ, Hp.read_of g3, Hp.stA_of g3, slcMA_all (Hp.read_of g3)]
    refine cpy_intro ?_ g3 ?_ ?_
    · simp [allLen]
    · simp
    have e : putAt (List.replicate 32 (AV.v (Value.int IntKind.u8 0))) 0 (flat (List.take 32 [])) = zd.map byteAV := rfl
    rw [e]
    simp (dsimp := false) (implicitDefEqProofs := false) (disch := first | omega | assumption | (simp only [rL, Nat.reduceAdd]; try omega)) only [↓rD, rU, ev, ofConst, ofCell, ↓reduceIte, Nat.reduceEqDiff, Nat.reduceAdd, Nat.reduceSub, Nat.reduceMul, Nat.reduceLeDiff, Nat.reduceLT, Int.reduceNeg, Int.reduceToNat, Int.reduceAdd, Int.reduceSub, Int.reduceMul, Int.reduceLT, Int.reduceLE, Int.reduceEq, rX, dg_cells, dg_fold, List.drop_succ_cons, ↓rF, rG, ne_eq, not_true_eq_false, not_false_eq_true, Int.reduceNe, List.getElem?_cons_zero, List.getElem?_cons_succ, hq, d32, Ne.symm d32, Hp.read_of g2, Hp.stA_of g2]
    exact ⟨_, Hp.sub_refl, hfin _ _⟩
  | some bs =>
    simp only [Option.isSome_some, Option.getD_some] at *
    have hl := hl bs rfl
    simp (dsimp := false) (implicitDefEqProofs := false) (disch := first | omega | assumption | (simp only [rL, Nat.reduceAdd]; try omega)) only [↓rD, rU, ev, ofConst, ofCell, ↓reduceIte, Nat.reduceEqDiff, Nat.reduceAdd, Nat.reduceSub, Nat.reduceMul, Nat.reduceLeDiff, Nat.reduceLT, Int.reduceNeg, Int.reduceToNat, Int.reduceAdd, Int.reduceSub, Int.reduceMul, Int.reduceLT, Int.reduceLE, Int.reduceEq, rX, dg_cells, dg_fold, List.drop_succ_cons, ↓rF, rG, ne_eq, not_true_eq_false, not_false_eq_true, Int.reduceNe, List.getElem?_cons_zero, List.getElem?_cons_succ, Hp.read_of g3, Hp.stA_of g3, slcMA_all (Hp.read_of g3)]
    refine cpy_intro ?_ g3 ?_ ?_
    · rw [allLen_bytes]; trivial
    · simp
    have e : putAt (List.replicate 32 (AV.v (Value.int IntKind.u8 0))) 0 (flat (List.take 32 (List.map byteAV bs))) = bs.map byteAV := by
      rw [List.take_of_length_le (by simp [hl]), flat_bytes, putAt_all (by simp [hl])]
    rw [e]
    simp (dsimp := false) (implicitDefEqProofs := false) (disch := first | omega | assumption | (simp only [rL, Nat.reduceAdd]; try omega)) only [↓rD, rU, ev, ofConst, ofCell, ↓reduceIte, Nat.reduceEqDiff, Nat.reduceAdd, Nat.reduceSub, Nat.reduceMul, Nat.reduceLeDiff, Nat.reduceLT, Int.reduceNeg, Int.reduceToNat, Int.reduceAdd, Int.reduceSub, Int.reduceMul, Int.reduceLT, Int.reduceLE, Int.reduceEq, rX, dg_cells, dg_fold, List.drop_succ_cons, ↓rF, rG, ne_eq, not_true_eq_false, not_false_eq_true, Int.reduceNe, List.getElem?_cons_zero, List.getElem?_cons_succ, hl, d32, Ne.symm d32, Hp.read_of g2, Hp.stA_of g2]
    exact ⟨_, Hp.sub_refl, hfin _ _⟩
def endR (r : Rd) : Rd := if 0 < r.b.length then failF r 22 else r
theorem rend_spec (s0 s : Hp) (l : Nat) (r : Rd) (h : RS s0 l r s) :
    AC Tryz.prog 54 [.ptr l 0] s fun x s' => RS s0 l (endR r) s' ∧ x = .v (.int .i64 (endR r).e) := by
  obtain ⟨ow, g⟩ := h.cell
  refine AC_run hm prep54 (by simp) ?_
  unfold endR
  by_cases c : 0 < r.b.length
  · have c' : (0 : Int) < r.b.length := by omega
    simp (dsimp := false) (implicitDefEqProofs := false) (disch := first | omega | assumption | (simp only [rL, Nat.reduceAdd]; try omega)) only [↓rD, rU, ev, ofConst, ofCell, ↓reduceIte, Nat.reduceEqDiff, Nat.reduceAdd, Nat.reduceSub, Nat.reduceMul, Nat.reduceLeDiff, Nat.reduceLT, Int.reduceNeg, Int.reduceToNat, Int.reduceAdd, Int.reduceSub, Int.reduceMul, Int.reduceLT, Int.reduceLE, Int.reduceEq, rX, dg_cells, dg_fold, List.drop_succ_cons, ↓rF, rG, ne_eq, not_true_eq_false, not_false_eq_true, Int.reduceNe, List.getElem?_cons_zero, List.getElem?_cons_succ, Hp.read_of g, c']
    refine call_intro (fail_spec s0 s l r 22 h) ?_
    intro x s2 h2
    obtain ⟨ow2, g2⟩ := h2.cell
    rw [if_pos c]
    simp (dsimp := false) (implicitDefEqProofs := false) (disch := first | omega | assumption | (simp only [rL, Nat.reduceAdd]; try omega)) only [↓rD, rU, ev, ofConst, ofCell, ↓reduceIte, Nat.reduceEqDiff, Nat.reduceAdd, Nat.reduceSub, Nat.reduceMul, Nat.reduceLeDiff, Nat.reduceLT, Int.reduceNeg, Int.reduceToNat, Int.reduceAdd, Int.reduceSub, Int.reduceMul, Int.reduceLT, Int.reduceLE, Int.reduceEq, rX, dg_cells, dg_fold, List.drop_succ_cons, ↓rF, rG, ne_eq, not_true_eq_false, not_false_eq_true, Int.reduceNe, List.getElem?_cons_zero, List.getElem?_cons_succ, Hp.read_of g2]
    exact ⟨_, Hp.sub_refl, h2⟩
  · have c' : ¬ (0 : Int) < r.b.length := by omega
    rw [if_neg c]
    simp (dsimp := false) (implicitDefEqProofs := false) (disch := first | omega | assumption | (simp only [rL, Nat.reduceAdd]; try omega)) only [↓rD, rU, ev, ofConst, ofCell, ↓reduceIte, Nat.reduceEqDiff, Nat.reduceAdd, Nat.reduceSub, Nat.reduceMul, Nat.reduceLeDiff, Nat.reduceLT, Int.reduceNeg, Int.reduceToNat, Int.reduceAdd, Int.reduceSub, Int.reduceMul, Int.reduceLT, Int.reduceLE, Int.reduceEq, rX, dg_cells, dg_fold, List.drop_succ_cons, ↓rF, rG, ne_eq, not_true_eq_false, not_false_eq_true, Int.reduceNe, List.getElem?_cons_zero, List.getElem?_cons_succ, Hp.read_of g, c']
    exact ⟨_, Hp.sub_refl, h⟩
end Go.Proofs.YtnnjjmiahcnbaaaGreat
/-
  codec.Writer: Count, Text, Row, Err.
-/
set_option maxRecDepth 100000
namespace Go.Proofs.YtnnjjmiahcnbaaaGreat
open Go Go.Av
def countB (n : Nat) : List UInt8 := [UInt8.ofNat (n >>> 16), UInt8.ofNat (n >>> 8), UInt8.ofNat n]
def textB (t : List UInt8) : List UInt8 := countB t.length ++ t
def rowB (r : List Int) : List UInt8 := UInt8.ofNat r.length :: r.flatMap numB
theorem countB_length (n : Nat) : (countB n).length = 3 := rfl
theorem textB_length (t : List UInt8) : (textB t).length = 3 + t.length := by simp [textB, countB]; omega
theorem flatMap_numB_length (r : List Int) : (r.flatMap numB).length = 8 * r.length := by
  induction r with
  | nil => rfl
  | cons a r ih => rw [List.flatMap_cons, List.length_append, ih, numB_length, List.length_cons]; omega
theorem rowB_length (r : List Int) : (rowB r).length = 1 + 8 * r.length := by
  rw [rowB, List.length_cons, flatMap_numB_length]; omega
theorem shr_i64 (n k : Nat) (hk : k ≤ 64) : binV .shr (.int .i64 (n : Int)) (.int .u64 (k : Int)) = some (.int .i64 ((n >>> k : Nat) : Int)) := by
  have e : binV .shr (.int .i64 (n : Int)) (.int .u64 (k : Int)) = some (.int .i64 ((n : Int).fdiv (2 ^ k))) := by
    have hm : min k IntKind.i64.bits = k := Nat.min_eq_left hk
    simp [binV, isShift, shiftInt, hm]
  rw [e, Nat.shiftRight_eq_div_pow]
  congr 2
  rw [show ((2 : Int) ^ k) = ((2 ^ k : Nat) : Int) by simp]
  exact (Int.ofNat_fdiv _ _).symm
theorem wcount_spec (s0 s : Hp) (l : Nat) (bs : List UInt8) (n : Nat) (hn : n ≤ 1048576) (h : WS s0 l bs s) (hl : bs.length ≤ 1000000000000) :
    AC Tryz.prog 86 [.ptr l 0, .v (.int .i64 n)] s fun _ s' => WS s0 l (bs ++ countB n) s' := by
  refine AC_run hm prep86 (by simp) ?_
  have h16 : binV .shr (.int .i64 (n : Int)) (.int .u64 16) = some (.int .i64 ((n >>> 16 : Nat) : Int)) := shr_i64 n 16 (by omega)
  have h8 : binV .shr (.int .i64 (n : Int)) (.int .u64 8) = some (.int .i64 ((n >>> 8 : Nat) : Int)) := shr_i64 n 8 (by omega)
  have c1 : (0 : Int) ≤ n := by omega
  have c2 : (n : Int) ≤ 1048576 := by omega
  simp (dsimp := false) (implicitDefEqProofs := false) (disch := first | omega | assumption | (simp only [rL, Nat.reduceAdd]; try omega)) only [↓rD, rU, ev, ofConst, ofCell, ↓reduceIte, Nat.reduceEqDiff, Nat.reduceAdd, Nat.reduceSub, Nat.reduceMul, Nat.reduceLeDiff, Nat.reduceLT, Int.reduceNeg, Int.reduceToNat, Int.reduceAdd, Int.reduceSub, Int.reduceMul, Int.reduceLT, Int.reduceLE, Int.reduceEq, rX, List.drop_succ_cons, ↓rF, rG, ne_eq, not_true_eq_false, not_false_eq_true, Int.reduceNe, List.getElem?_cons_zero, List.getElem?_cons_succ, ↓rK, rM, h16, h8, wrap_u8_nat, c1, c2]
  refine bsl_own Hp.sub_refl (by simp [allLen, AV.cells]) fun o1 s1 h1 => ?_
  simp (dsimp := false) (implicitDefEqProofs := false) (disch := first | omega | assumption | (simp only [rL, Nat.reduceAdd]; try omega)) only [↓rD, rU, ev, ofConst, ofCell, ↓reduceIte, Nat.reduceEqDiff, Nat.reduceAdd, Nat.reduceSub, Nat.reduceMul, Nat.reduceLeDiff, Nat.reduceLT, Int.reduceNeg, Int.reduceToNat, Int.reduceAdd, Int.reduceSub, Int.reduceMul, Int.reduceLT, Int.reduceLE, Int.reduceEq, rX, List.drop_succ_cons, ↓rF, rG, ne_eq, not_true_eq_false, not_false_eq_true, Int.reduceNe, List.getElem?_cons_zero, List.getElem?_cons_succ, ↓rK, rM, h16, h8, wrap_u8_nat, c1, c2]
  refine call_intro (put_spec s0 s1 l bs (countB n) o1 (h.mono h1.sub) (by rw [countB_length]; omega)) ?_
  intro r s2 h2
  simp (dsimp := false) (implicitDefEqProofs := false) (disch := first | omega | assumption | (simp only [rL, Nat.reduceAdd]; try omega)) only [↓rD, rU, ev, ofConst, ofCell, ↓reduceIte, Nat.reduceEqDiff, Nat.reduceAdd, Nat.reduceSub, Nat.reduceMul, Nat.reduceLeDiff, Nat.reduceLT, Int.reduceNeg, Int.reduceToNat, Int.reduceAdd, Int.reduceSub, Int.reduceMul, Int.reduceLT, Int.reduceLE, Int.reduceEq, rX, List.drop_succ_cons, ↓rF, rG, ne_eq, not_true_eq_false, not_false_eq_true, Int.reduceNe, List.getElem?_cons_zero, List.getElem?_cons_succ, ↓rK, rM]
  exact ⟨s2, Hp.sub_refl, h2⟩
theorem wtext_spec (s0 s : Hp) (l : Nat) (bs t : List UInt8) (o : Own) (ht : t.length ≤ 1048576) (h : WS s0 l bs s) (hl : bs.length ≤ 1000000000000) :
    AC Tryz.prog 103 [.ptr l 0, .sl (t.map byteAV) o] s fun _ s' => WS s0 l (bs ++ textB t) s' := by
  refine AC_run hm prep103 (by simp) ?_
  have c2 : ¬ (1048576 : Int) < t.length := by omega
  simp (dsimp := false) (implicitDefEqProofs := false) (disch := first | omega | assumption | (simp only [rL, Nat.reduceAdd]; try omega)) only [↓rD, rU, ev, ofConst, ofCell, ↓reduceIte, Nat.reduceEqDiff, Nat.reduceAdd, Nat.reduceSub, Nat.reduceMul, Nat.reduceLeDiff, Nat.reduceLT, Int.reduceNeg, Int.reduceToNat, Int.reduceAdd, Int.reduceSub, Int.reduceMul, Int.reduceLT, Int.reduceLE, Int.reduceEq, rX, List.drop_succ_cons, ↓rF, rG, ne_eq, not_true_eq_false, not_false_eq_true, Int.reduceNe, List.getElem?_cons_zero, List.getElem?_cons_succ, ↓rK, rM, c2]
  refine call_intro (wcount_spec s0 s l bs t.length ht h hl) ?_
  intro r s1 h1
  simp (dsimp := false) (implicitDefEqProofs := false) (disch := first | omega | assumption | (simp only [rL, Nat.reduceAdd]; try omega)) only [↓rD, rU, ev, ofConst, ofCell, ↓reduceIte, Nat.reduceEqDiff, Nat.reduceAdd, Nat.reduceSub, Nat.reduceMul, Nat.reduceLeDiff, Nat.reduceLT, Int.reduceNeg, Int.reduceToNat, Int.reduceAdd, Int.reduceSub, Int.reduceMul, Int.reduceLT, Int.reduceLE, Int.reduceEq, rX, List.drop_succ_cons, ↓rF, rG, ne_eq, not_true_eq_false, not_false_eq_true, Int.reduceNe, List.getElem?_cons_zero, List.getElem?_cons_succ, ↓rK, rM]
  refine call_intro (put_spec s0 s1 l _ t o h1 (by rw [List.length_append, countB_length]; omega)) ?_
  intro r s2 h2
  simp (dsimp := false) (implicitDefEqProofs := false) (disch := first | omega | assumption | (simp only [rL, Nat.reduceAdd]; try omega)) only [↓rD, rU, ev, ofConst, ofCell, ↓reduceIte, Nat.reduceEqDiff, Nat.reduceAdd, Nat.reduceSub, Nat.reduceMul, Nat.reduceLeDiff, Nat.reduceLT, Int.reduceNeg, Int.reduceToNat, Int.reduceAdd, Int.reduceSub, Int.reduceMul, Int.reduceLT, Int.reduceLE, Int.reduceEq, rX, List.drop_succ_cons, ↓rF, rG, ne_eq, not_true_eq_false, not_false_eq_true, Int.reduceNe, List.getElem?_cons_zero, List.getElem?_cons_succ, ↓rK, rM]
  refine ⟨s2, Hp.sub_refl, ?_⟩
  rw [textB, ← List.append_assoc]; exact h2
def rowV (r : List Int) : List AV := r.map fun n => .v (.int .i64 n)
theorem rowV_get {r : List Int} {i : Nat} (h : i < r.length) : (rowV r)[i]? = some (.v (.int .i64 (r.getD i 0))) := by simp [rowV, h, List.getD]
theorem rowV_length {r : List Int} : (rowV r).length = r.length := by simp [rowV]
theorem wrow_spec (s0 s : Hp) (l : Nat) (bs : List UInt8) (row : List Int) (o : Own) (hr : row.length ≤ 255) (h : WS s0 l bs s) (hl : bs.length ≤ 1000000000000) :
    AC Tryz.prog 116 [.ptr l 0, .sl (rowV row) o] s fun _ s' => WS s0 l (bs ++ rowB row) s' := by
  refine AC_run hm prep116 (by simp) ?_
  have c2 : ¬ (255 : Int) < row.length := by omega
  have hv := rowV_length (r := row)
  simp (dsimp := false) (implicitDefEqProofs := false) (disch := first | omega | assumption | (simp only [rL, Nat.reduceAdd]; try omega)) only [↓rD, rU, ev, ofConst, ofCell, ↓reduceIte, Nat.reduceEqDiff, Nat.reduceAdd, Nat.reduceSub, Nat.reduceMul, Nat.reduceLeDiff, Nat.reduceLT, Int.reduceNeg, Int.reduceToNat, Int.reduceAdd, Int.reduceSub, Int.reduceMul, Int.reduceLT, Int.reduceLE, Int.reduceEq, rX, List.drop_succ_cons, ↓rF, rG, ne_eq, not_true_eq_false, not_false_eq_true, Int.reduceNe, List.getElem?_cons_zero, List.getElem?_cons_succ, ↓rK, rM, hv, c2, wrap_u8_nat]
  refine call_intro (wbyte_spec s0 s l bs _ h (by omega)) ?_
  intro r s1 h1
  simp (dsimp := false) (implicitDefEqProofs := false) (disch := first | omega | assumption | (simp only [rL, Nat.reduceAdd]; try omega)) only [↓rD, rU, ev, ofConst, ofCell, ↓reduceIte, Nat.reduceEqDiff, Nat.reduceAdd, Nat.reduceSub, Nat.reduceMul, Nat.reduceLeDiff, Nat.reduceLT, Int.reduceNeg, Int.reduceToNat, Int.reduceAdd, Int.reduceSub, Int.reduceMul, Int.reduceLT, Int.reduceLE, Int.reduceEq, rX, List.drop_succ_cons, ↓rF, rG, ne_eq, not_true_eq_false, not_false_eq_true, Int.reduceNe, List.getElem?_cons_zero, List.getElem?_cons_succ, ↓rK, rM, hv]
  refine loop_intro (fun f s' => ∃ j : Nat, j ≤ row.length ∧ WS s0 l (bs ++ (UInt8.ofNat row.length :: (row.take j).flatMap numB)) s' ∧ f 0 = .ptr l 0 ∧ f 17 = .sl (rowV row) o ∧ f 18 = .v (.int .i64 row.length) ∧ f 19 = .v (.int .i64 j))
    (fun f _ => match f 19 with | .v (.int _ n) => (row.length - n).toNat | _ => 0) ⟨0, by omega, by simpa using h1, ?_⟩ ?_
  · simp (dsimp := false) (implicitDefEqProofs := false) (disch := first | omega | assumption | (simp only [rL, Nat.reduceAdd]; try omega)) only [↓rD, rU, ev, ofConst, ofCell, ↓reduceIte, Nat.reduceEqDiff, Nat.reduceAdd, Nat.reduceSub, Nat.reduceMul, Nat.reduceLeDiff, Nat.reduceLT, Int.reduceNeg, Int.reduceToNat, Int.reduceAdd, Int.reduceSub, Int.reduceMul, Int.reduceLT, Int.reduceLE, Int.reduceEq, rX, List.drop_succ_cons, ↓rF, rG, ne_eq, not_true_eq_false, not_false_eq_true, Int.reduceNe, List.getElem?_cons_zero, List.getElem?_cons_succ, ↓rK, rM]
  · rintro f s2 ⟨j, hj, hw, f0, f17, f18, f19⟩
    by_cases hlt : (j : Int) < row.length
    · have hj' : j < row.length := by omega
      have hel := rowV_get hj'
      simp (dsimp := false) (implicitDefEqProofs := false) (disch := first | omega | assumption | (simp only [rL, Nat.reduceAdd]; try omega)) only [↓rD, rU, ev, ofConst, ofCell, ↓reduceIte, Nat.reduceEqDiff, Nat.reduceAdd, Nat.reduceSub, Nat.reduceMul, Nat.reduceLeDiff, Nat.reduceLT, Int.reduceNeg, Int.reduceToNat, Int.reduceAdd, Int.reduceSub, Int.reduceMul, Int.reduceLT, Int.reduceLE, Int.reduceEq, rX, List.drop_succ_cons, ↓rF, rG, ne_eq, not_true_eq_false, not_false_eq_true, Int.reduceNe, List.getElem?_cons_zero, List.getElem?_cons_succ, ↓rK, rM, f0, f17, f18, f19, hlt, iaSA_sl, hel]
      refine call_intro (num_spec s0 s2 l _ _ hw ?_) ?_
      · have := flatMap_numB_length (row.take j)
        rw [List.length_append, List.length_cons, this, List.length_take]; omega
      intro r s3 h3
      simp (dsimp := false) (implicitDefEqProofs := false) (disch := first | omega | assumption | (simp only [rL, Nat.reduceAdd]; try omega)) only [↓rD, rU, ev, ofConst, ofCell, ↓reduceIte, Nat.reduceEqDiff, Nat.reduceAdd, Nat.reduceSub, Nat.reduceMul, Nat.reduceLeDiff, Nat.reduceLT, Int.reduceNeg, Int.reduceToNat, Int.reduceAdd, Int.reduceSub, Int.reduceMul, Int.reduceLT, Int.reduceLE, Int.reduceEq, rX, List.drop_succ_cons, ↓rF, rG, ne_eq, not_true_eq_false, not_false_eq_true, Int.reduceNe, List.getElem?_cons_zero, List.getElem?_cons_succ, ↓rK, rM, f0, f17, f18, f19]
      refine ⟨⟨j + 1, by omega, ?_, by simp⟩, by omega⟩
      have e : (row.take (j + 1)).flatMap numB = (row.take j).flatMap numB ++ numB (row.getD j 0) := by
        rw [List.take_succ, List.getElem?_eq_getElem hj', List.flatMap_append]
        simp [List.getD, hj']
      rw [e]
      simpa using h3
    · obtain rfl : j = row.length := by omega
      simp (dsimp := false) (implicitDefEqProofs := false) (disch := first | omega | assumption | (simp only [rL, Nat.reduceAdd]; try omega)) only [↓rD, rU, ev, ofConst, ofCell, ↓reduceIte, Nat.reduceEqDiff, Nat.reduceAdd, Nat.reduceSub, Nat.reduceMul, Nat.reduceLeDiff, Nat.reduceLT, Int.reduceNeg, Int.reduceToNat, Int.reduceAdd, Int.reduceSub, Int.reduceMul, Int.reduceLT, Int.reduceLE, Int.reduceEq, rX, List.drop_succ_cons, ↓rF, rG, ne_eq, not_true_eq_false, not_false_eq_true, Int.reduceNe, List.getElem?_cons_zero, List.getElem?_cons_succ, ↓rK, rM, f0, f17, f18, f19, hlt]
      refine ⟨s2, Hp.sub_refl, ?_⟩
      rw [List.take_length] at hw
      exact hw
theorem werr_spec (s0 s : Hp) (l : Nat) (bs : List UInt8) (h : WS s0 l bs s) :
    AC Tryz.prog 88 [.ptr l 0] s fun r s' => s' = s ∧ r = .v (.int .i64 0) := by
  obtain ⟨ow, g⟩ := h.cell
  refine AC_run hm prep88 (by simp) ?_
  have e : mkv false 1 ([AV.sl (bs.map byteAV) ow, .v (.int .i64 0)].drop 1) = .v (.int .i64 0) := rfl
  unfold WC at g
  simp (dsimp := false) (implicitDefEqProofs := false) (disch := first | omega | assumption | (simp only [rL, Nat.reduceAdd]; try omega)) only [↓rD, rU, ev, ofConst, ofCell, ↓reduceIte, Nat.reduceEqDiff, Nat.reduceAdd, Nat.reduceSub, Nat.reduceMul, Nat.reduceLeDiff, Nat.reduceLT, Int.reduceNeg, Int.reduceToNat, Int.reduceAdd, Int.reduceSub, Int.reduceMul, Int.reduceLT, Int.reduceLE, Int.reduceEq, rX, List.drop_succ_cons, ↓rF, rG, ne_eq, not_true_eq_false, not_false_eq_true, Int.reduceNe, List.getElem?_cons_zero, List.getElem?_cons_succ, ↓rK, rM, Hp.read_of g, e]
  exact ⟨s, Hp.sub_refl, rfl⟩
end Go.Proofs.YtnnjjmiahcnbaaaGreat
/-
  codec.Reader: Count, Text, Row, Err.
-/
set_option maxRecDepth 100000
namespace Go.Proofs.YtnnjjmiahcnbaaaGreat
open Go Go.Av
def countR (most : Nat) (r : Rd) : Nat × Rd :=
  match (takeR r 3).1 with
  | none => (0, (takeR r 3).2)
  | some bs => if min most 1048576 < beN bs then (0, failF (takeR r 3).2 10) else (beN bs, (takeR r 3).2)
def textR (most : Nat) (r : Rd) : List UInt8 × Rd := ((takeR (countR most r).2 (countR most r).1).1.getD [], (takeR (countR most r).2 (countR most r).1).2)
theorem or_i64 (a b : Nat) (ha : a < 4611686018427387904) (hb : b < 4611686018427387904) : binV .or (.int .i64 a) (.int .i64 b) = some (.int .i64 ((a ||| b : Nat) : Int)) := by
  have h : binV .or (.int .i64 a) (.int .i64 b) = some (.int .i64 (IntKind.i64.wrap (BitVec.ofInt 64 (a : Int) ||| BitVec.ofInt 64 (b : Int)).toNat)) := rfl
  have ho : a ||| b < 4611686018427387904 := Nat.or_lt_two_pow (n := 62) ha hb
  rw [h, BitVec.toNat_or, BitVec.ofInt_natCast, BitVec.ofInt_natCast, BitVec.toNat_ofNat, BitVec.toNat_ofNat, Nat.mod_eq_of_lt (by omega), Nat.mod_eq_of_lt (by omega), wrap_i64 (by omega) (by omega)]
theorem shl_i64 (b : UInt8) (k : Nat) (hk : k ≤ 16) : binV .shl (.int .i64 (b.toNat : Int)) (.int .u64 (k : Int)) = some (.int .i64 ((b.toNat * 2 ^ k : Nat) : Int)) := by
  have hb := b.toNat_lt
  have h : binV .shl (.int .i64 (b.toNat : Int)) (.int .u64 (k : Int)) = some (.int .i64 (IntKind.i64.wrap ((b.toNat : Int) * 2 ^ (min (k : Int).toNat 64)))) := by
    have h0 : ¬ (k : Int) < 0 := by omega
    simp only [binV, isShift, shiftInt, h0, if_false, if_true]; rfl
  have hm : min (k : Int).toNat 64 = k := by omega
  have hp : 2 ^ k ≤ 65536 := Nat.pow_le_pow_right (n := 2) (by omega) hk
  have hle : b.toNat * 2 ^ k ≤ 256 * 65536 := Nat.mul_le_mul (by omega) hp
  rw [h, hm, show ((b.toNat : Int) * 2 ^ k) = ((b.toNat * 2 ^ k : Nat) : Int) by simp, wrap_i64 (by omega) (by omega)]
theorem three_nat (a b c : UInt8) : a.toNat * 65536 ||| b.toNat * 256 ||| c.toNat = beN [a, b, c] := by
  have ha := a.toNat_lt; have hb := b.toNat_lt; have hc := c.toNat_lt
  have h1 : a.toNat * 65536 ||| b.toNat * 256 = a.toNat * 65536 + b.toNat * 256 := by
    have := Nat.shiftLeft_add_eq_or_of_lt (a := a.toNat) (i := 16) (b := b.toNat * 256) (by omega)
    rw [Nat.shiftLeft_eq] at this; exact this.symm
  have h2 : (a.toNat * 256 + b.toNat) * 256 ||| c.toNat = (a.toNat * 256 + b.toNat) * 256 + c.toNat := or_byte _ _ hc
  rw [h1, show a.toNat * 65536 + b.toNat * 256 = (a.toNat * 256 + b.toNat) * 256 by omega, h2]
  simp [beN]
theorem beN3_lt {bs : List UInt8} (h : bs.length = 3) : beN bs < 16777216 := by
  have := beN_lt bs; rw [h] at this; exact this
theorem rcount_spec (s0 s : Hp) (l : Nat) (most : Nat) (hm' : most ≤ 1048576) (r : Rd) (h : RS s0 l r s) :
    AC Tryz.prog 90 [.ptr l 0, .v (.int .i64 most)] s fun x s' => RS s0 l (countR most r).2 s' ∧ x = .v (.int .i64 (countR most r).1) := by
  refine AC_run hm prep90 (by simp) ?_
  simp (dsimp := false) (implicitDefEqProofs := false) (disch := first | omega | assumption | (simp only [rL, Nat.reduceAdd]; try omega)) only [↓rD, rU, ev, ofConst, ofCell, ↓reduceIte, Nat.reduceEqDiff, Nat.reduceAdd, Nat.reduceSub, Nat.reduceMul, Nat.reduceLeDiff, Nat.reduceLT, Int.reduceNeg, Int.reduceToNat, Int.reduceAdd, Int.reduceSub, Int.reduceMul, Int.reduceLT, Int.reduceLE, Int.reduceEq, rX, List.drop_succ_cons, ↓rF, rG, ne_eq, not_true_eq_false, not_false_eq_true, Int.reduceNe, List.getElem?_cons_zero, List.getElem?_cons_succ, ↓rK, rM]
  refine call_intro (rtake_spec s0 s l r 3 (by omega) h) ?_
  rintro x s1 ⟨h1, ow, rfl⟩
  unfold countR
  have hl := fun bs => takeR_len (r := r) (n := 3) (bs := bs)
  generalize takeR r 3 = t at *
  obtain ⟨bs, r1⟩ := t
  cases bs with
  | none =>
    simp only [Option.isSome_none, Option.getD_none] at *
    simp (dsimp := false) (implicitDefEqProofs := false) (disch := first | omega | assumption | (simp only [rL, Nat.reduceAdd]; try omega)) only [↓rD, rU, ev, ofConst, ofCell, ↓reduceIte, Nat.reduceEqDiff, Nat.reduceAdd, Nat.reduceSub, Nat.reduceMul, Nat.reduceLeDiff, Nat.reduceLT, Int.reduceNeg, Int.reduceToNat, Int.reduceAdd, Int.reduceSub, Int.reduceMul, Int.reduceLT, Int.reduceLE, Int.reduceEq, rX, List.drop_succ_cons, ↓rF, rG, ne_eq, not_true_eq_false, not_false_eq_true, Int.reduceNe, List.getElem?_cons_zero, List.getElem?_cons_succ, ↓rK, rM]
    exact ⟨_, Hp.sub_refl, h1⟩
  | some bs =>
    simp only [Option.isSome_some, Option.getD_some] at *
    have hl := hl bs rfl
    have hlt := beN3_lt hl
    match bs, hl with
    | [a, b, c], _ =>
      have ea : elA 1 (some (byteAV a)) = some (.rptr [.v (.int .u8 a.toNat)]) := rfl
      have eb : elA 1 (some (byteAV b)) = some (.rptr [.v (.int .u8 b.toNat)]) := rfl
      have ec : elA 1 (some (byteAV c)) = some (.rptr [.v (.int .u8 c.toNat)]) := rfl
      have ha := a.toNat_lt; have hb := b.toNat_lt; have hc := c.toNat_lt
      have wa : IntKind.i64.wrap (a.toNat : Int) = a.toNat := wrap_i64 (by omega) (by omega)
      have wb : IntKind.i64.wrap (b.toNat : Int) = b.toNat := wrap_i64 (by omega) (by omega)
      have wc : IntKind.i64.wrap (c.toNat : Int) = c.toNat := wrap_i64 (by omega) (by omega)
      have sa : binV .shl (.int .i64 (a.toNat : Int)) (.int .u64 16) = some (.int .i64 ((a.toNat * 65536 : Nat) : Int)) := shl_i64 a 16 (by omega)
      have sb : binV .shl (.int .i64 (b.toNat : Int)) (.int .u64 8) = some (.int .i64 ((b.toNat * 256 : Nat) : Int)) := shl_i64 b 8 (by omega)
      have o1 : binV .or (.int .i64 ((a.toNat * 65536 : Nat) : Int)) (.int .i64 ((b.toNat * 256 : Nat) : Int)) = some (.int .i64 ((a.toNat * 65536 ||| b.toNat * 256 : Nat) : Int)) := or_i64 _ _ (by omega) (by omega)
      have hor : a.toNat * 65536 ||| b.toNat * 256 < 16777216 := Nat.or_lt_two_pow (n := 24) (by omega) (by omega)
      have o2 : binV .or (.int .i64 ((a.toNat * 65536 ||| b.toNat * 256 : Nat) : Int)) (.int .i64 (c.toNat : Int)) = some (.int .i64 ((beN [a, b, c] : Nat) : Int)) := by
        rw [or_i64 _ _ (by omega) (by omega), three_nat]
      simp (dsimp := false) (implicitDefEqProofs := false) (disch := first | omega | assumption | (simp only [rL, Nat.reduceAdd]; try omega)) only [iaSA_sl, ea, eb, ec, ↓rD, rU, ev, ofConst, ofCell, ↓reduceIte, Nat.reduceEqDiff, Nat.reduceAdd, Nat.reduceSub, Nat.reduceMul, Nat.reduceLeDiff, Nat.reduceLT, Int.reduceNeg, Int.reduceToNat, Int.reduceAdd, Int.reduceSub, Int.reduceMul, Int.reduceLT, Int.reduceLE, Int.reduceEq, rX, List.drop_succ_cons, ↓rF, rG, ne_eq, not_true_eq_false, not_false_eq_true, Int.reduceNe, List.getElem?_cons_zero, List.getElem?_cons_succ, ↓rK, rM, wa, wb, wc, sa, sb, o1, o2]
      have em : min (most : Int) 1048576 = ((min most 1048576 : Nat) : Int) := by omega
      by_cases cc : min most 1048576 < beN [a, b, c]
      · have cc' : ((min most 1048576 : Nat) : Int) < (beN [a, b, c] : Int) := by omega
        simp (dsimp := false) (implicitDefEqProofs := false) (disch := first | omega | assumption | (simp only [rL, Nat.reduceAdd]; try omega)) only [↓rD, rU, ev, ofConst, ofCell, ↓reduceIte, Nat.reduceEqDiff, Nat.reduceAdd, Nat.reduceSub, Nat.reduceMul, Nat.reduceLeDiff, Nat.reduceLT, Int.reduceNeg, Int.reduceToNat, Int.reduceAdd, Int.reduceSub, Int.reduceMul, Int.reduceLT, Int.reduceLE, Int.reduceEq, rX, List.drop_succ_cons, ↓rF, rG, ne_eq, not_true_eq_false, not_false_eq_true, Int.reduceNe, List.getElem?_cons_zero, List.getElem?_cons_succ, ↓rK, rM, em, cc']
        refine call_intro (fail_spec s0 s1 l r1 10 h1) ?_
        intro x s2 h2
        simp (dsimp := false) (implicitDefEqProofs := false) (disch := first | omega | assumption | (simp only [rL, Nat.reduceAdd]; try omega)) only [↓rD, rU, ev, ofConst, ofCell, ↓reduceIte, Nat.reduceEqDiff, Nat.reduceAdd, Nat.reduceSub, Nat.reduceMul, Nat.reduceLeDiff, Nat.reduceLT, Int.reduceNeg, Int.reduceToNat, Int.reduceAdd, Int.reduceSub, Int.reduceMul, Int.reduceLT, Int.reduceLE, Int.reduceEq, rX, List.drop_succ_cons, ↓rF, rG, ne_eq, not_true_eq_false, not_false_eq_true, Int.reduceNe, List.getElem?_cons_zero, List.getElem?_cons_succ, ↓rK, rM]
        rw [if_pos cc]
        exact ⟨_, Hp.sub_refl, h2, rfl⟩
      · have cc' : ¬ ((min most 1048576 : Nat) : Int) < (beN [a, b, c] : Int) := by omega
        simp (dsimp := false) (implicitDefEqProofs := false) (disch := first | omega | assumption | (simp only [rL, Nat.reduceAdd]; try omega)) only [↓rD, rU, ev, ofConst, ofCell, ↓reduceIte, Nat.reduceEqDiff, Nat.reduceAdd, Nat.reduceSub, Nat.reduceMul, Nat.reduceLeDiff, Nat.reduceLT, Int.reduceNeg, Int.reduceToNat, Int.reduceAdd, Int.reduceSub, Int.reduceMul, Int.reduceLT, Int.reduceLE, Int.reduceEq, rX, List.drop_succ_cons, ↓rF, rG, ne_eq, not_true_eq_false, not_false_eq_true, Int.reduceNe, List.getElem?_cons_zero, List.getElem?_cons_succ, ↓rK, rM, em, cc']
        rw [if_neg cc]
        exact ⟨_, Hp.sub_refl, h1, rfl⟩
theorem countR_le (most : Nat) (r : Rd) : (countR most r).1 ≤ most ∧ (countR most r).1 ≤ 1048576 := by
  unfold countR
  split
  · simp
  · split
    · simp
    · simp only; omega
theorem rtext_spec (s0 s : Hp) (l : Nat) (most : Nat) (hm' : most ≤ 1048576) (r : Rd) (h : RS s0 l r s) :
    AC Tryz.prog 53 [.ptr l 0, .v (.int .i64 most)] s fun x s' => RS s0 l (textR most r).2 s' ∧ ∃ ow, (ow = .nil → (textR most r).1 = []) ∧ x = .sl ((textR most r).1.map byteAV) ow := by
  refine AC_run hm prep53 (by simp) ?_
  simp (dsimp := false) (implicitDefEqProofs := false) (disch := first | omega | assumption | (simp only [rL, Nat.reduceAdd]; try omega)) only [↓rD, rU, ev, ofConst, ofCell, ↓reduceIte, Nat.reduceEqDiff, Nat.reduceAdd, Nat.reduceSub, Nat.reduceMul, Nat.reduceLeDiff, Nat.reduceLT, Int.reduceNeg, Int.reduceToNat, Int.reduceAdd, Int.reduceSub, Int.reduceMul, Int.reduceLT, Int.reduceLE, Int.reduceEq, rX, List.drop_succ_cons, ↓rF, rG, ne_eq, not_true_eq_false, not_false_eq_true, Int.reduceNe, List.getElem?_cons_zero, List.getElem?_cons_succ, ↓rK, rM]
  refine call_intro (rcount_spec s0 s l most hm' r h) ?_
  rintro x s1 ⟨h1, rfl⟩
  have hc := countR_le most r
  simp (dsimp := false) (implicitDefEqProofs := false) (disch := first | omega | assumption | (simp only [rL, Nat.reduceAdd]; try omega)) only [↓rD, rU, ev, ofConst, ofCell, ↓reduceIte, Nat.reduceEqDiff, Nat.reduceAdd, Nat.reduceSub, Nat.reduceMul, Nat.reduceLeDiff, Nat.reduceLT, Int.reduceNeg, Int.reduceToNat, Int.reduceAdd, Int.reduceSub, Int.reduceMul, Int.reduceLT, Int.reduceLE, Int.reduceEq, rX, List.drop_succ_cons, ↓rF, rG, ne_eq, not_true_eq_false, not_false_eq_true, Int.reduceNe, List.getElem?_cons_zero, List.getElem?_cons_succ, ↓rK, rM]
  refine call_intro (rtake_spec2 s0 s1 l (countR most r).2 (countR most r).1 (by omega) h1) ?_
  rintro x s2 ⟨h2, ow, hn, rfl⟩
  simp (dsimp := false) (implicitDefEqProofs := false) (disch := first | omega | assumption | (simp only [rL, Nat.reduceAdd]; try omega)) only [↓rD, rU, ev, ofConst, ofCell, ↓reduceIte, Nat.reduceEqDiff, Nat.reduceAdd, Nat.reduceSub, Nat.reduceMul, Nat.reduceLeDiff, Nat.reduceLT, Int.reduceNeg, Int.reduceToNat, Int.reduceAdd, Int.reduceSub, Int.reduceMul, Int.reduceLT, Int.reduceLE, Int.reduceEq, rX, List.drop_succ_cons, ↓rF, rG, ne_eq, not_true_eq_false, not_false_eq_true, Int.reduceNe, List.getElem?_cons_zero, List.getElem?_cons_succ, ↓rK, rM]
  have hlen : ((takeR (countR most r).2 (countR most r).1).1.getD []).length ≤ 1048576 := by
    cases ht : (takeR (countR most r).2 (countR most r).1).1 with
    | none => simp
    | some bs => have := takeR_len ht; simp only [Option.getD_some]; omega
  refine call_intro (clone_spec _ ow s2 hn (by omega)) ?_
  rintro _ s3 ⟨o3, h3, rfl⟩
  simp (dsimp := false) (implicitDefEqProofs := false) (disch := first | omega | assumption | (simp only [rL, Nat.reduceAdd]; try omega)) only [↓rD, rU, ev, ofConst, ofCell, ↓reduceIte, Nat.reduceEqDiff, Nat.reduceAdd, Nat.reduceSub, Nat.reduceMul, Nat.reduceLeDiff, Nat.reduceLT, Int.reduceNeg, Int.reduceToNat, Int.reduceAdd, Int.reduceSub, Int.reduceMul, Int.reduceLT, Int.reduceLE, Int.reduceEq, rX, List.drop_succ_cons, ↓rF, rG, ne_eq, not_true_eq_false, not_false_eq_true, Int.reduceNe, List.getElem?_cons_zero, List.getElem?_cons_succ, ↓rK, rM]
  refine ⟨s3, Hp.sub_refl, h2.mono h3.sub, o3, ?_, rfl⟩
  rintro rfl
  have := h3.2
  simpa [textR] using this
theorem rerr_spec (s0 s : Hp) (l : Nat) (r : Rd) (h : RS s0 l r s) :
    AC Tryz.prog 95 [.ptr l 0] s fun x s' => s' = s ∧ x = .v (.int .i64 r.e) := by
  obtain ⟨ow, g⟩ := h.cell
  refine AC_run hm prep95 (by simp) ?_
  have e : mkv false 1 ([AV.sl (r.b.map byteAV) ow, .v (.int .i64 r.e)].drop 1) = .v (.int .i64 r.e) := rfl
  simp (dsimp := false) (implicitDefEqProofs := false) (disch := first | omega | assumption | (simp only [rL, Nat.reduceAdd]; try omega)) only [↓rD, rU, ev, ofConst, ofCell, ↓reduceIte, Nat.reduceEqDiff, Nat.reduceAdd, Nat.reduceSub, Nat.reduceMul, Nat.reduceLeDiff, Nat.reduceLT, Int.reduceNeg, Int.reduceToNat, Int.reduceAdd, Int.reduceSub, Int.reduceMul, Int.reduceLT, Int.reduceLE, Int.reduceEq, rX, List.drop_succ_cons, ↓rF, rG, ne_eq, not_true_eq_false, not_false_eq_true, Int.reduceNe, List.getElem?_cons_zero, List.getElem?_cons_succ, ↓rK, rM, Hp.read_of g, e]
  exact ⟨s, Hp.sub_refl, rfl⟩
def rowGo : Nat → Rd → List Int → List Int × Rd
  | 0, r, acc => (acc, r)
  | n + 1, r, acc => rowGo n (numR r).2 (if (numR r).2.e = 0 then acc ++ [(numR r).1] else acc)
def rowR (most : Nat) (r : Rd) : List Int × Rd :=
  let k := byteR r
  let g := rowGo k.1.toNat (if most < k.1.toNat then failF k.2 10 else k.2) []
  if g.2.e = 0 then g else ([], g.2)
theorem rowGo_len : ∀ (n : Nat) (r : Rd) (acc : List Int), (rowGo n r acc).1.length ≤ acc.length + n
  | 0, r, acc => by simp [rowGo]
  | n + 1, r, acc => by
    rw [rowGo]
    have := rowGo_len n (numR r).2 (if (numR r).2.e = 0 then acc ++ [(numR r).1] else acc)
    split at this
    · simp only [List.length_append, List.length_singleton] at this
      rw [if_pos (by assumption)]; omega
    · rw [if_neg (by assumption)]; omega
theorem rowR_len (most : Nat) (r : Rd) : (rowR most r).1.length ≤ 255 := by
  unfold rowR
  have h := rowGo_len (byteR r).1.toNat (if most < (byteR r).1.toNat then failF (byteR r).2 10 else (byteR r).2) []
  have hb := (byteR r).1.toNat_lt
  simp only
  generalize rowGo (byteR r).1.toNat (if most < (byteR r).1.toNat then failF (byteR r).2 10 else (byteR r).2) [] = g at *
  by_cases c : g.2.e = 0
  · rw [if_pos c]; simp only [List.length_nil] at h; omega
  · rw [if_neg c]; simp
theorem RS.full {s0 s : Hp} {l : Nat} {r : Rd} (h : RS s0 l r s) : RS (s.del l) l r s := by
  obtain ⟨ow, hc⟩ := h.cell
  refine ⟨ow, fun x o hx => ?_⟩
  by_cases e : x = l
  · subst e; rw [Hp.set_same] at hx; rw [hc]; exact hx
  · rw [Hp.set_ne _ _ e, Hp.del_ne _ e] at hx; exact hx
theorem RS.keep {s s' : Hp} {l : Nat} {r : Rd} (h : RS (s.del l) l r s') {x : Nat} {o : Ob} (hne : x ≠ l) (hx : s x = some o) : s' x = some o := h.get hne (by rw [Hp.del_ne _ hne]; exact hx)
theorem sub_del {s0 s : Hp} {l : Nat} {ob : Ob} (h : (s0.set l ob).sub s) (h0 : s0 l = none) : s0.sub (s.del l) := fun x o hx => by
  have hne : x ≠ l := by rintro rfl; rw [h0] at hx; cases hx
  rw [Hp.del_ne _ hne]; exact h x o (by rw [Hp.set_ne _ _ hne]; exact hx)
theorem RS.back {s0 s s' : Hp} {l : Nat} {r r' : Rd} (h : RS s0 l r s) (h0 : s0 l = none) (h' : RS (s.del l) l r' s') : RS s0 l r' s' := by
  obtain ⟨ow, h⟩ := h
  exact h'.base (sub_del h h0)
theorem RO.step {s0 s s' : Hp} {l k : Nat} {r r' : Rd} {ow : Own} {xs : List AV} {o : Own} (hO : Owned (s0.set l (RC r ow)) s k xs o) (h0 : s0 l = none) (h' : RS (s.del l) l r' s') : ∃ ow', Owned (s0.set l (RC r' ow')) s' k xs o := by
  obtain ⟨ow', h2⟩ := h'
  refine ⟨ow', ?_, ?_⟩
  · refine Hp.sub_trans ?_ h2
    exact Hp.sub_set (sub_del hO.sub h0)
  · have h3 := hO.2
    cases o with
    | buf g c =>
      have hne : g ≠ l := by rintro rfl; have := h3.1; rw [Hp.set_same] at this; cases this
      have h4 := h3.1
      rw [Hp.set_ne _ _ hne] at h4
      exact ⟨by rw [Hp.set_ne _ _ hne]; exact h4, h2 _ _ (by rw [Hp.set_ne _ _ hne, Hp.del_ne _ hne]; exact h3.2)⟩
    | _ => exact h3
theorem RO.rs {s0 s : Hp} {l k : Nat} {r : Rd} {ow : Own} {xs : List AV} {o : Own} (hO : Owned (s0.set l (RC r ow)) s k xs o) : RS s0 l r s := ⟨ow, hO.sub⟩
theorem rrow_spec (s0 s : Hp) (l : Nat) (most : Nat) (hm' : most ≤ 1048576) (r : Rd) (h0 : s0 l = none) (h : RS s0 l r s) :
    AC Tryz.prog 118 [.ptr l 0, .v (.int .i64 most)] s fun x s' => RS s0 l (rowR most r).2 s' ∧ ∃ ow, x = .sl (rowV (rowR most r).1) ow := by
  refine AC_run hm prep118 (by simp) ?_
  simp (dsimp := false) (implicitDefEqProofs := false) (disch := first | omega | assumption | (simp only [rL, Nat.reduceAdd]; try omega)) only [↓rD, rU, ev, ofConst, ofCell, ↓reduceIte, Nat.reduceEqDiff, Nat.reduceAdd, Nat.reduceSub, Nat.reduceMul, Nat.reduceLeDiff, Nat.reduceLT, Int.reduceNeg, Int.reduceToNat, Int.reduceAdd, Int.reduceSub, Int.reduceMul, Int.reduceLT, Int.reduceLE, Int.reduceEq, rX, List.drop_succ_cons, ↓rF, rG, ne_eq, not_true_eq_false, not_false_eq_true, Int.reduceNe, List.getElem?_cons_zero, List.getElem?_cons_succ, ↓rK, rM]
  refine call_intro (rbyte_spec s0 s l r h) ?_
  rintro x s1 ⟨h1, rfl⟩
  unfold rowR
  generalize byteR r = k at *
  obtain ⟨n, r1⟩ := k
  simp only at h1 ⊢
  have hn := n.toNat_lt
  have wn : IntKind.i64.wrap (n.toNat : Int) = n.toNat := wrap_i64 (by omega) (by omega)
  have hQ : ∃ r2, r2 = (if most < n.toNat then failF r1 10 else r1) := ⟨_, rfl⟩
  obtain ⟨r2, hr2⟩ := hQ
  rw [← hr2]
  simp (dsimp := false) (implicitDefEqProofs := false) (disch := first | omega | assumption | (simp only [rL, Nat.reduceAdd]; try omega)) only [↓rD, rU, ev, ofConst, ofCell, ↓reduceIte, Nat.reduceEqDiff, Nat.reduceAdd, Nat.reduceSub, Nat.reduceMul, Nat.reduceLeDiff, Nat.reduceLT, Int.reduceNeg, Int.reduceToNat, Int.reduceAdd, Int.reduceSub, Int.reduceMul, Int.reduceLT, Int.reduceLE, Int.reduceEq, rX, List.drop_succ_cons, ↓rF, rG, ne_eq, not_true_eq_false, not_false_eq_true, Int.reduceNe, List.getElem?_cons_zero, List.getElem?_cons_succ, ↓rK, rM, wn]
  refine cond_join (fun f s' => f 0 = .ptr l 0 ∧ f 5 = .v (.int .i64 n.toNat) ∧ RS s0 l r2 s') ?_ ?_ ?_
  · intro c
    have c' : most < n.toNat := by have := of_decide_eq_true c; omega
    rw [if_pos c'] at hr2
    simp (dsimp := false) (implicitDefEqProofs := false) (disch := first | omega | assumption | (simp only [rL, Nat.reduceAdd]; try omega)) only [↓rD, rU, ev, ofConst, ofCell, ↓reduceIte, Nat.reduceEqDiff, Nat.reduceAdd, Nat.reduceSub, Nat.reduceMul, Nat.reduceLeDiff, Nat.reduceLT, Int.reduceNeg, Int.reduceToNat, Int.reduceAdd, Int.reduceSub, Int.reduceMul, Int.reduceLT, Int.reduceLE, Int.reduceEq, rX, List.drop_succ_cons, ↓rF, rG, ne_eq, not_true_eq_false, not_false_eq_true, Int.reduceNe, List.getElem?_cons_zero, List.getElem?_cons_succ, ↓rK, rM]
    refine call_intro (fail_spec s0 s1 l r1 10 h1) ?_
    intro x s2 h2
    simp (dsimp := false) (implicitDefEqProofs := false) (disch := first | omega | assumption | (simp only [rL, Nat.reduceAdd]; try omega)) only [↓rD, rU, ev, ofConst, ofCell, ↓reduceIte, Nat.reduceEqDiff, Nat.reduceAdd, Nat.reduceSub, Nat.reduceMul, Nat.reduceLeDiff, Nat.reduceLT, Int.reduceNeg, Int.reduceToNat, Int.reduceAdd, Int.reduceSub, Int.reduceMul, Int.reduceLT, Int.reduceLE, Int.reduceEq, rX, List.drop_succ_cons, ↓rF, rG, ne_eq, not_true_eq_false, not_false_eq_true, Int.reduceNe, List.getElem?_cons_zero, List.getElem?_cons_succ, ↓rK, rM, wn]
    rw [hr2]; exact h2
  · intro c
    have c' : ¬ most < n.toNat := by have := of_decide_eq_false c; omega
    rw [if_neg c'] at hr2
    simp (dsimp := false) (implicitDefEqProofs := false) (disch := first | omega | assumption | (simp only [rL, Nat.reduceAdd]; try omega)) only [↓rD, rU, ev, ofConst, ofCell, ↓reduceIte, Nat.reduceEqDiff, Nat.reduceAdd, Nat.reduceSub, Nat.reduceMul, Nat.reduceLeDiff, Nat.reduceLT, Int.reduceNeg, Int.reduceToNat, Int.reduceAdd, Int.reduceSub, Int.reduceMul, Int.reduceLT, Int.reduceLE, Int.reduceEq, rX, List.drop_succ_cons, ↓rF, rG, ne_eq, not_true_eq_false, not_false_eq_true, Int.reduceNe, List.getElem?_cons_zero, List.getElem?_cons_succ, ↓rK, rM, wn]
    rw [hr2]; exact h1
  rintro f s2 ⟨f0, f5, h2⟩
  generalize n.toNat = N at *
  simp (dsimp := false) (implicitDefEqProofs := false) (disch := first | omega | assumption | (simp only [rL, Nat.reduceAdd]; try omega)) only [↓rD, rU, ev, ofConst, ofCell, ↓reduceIte, Nat.reduceEqDiff, Nat.reduceAdd, Nat.reduceSub, Nat.reduceMul, Nat.reduceLeDiff, Nat.reduceLT, Int.reduceNeg, Int.reduceToNat, Int.reduceAdd, Int.reduceSub, Int.reduceMul, Int.reduceLT, Int.reduceLE, Int.reduceEq, rX, List.drop_succ_cons, ↓rF, rG, ne_eq, not_true_eq_false, not_false_eq_true, Int.reduceNe, List.getElem?_cons_zero, List.getElem?_cons_succ, ↓rK, rM, f0, f5]
  refine loop_intro (fun f s' => ∃ (j : Nat) (r' : Rd) (acc : List Int) (o ow : Own), j ≤ N ∧ rowGo (N - j) r' acc = rowGo N r2 [] ∧ acc.length ≤ j ∧ Owned (s0.set l (RC r' ow)) s' 1 (rowV acc) o ∧ f 0 = .ptr l 0 ∧ f 6 = .sl (rowV acc) o ∧ f 16 = .v (.int .i64 N) ∧ f 17 = .v (.int .i64 j))
    (fun f _ => match f 17 with | .v (.int _ n) => (N - n).toNat | _ => 0) ?_ ?_
  · obtain ⟨ow, h2⟩ := h2
    refine ⟨0, r2, [], .nil, ow, by omega, rfl, by simp, Owned.nil h2, ?_⟩
    simp (dsimp := false) (implicitDefEqProofs := false) (disch := first | omega | assumption | (simp only [rL, Nat.reduceAdd]; try omega)) only [↓rD, rU, ev, ofConst, ofCell, ↓reduceIte, Nat.reduceEqDiff, Nat.reduceAdd, Nat.reduceSub, Nat.reduceMul, Nat.reduceLeDiff, Nat.reduceLT, Int.reduceNeg, Int.reduceToNat, Int.reduceAdd, Int.reduceSub, Int.reduceMul, Int.reduceLT, Int.reduceLE, Int.reduceEq, rX, List.drop_succ_cons, ↓rF, rG, ne_eq, not_true_eq_false, not_false_eq_true, Int.reduceNe, List.getElem?_cons_zero, List.getElem?_cons_succ, ↓rK, rM, f0, f5]
    rfl
  · rintro g s3 ⟨j, r', acc, o, ow, hj, he, hal, hO, g0, g6, g16, g17⟩
    by_cases hlt : (j : Int) < N
    · simp (dsimp := false) (implicitDefEqProofs := false) (disch := first | omega | assumption | (simp only [rL, Nat.reduceAdd]; try omega)) only [↓rD, rU, ev, ofConst, ofCell, ↓reduceIte, Nat.reduceEqDiff, Nat.reduceAdd, Nat.reduceSub, Nat.reduceMul, Nat.reduceLeDiff, Nat.reduceLT, Int.reduceNeg, Int.reduceToNat, Int.reduceAdd, Int.reduceSub, Int.reduceMul, Int.reduceLT, Int.reduceLE, Int.reduceEq, rX, List.drop_succ_cons, ↓rF, rG, ne_eq, not_true_eq_false, not_false_eq_true, Int.reduceNe, List.getElem?_cons_zero, List.getElem?_cons_succ, ↓rK, rM, g0, g6, g16, g17, hlt]
      refine call_intro (rnum_spec (s3.del l) s3 l r' (RO.rs hO).full) ?_
      rintro x s4 ⟨h4, rfl⟩
      have hstep : rowGo (N - j) r' acc = rowGo (N - (j + 1)) (numR r').2 (if (numR r').2.e = 0 then acc ++ [(numR r').1] else acc) := by
        rw [show N - j = (N - (j + 1)) + 1 by omega]; rfl
      rw [hstep] at he
      obtain ⟨ow4, hO4⟩ := RO.step hO h0 h4
      generalize numR r' = q at *
      obtain ⟨x, r4⟩ := q
      simp only at h4 hO4 he ⊢
      obtain ⟨ow5, g5⟩ := h4.cell
      have em : mkv false 1 ([AV.sl (r4.b.map byteAV) ow5, .v (.int .i64 r4.e)].drop 1) = .v (.int .i64 r4.e) := rfl
      by_cases c : r4.e = 0
      · rw [if_pos c] at he
        simp (dsimp := false) (implicitDefEqProofs := false) (disch := first | omega | assumption | (simp only [rL, Nat.reduceAdd]; try omega)) only [↓rD, rU, ev, ofConst, ofCell, ↓reduceIte, Nat.reduceEqDiff, Nat.reduceAdd, Nat.reduceSub, Nat.reduceMul, Nat.reduceLeDiff, Nat.reduceLT, Int.reduceNeg, Int.reduceToNat, Int.reduceAdd, Int.reduceSub, Int.reduceMul, Int.reduceLT, Int.reduceLE, Int.reduceEq, rX, List.drop_succ_cons, ↓rF, rG, ne_eq, not_true_eq_false, not_false_eq_true, Int.reduceNe, List.getElem?_cons_zero, List.getElem?_cons_succ, ↓rK, rM, g0, g6, g16, g17, Hp.read_of g5, em, c]
        refine bsl_own Hp.sub_refl (by simp [allLen, AV.cells]) fun o6 s6 h6 => ?_
        simp (dsimp := false) (implicitDefEqProofs := false) (disch := first | omega | assumption | (simp only [rL, Nat.reduceAdd]; try omega)) only [↓rD, rU, ev, ofConst, ofCell, ↓reduceIte, Nat.reduceEqDiff, Nat.reduceAdd, Nat.reduceSub, Nat.reduceMul, Nat.reduceLeDiff, Nat.reduceLT, Int.reduceNeg, Int.reduceToNat, Int.reduceAdd, Int.reduceSub, Int.reduceMul, Int.reduceLT, Int.reduceLE, Int.reduceEq, rX, List.drop_succ_cons, ↓rF, rG, ne_eq, not_true_eq_false, not_false_eq_true, Int.reduceNe, List.getElem?_cons_zero, List.getElem?_cons_succ, ↓rK, rM, g0, g6, g16, g17]
        refine app_own (hO4.mono h6.sub) (by simp [allLen, rowV, AV.cells]) (by simp [allLen, AV.cells]) (by simp [rowV_length]; omega) (by simp [rowV_length]; omega) fun o7 s7 h7 => ?_
        simp (dsimp := false) (implicitDefEqProofs := false) (disch := first | omega | assumption | (simp only [rL, Nat.reduceAdd]; try omega)) only [↓rD, rU, ev, ofConst, ofCell, ↓reduceIte, Nat.reduceEqDiff, Nat.reduceAdd, Nat.reduceSub, Nat.reduceMul, Nat.reduceLeDiff, Nat.reduceLT, Int.reduceNeg, Int.reduceToNat, Int.reduceAdd, Int.reduceSub, Int.reduceMul, Int.reduceLT, Int.reduceLE, Int.reduceEq, rX, List.drop_succ_cons, ↓rF, rG, ne_eq, not_true_eq_false, not_false_eq_true, Int.reduceNe, List.getElem?_cons_zero, List.getElem?_cons_succ, ↓rK, rM, g0, g6, g16, g17]
        have ea : rowV acc ++ [AV.v (.int .i64 x)] = rowV (acc ++ [x]) := by simp [rowV]
        rw [ea] at h7 ⊢
        exact ⟨⟨j + 1, r4, acc ++ [x], o7, ow4, by omega, he, by simp; omega, h7, rfl, by simp⟩, by omega⟩
      · rw [if_neg c] at he
        simp (dsimp := false) (implicitDefEqProofs := false) (disch := first | omega | assumption | (simp only [rL, Nat.reduceAdd]; try omega)) only [↓rD, rU, ev, ofConst, ofCell, ↓reduceIte, Nat.reduceEqDiff, Nat.reduceAdd, Nat.reduceSub, Nat.reduceMul, Nat.reduceLeDiff, Nat.reduceLT, Int.reduceNeg, Int.reduceToNat, Int.reduceAdd, Int.reduceSub, Int.reduceMul, Int.reduceLT, Int.reduceLE, Int.reduceEq, rX, List.drop_succ_cons, ↓rF, rG, ne_eq, not_true_eq_false, not_false_eq_true, Int.reduceNe, List.getElem?_cons_zero, List.getElem?_cons_succ, ↓rK, rM, g0, g6, g16, g17, Hp.read_of g5, em, c]
        exact ⟨⟨j + 1, r4, acc, o, ow4, by omega, he, by omega, hO4, rfl, by simp⟩, by omega⟩
    · obtain rfl : j = N := by omega
      rw [Nat.sub_self] at he
      have he' : rowGo j r2 [] = (acc, r') := by rw [← he]; rfl
      rw [he']
      obtain ⟨ow5, g5⟩ := (RO.rs hO).cell
      have em : mkv false 1 ([AV.sl (r'.b.map byteAV) ow5, .v (.int .i64 r'.e)].drop 1) = .v (.int .i64 r'.e) := rfl
      by_cases c : r'.e = 0
      · simp (dsimp := false) (implicitDefEqProofs := false) (disch := first | omega | assumption | (simp only [rL, Nat.reduceAdd]; try omega)) only [↓rD, rU, ev, ofConst, ofCell, ↓reduceIte, Nat.reduceEqDiff, Nat.reduceAdd, Nat.reduceSub, Nat.reduceMul, Nat.reduceLeDiff, Nat.reduceLT, Int.reduceNeg, Int.reduceToNat, Int.reduceAdd, Int.reduceSub, Int.reduceMul, Int.reduceLT, Int.reduceLE, Int.reduceEq, rX, List.drop_succ_cons, ↓rF, rG, ne_eq, not_true_eq_false, not_false_eq_true, Int.reduceNe, List.getElem?_cons_zero, List.getElem?_cons_succ, ↓rK, rM, g0, g6, g16, g17, hlt, Hp.read_of g5, em, c]
        exact ⟨_, Hp.sub_refl, RO.rs hO, o, rfl⟩
      · simp (dsimp := false) (implicitDefEqProofs := false) (disch := first | omega | assumption | (simp only [rL, Nat.reduceAdd]; try omega)) only [↓rD, rU, ev, ofConst, ofCell, ↓reduceIte, Nat.reduceEqDiff, Nat.reduceAdd, Nat.reduceSub, Nat.reduceMul, Nat.reduceLeDiff, Nat.reduceLT, Int.reduceNeg, Int.reduceToNat, Int.reduceAdd, Int.reduceSub, Int.reduceMul, Int.reduceLT, Int.reduceLE, Int.reduceEq, rX, List.drop_succ_cons, ↓rF, rG, ne_eq, not_true_eq_false, not_false_eq_true, Int.reduceNe, List.getElem?_cons_zero, List.getElem?_cons_succ, ↓rK, rM, g0, g6, g16, g17, hlt, Hp.read_of g5, em, c]
        exact ⟨_, Hp.sub_refl, RO.rs hO, .nil, rfl⟩
end Go.Proofs.YtnnjjmiahcnbaaaGreat
set_option maxRecDepth 100000
namespace Go.Proofs.YtnnjjmiahcnbaaaGreat
open Go Go.Av
theorem hm_3 : Tryz.prog.follows .mixedOrders = true := by kernel_rfl
def F139 : AFunc where
  ntmps := 19
  nparams := 2
  results := [(4, none)]
  code :=
(.seq
(.plain (
⟨(some 4), .mv (.const (.int .i64 0)), none⟩ ::
[]))
(.seq
(.seq
(.plain (
⟨(some 6), .mv (.tmp 0), none⟩ ::
⟨(some 7), .len (.tmp 6), none⟩ ::
⟨(some 8), .mv (.const (.int .i64 0)), none⟩ ::
[]))
(.block 0
(.loop
(.seq
(.plain (
⟨(some 9), .bin .lss (.tmp 8) (.tmp 7), none⟩ ::
[]))
(.seq
(.cond (.tmp 9)
.skip
(.exit 0))
(.seq
(.block 1
(.seq
(.plain (
⟨(some 10), .mv (.tmp 8), none⟩ ::
⟨(some 5), .mv (.tmp 10), none⟩ ::
[]))
(.seq
(.plain (
⟨(some 11), .mv (.tmp 1), none⟩ ::
⟨(some 12), .mv (.tmp 0), none⟩ ::
⟨(some 13), .mv (.tmp 5), none⟩ ::
⟨(some 14), .iaS 1 (.tmp 12) (.tmp 13), none⟩ ::
⟨(some 15), .load false 1 (.tmp 14), none⟩ ::
⟨(some 16), .bin .eql (.tmp 11) (.tmp 15), none⟩ ::
[]))
(.cond (.tmp 16)
(.seq
(.plain (
⟨(some 17), .mv (.tmp 5), none⟩ ::
⟨(some 4), .mv (.tmp 17), none⟩ ::
[]))
.ret)
.skip))))
(.plain (
⟨(some 18), .bin .add (.tmp 8) (.const (.int .i64 1)), none⟩ ::
⟨(some 8), .mv (.tmp 18), none⟩ ::
[]))))))))
(.seq
(.plain (
⟨(some 4), .mv (.const (.int .i64 (-1))), none⟩ ::
[]))
.ret)))
theorem prep139 : prepFunc Tryz.prog 0 139 = some F139 := by kernel_rfl
end Go.Proofs.YtnnjjmiahcnbaaaGreat
/-
  block.Head, Preimage, Sum, OpsSum.
-/
set_option maxRecDepth 100000
namespace Go.Proofs.YtnnjjmiahcnbaaaGreat
open Go Go.Av
structure Hd where
  prev : List UInt8
  num : Int
  ops : List UInt8
  tabs : List UInt8
  deriving DecidableEq
def Hd.ok (h : Hd) : Prop := h.prev.length = 32 ∧ h.ops.length = 32 ∧ h.tabs.length = 32
def hdC (p : List UInt8) (n : Int) (o t : List UInt8) : List AV := p.map byteAV ++ (.v (.int .i64 n) :: (o.map byteAV ++ t.map byteAV))
def Hd.C (h : Hd) : List AV := hdC h.prev h.num h.ops h.tabs
def Hd.V (h : Hd) : AV := .agg h.C
theorem Hd.cells {h : Hd} : h.V.cells = h.C := rfl
theorem Hd.lenC {h : Hd} (hh : h.ok) : h.C.length = 97 := by simp [Hd.C, hdC, hh.1, hh.2.1, hh.2.2]
theorem Hd.p32 {h : Hd} (hh : h.ok) : h.C.take 32 = h.prev.map byteAV := by
  rw [Hd.C, hdC, show (32 : Nat) = (h.prev.map byteAV).length by simp [hh.1], List.take_left]
theorem Hd.d32 {h : Hd} (hh : h.ok) : h.C.drop 32 = .v (.int .i64 h.num) :: (h.ops.map byteAV ++ h.tabs.map byteAV) := by
  rw [Hd.C, hdC, show (32 : Nat) = (h.prev.map byteAV).length by simp [hh.1], List.drop_left]
theorem Hd.n32 {h : Hd} (hh : h.ok) : mkv false 1 (h.C.drop 32) = .v (.int .i64 h.num) := by rw [Hd.d32 hh]; rfl
theorem Hd.o32 {h : Hd} (hh : h.ok) : (h.C.drop 33).take 32 = h.ops.map byteAV := by
  rw [show (33 : Nat) = 32 + 1 from rfl, ← List.drop_drop, Hd.d32 hh, List.drop_succ_cons, List.drop_zero, show (32 : Nat) = (h.ops.map byteAV).length by simp [hh.2.1], List.take_left]
theorem Hd.t32 {h : Hd} (hh : h.ok) : (h.C.drop 65).take 32 = h.tabs.map byteAV := by
  rw [show (65 : Nat) = 32 + (1 + 32) from rfl, ← List.drop_drop, Hd.d32 hh, ← List.drop_drop, List.drop_succ_cons, List.drop_zero, show (32 : Nat) = (h.ops.map byteAV).length by simp [hh.2.1], List.drop_left, List.take_of_length_le (by simp [hh.2.2, hh.2.1])]
theorem Hd.fold {h : Hd} (hh : h.ok) : (.agg (h.C.take 97) : AV) = h.V := by rw [List.take_of_length_le (by rw [Hd.lenC hh]; omega)]; rfl
theorem Hd.fold' {h : Hd} : (.agg h.C : AV) = h.V := rfl
def headB (h : Hd) : List UInt8 := h.prev ++ numB h.num ++ h.ops ++ h.tabs
theorem headB_length {h : Hd} (hh : h.ok) : (headB h).length = 104 := by simp [headB, numB_length, hh.1, hh.2.1, hh.2.2]
def Hd.may (h : Hd) : Bool := decide (0 ≤ h.num) && decide (h.num ≤ 1099511627776)
def hBytes (h : Hd) : List UInt8 := if h.may = true then headB h else []
def hErr (h : Hd) : Int := if h.may = true then 0 else 1
def bPre (h : Hd) : List UInt8 := if h.may = true then preB 66 [headB h] else []
def bSum (h : Hd) : List UInt8 := if h.may = true then sha256 (preB 66 [headB h]) else zd
theorem bSum_length (h : Hd) : (bSum h).length = 32 := by unfold bSum; split; exact sha256_length _; rfl
theorem bhead_spec (h : Hd) (hh : h.ok) (s : Hp) :
    AC Tryz.prog 65 [h.V] s fun r s' => s' = s ∧ ∃ o, r = .tup [.sl ((hBytes h).map byteAV) o, .v (.int .i64 (hErr h))] := by
  refine AC_run hm prep65 (by simp) ?_
  have hc := Hd.cells (h := h)
  have hl := Hd.lenC hh
  have hn := Hd.n32 hh
  simp (dsimp := false) (implicitDefEqProofs := false) (disch := first | omega | assumption | (simp only [rL, Nat.reduceAdd]; try omega)) only [↓rD, rU, ev, ofConst, ofCell, ↓reduceIte, Nat.reduceEqDiff, Nat.reduceAdd, Nat.reduceSub, Nat.reduceMul, Nat.reduceLeDiff, Nat.reduceLT, Int.reduceNeg, Int.reduceToNat, Int.reduceAdd, Int.reduceSub, Int.reduceMul, Int.reduceLT, Int.reduceLE, Int.reduceEq, rX, List.drop_succ_cons, ↓rF, rG, ne_eq, not_true_eq_false, not_false_eq_true, Int.reduceNe, List.getElem?_cons_zero, List.getElem?_cons_succ, ↓rK, rM, dg_cells, dg_fold, hc, hl]
  refine newK_intro fun l1 n1 => ?_
  have g1 : (s.set l1 (.cells h.C)) l1 = some (.cells h.C) := Hp.set_same _ _ _
  by_cases c1 : h.num < 0
  · have e1 : h.may = false := by simp [Hd.may]; omega
    simp (dsimp := false) (implicitDefEqProofs := false) (disch := first | omega | assumption | (simp only [rL, Nat.reduceAdd]; try omega)) only [↓rD, rU, ev, ofConst, ofCell, ↓reduceIte, Nat.reduceEqDiff, Nat.reduceAdd, Nat.reduceSub, Nat.reduceMul, Nat.reduceLeDiff, Nat.reduceLT, Int.reduceNeg, Int.reduceToNat, Int.reduceAdd, Int.reduceSub, Int.reduceMul, Int.reduceLT, Int.reduceLE, Int.reduceEq, rX, List.drop_succ_cons, ↓rF, rG, ne_eq, not_true_eq_false, not_false_eq_true, Int.reduceNe, List.getElem?_cons_zero, List.getElem?_cons_succ, ↓rK, rM, dg_cells, dg_fold, hc, hl, hn, c1]
    refine ⟨s, Hp.sub_new Hp.sub_refl n1, rfl, .nil, ?_⟩
    simp [hBytes, hErr, e1]
  by_cases c2 : (1099511627776 : Int) < h.num
  · have e1 : h.may = false := by simp [Hd.may]; omega
    simp (dsimp := false) (implicitDefEqProofs := false) (disch := first | omega | assumption | (simp only [rL, Nat.reduceAdd]; try omega)) only [↓rD, rU, ev, ofConst, ofCell, ↓reduceIte, Nat.reduceEqDiff, Nat.reduceAdd, Nat.reduceSub, Nat.reduceMul, Nat.reduceLeDiff, Nat.reduceLT, Int.reduceNeg, Int.reduceToNat, Int.reduceAdd, Int.reduceSub, Int.reduceMul, Int.reduceLT, Int.reduceLE, Int.reduceEq, rX, List.drop_succ_cons, ↓rF, rG, ne_eq, not_true_eq_false, not_false_eq_true, Int.reduceNe, List.getElem?_cons_zero, List.getElem?_cons_succ, ↓rK, rM, dg_cells, dg_fold, hc, hl, hn, c1, c2]
    refine ⟨s, Hp.sub_new Hp.sub_refl n1, rfl, .nil, ?_⟩
    simp [hBytes, hErr, e1]
  have e1 : h.may = true := by simp [Hd.may]; omega
  have hp := Hd.p32 hh
  have ho := Hd.o32 hh
  have ht := Hd.t32 hh
  simp (dsimp := false) (implicitDefEqProofs := false) (disch := first | omega | assumption | (simp only [rL, Nat.reduceAdd]; try omega)) only [↓rD, rU, ev, ofConst, ofCell, ↓reduceIte, Nat.reduceEqDiff, Nat.reduceAdd, Nat.reduceSub, Nat.reduceMul, Nat.reduceLeDiff, Nat.reduceLT, Int.reduceNeg, Int.reduceToNat, Int.reduceAdd, Int.reduceSub, Int.reduceMul, Int.reduceLT, Int.reduceLE, Int.reduceEq, rX, List.drop_succ_cons, ↓rF, rG, ne_eq, not_true_eq_false, not_false_eq_true, Int.reduceNe, List.getElem?_cons_zero, List.getElem?_cons_succ, ↓rK, rM, dg_cells, dg_fold, hc, hl, hn, c1, c2]
  refine newK_intro fun l2 n2 => ?_
  obtain ⟨d2, e2⟩ := Hp.set_none n2
  have hW : WS (s.set l1 (.cells h.C)) l2 [] ((s.set l1 (.cells h.C)).set l2 (.cells [.sl [] .nil, .v (.int .i64 0)])) := ⟨.nil, Owned.nil Hp.sub_refl⟩
  have k1 := hW.get (Ne.symm d2) g1
  simp (dsimp := false) (implicitDefEqProofs := false) (disch := first | omega | assumption | (simp only [rL, Nat.reduceAdd]; try omega)) only [↓rD, rU, ev, ofConst, ofCell, ↓reduceIte, Nat.reduceEqDiff, Nat.reduceAdd, Nat.reduceSub, Nat.reduceMul, Nat.reduceLeDiff, Nat.reduceLT, Int.reduceNeg, Int.reduceToNat, Int.reduceAdd, Int.reduceSub, Int.reduceMul, Int.reduceLT, Int.reduceLE, Int.reduceEq, rX, List.drop_succ_cons, ↓rF, rG, ne_eq, not_true_eq_false, not_false_eq_true, Int.reduceNe, List.getElem?_cons_zero, List.getElem?_cons_succ, ↓rK, rM, dg_cells, dg_fold, hc, Hp.read_of k1, hl, hp, dg_fold']
  refine call_intro (wdigest_spec _ _ l2 [] h.prev hh.1 hW (by simp)) ?_
  intro r s1 h1
  have k1 := h1.get (Ne.symm d2) g1
  simp (dsimp := false) (implicitDefEqProofs := false) (disch := first | omega | assumption | (simp only [rL, Nat.reduceAdd]; try omega)) only [↓rD, rU, ev, ofConst, ofCell, ↓reduceIte, Nat.reduceEqDiff, Nat.reduceAdd, Nat.reduceSub, Nat.reduceMul, Nat.reduceLeDiff, Nat.reduceLT, Int.reduceNeg, Int.reduceToNat, Int.reduceAdd, Int.reduceSub, Int.reduceMul, Int.reduceLT, Int.reduceLE, Int.reduceEq, rX, List.drop_succ_cons, ↓rF, rG, ne_eq, not_true_eq_false, not_false_eq_true, Int.reduceNe, List.getElem?_cons_zero, List.getElem?_cons_succ, ↓rK, rM, dg_cells, dg_fold, hc, Hp.read_of k1, hl, hn]
  refine call_intro (num_spec _ _ l2 _ h.num h1 (by simp [hh.1])) ?_
  intro r s3 h3
  have k1 := h3.get (Ne.symm d2) g1
  simp (dsimp := false) (implicitDefEqProofs := false) (disch := first | omega | assumption | (simp only [rL, Nat.reduceAdd]; try omega)) only [↓rD, rU, ev, ofConst, ofCell, ↓reduceIte, Nat.reduceEqDiff, Nat.reduceAdd, Nat.reduceSub, Nat.reduceMul, Nat.reduceLeDiff, Nat.reduceLT, Int.reduceNeg, Int.reduceToNat, Int.reduceAdd, Int.reduceSub, Int.reduceMul, Int.reduceLT, Int.reduceLE, Int.reduceEq, rX, List.drop_succ_cons, ↓rF, rG, ne_eq, not_true_eq_false, not_false_eq_true, Int.reduceNe, List.getElem?_cons_zero, List.getElem?_cons_succ, ↓rK, rM, dg_cells, dg_fold, hc, Hp.read_of k1, hl, ho, dg_fold']
  refine call_intro (wdigest_spec _ _ l2 _ h.ops hh.2.1 h3 (by simp [hh.1, numB_length])) ?_
  intro r s4 h4
  have k1 := h4.get (Ne.symm d2) g1
  simp (dsimp := false) (implicitDefEqProofs := false) (disch := first | omega | assumption | (simp only [rL, Nat.reduceAdd]; try omega)) only [↓rD, rU, ev, ofConst, ofCell, ↓reduceIte, Nat.reduceEqDiff, Nat.reduceAdd, Nat.reduceSub, Nat.reduceMul, Nat.reduceLeDiff, Nat.reduceLT, Int.reduceNeg, Int.reduceToNat, Int.reduceAdd, Int.reduceSub, Int.reduceMul, Int.reduceLT, Int.reduceLE, Int.reduceEq, rX, List.drop_succ_cons, ↓rF, rG, ne_eq, not_true_eq_false, not_false_eq_true, Int.reduceNe, List.getElem?_cons_zero, List.getElem?_cons_succ, ↓rK, rM, dg_cells, dg_fold, hc, Hp.read_of k1, hl, ht, dg_fold']
  refine call_intro (wdigest_spec _ _ l2 _ h.tabs hh.2.2 h4 (by simp [hh.1, numB_length, hh.2.1])) ?_
  intro r s5 h5
  simp (dsimp := false) (implicitDefEqProofs := false) (disch := first | omega | assumption | (simp only [rL, Nat.reduceAdd]; try omega)) only [↓rD, rU, ev, ofConst, ofCell, ↓reduceIte, Nat.reduceEqDiff, Nat.reduceAdd, Nat.reduceSub, Nat.reduceMul, Nat.reduceLeDiff, Nat.reduceLT, Int.reduceNeg, Int.reduceToNat, Int.reduceAdd, Int.reduceSub, Int.reduceMul, Int.reduceLT, Int.reduceLE, Int.reduceEq, rX, List.drop_succ_cons, ↓rF, rG, ne_eq, not_true_eq_false, not_false_eq_true, Int.reduceNe, List.getElem?_cons_zero, List.getElem?_cons_succ, ↓rK, rM, dg_cells, dg_fold]
  have eb : [] ++ h.prev ++ numB h.num ++ h.ops ++ h.tabs = headB h := by simp [headB]
  rw [eb] at h5
  refine call_intro (wbytes_spec _ s5 l2 _ h5 (by rw [headB_length hh]; omega)) ?_
  rintro _ s6 ⟨o6, h6, rfl⟩
  simp (dsimp := false) (implicitDefEqProofs := false) (disch := first | omega | assumption | (simp only [rL, Nat.reduceAdd]; try omega)) only [↓rD, rU, ev, ofConst, ofCell, ↓reduceIte, Nat.reduceEqDiff, Nat.reduceAdd, Nat.reduceSub, Nat.reduceMul, Nat.reduceLeDiff, Nat.reduceLT, Int.reduceNeg, Int.reduceToNat, Int.reduceAdd, Int.reduceSub, Int.reduceMul, Int.reduceLT, Int.reduceLE, Int.reduceEq, rX, List.drop_succ_cons, ↓rF, rG, ne_eq, not_true_eq_false, not_false_eq_true, Int.reduceNe, List.getElem?_cons_zero, List.getElem?_cons_succ, ↓rK, rM, dg_cells, dg_fold]
  refine call_intro (werr_spec _ s6 l2 _ (h5.mono h6.sub)) ?_
  rintro _ s6 ⟨rfl, rfl⟩
  simp (dsimp := false) (implicitDefEqProofs := false) (disch := first | omega | assumption | (simp only [rL, Nat.reduceAdd]; try omega)) only [↓rD, rU, ev, ofConst, ofCell, ↓reduceIte, Nat.reduceEqDiff, Nat.reduceAdd, Nat.reduceSub, Nat.reduceMul, Nat.reduceLeDiff, Nat.reduceLT, Int.reduceNeg, Int.reduceToNat, Int.reduceAdd, Int.reduceSub, Int.reduceMul, Int.reduceLT, Int.reduceLE, Int.reduceEq, rX, List.drop_succ_cons, ↓rF, rG, ne_eq, not_true_eq_false, not_false_eq_true, Int.reduceNe, List.getElem?_cons_zero, List.getElem?_cons_succ, ↓rK, rM, dg_cells, dg_fold]
  have hs5 := h5.sub n2
  refine ⟨s, Hp.sub_trans (Hp.sub_trans (Hp.sub_new Hp.sub_refl n1) hs5) h6.sub, rfl, o6, ?_⟩
  simp [hBytes, hErr, e1]
theorem preB_pos (t : UInt8) (ts : List (List UInt8)) : 0 < (preB t ts).length := by simp [preB]
theorem bpre_spec (h : Hd) (hh : h.ok) (s : Hp) :
    AC Tryz.prog 33 [h.V] s fun r s' => s' = s ∧ ∃ o, (o = .nil → bPre h = []) ∧ r = .sl ((bPre h).map byteAV) o := by
  refine AC_run hm prep33 (by simp) ?_
  have hc := Hd.cells (h := h)
  have hl := Hd.lenC hh
  have hf := Hd.fold hh
  simp (dsimp := false) (implicitDefEqProofs := false) (disch := first | omega | assumption | (simp only [rL, Nat.reduceAdd]; try omega)) only [↓rD, rU, ev, ofConst, ofCell, ↓reduceIte, Nat.reduceEqDiff, Nat.reduceAdd, Nat.reduceSub, Nat.reduceMul, Nat.reduceLeDiff, Nat.reduceLT, Int.reduceNeg, Int.reduceToNat, Int.reduceAdd, Int.reduceSub, Int.reduceMul, Int.reduceLT, Int.reduceLE, Int.reduceEq, rX, List.drop_succ_cons, ↓rF, rG, ne_eq, not_true_eq_false, not_false_eq_true, Int.reduceNe, List.getElem?_cons_zero, List.getElem?_cons_succ, ↓rK, rM, dg_cells, dg_fold, hc, hl]
  refine newK_intro fun l1 n1 => ?_
  simp (dsimp := false) (implicitDefEqProofs := false) (disch := first | omega | assumption | (simp only [rL, Nat.reduceAdd]; try omega)) only [↓rD, rU, ev, ofConst, ofCell, ↓reduceIte, Nat.reduceEqDiff, Nat.reduceAdd, Nat.reduceSub, Nat.reduceMul, Nat.reduceLeDiff, Nat.reduceLT, Int.reduceNeg, Int.reduceToNat, Int.reduceAdd, Int.reduceSub, Int.reduceMul, Int.reduceLT, Int.reduceLE, Int.reduceEq, rX, List.drop_succ_cons, ↓rF, rG, ne_eq, not_true_eq_false, not_false_eq_true, Int.reduceNe, List.getElem?_cons_zero, List.getElem?_cons_succ, ↓rK, rM, dg_cells, dg_fold, hc, hl, hf]
  refine call_intro (bhead_spec h hh _) ?_
  rintro _ s1 ⟨rfl, o1, rfl⟩
  by_cases c : h.may = true
  · have e1 : hErr h = 0 := by simp [hErr, c]
    have e2 : hBytes h = headB h := by simp [hBytes, c]
    simp (dsimp := false) (implicitDefEqProofs := false) (disch := first | omega | assumption | (simp only [rL, Nat.reduceAdd]; try omega)) only [↓rD, rU, ev, ofConst, ofCell, ↓reduceIte, Nat.reduceEqDiff, Nat.reduceAdd, Nat.reduceSub, Nat.reduceMul, Nat.reduceLeDiff, Nat.reduceLT, Int.reduceNeg, Int.reduceToNat, Int.reduceAdd, Int.reduceSub, Int.reduceMul, Int.reduceLT, Int.reduceLE, Int.reduceEq, rX, List.drop_succ_cons, ↓rF, rG, ne_eq, not_true_eq_false, not_false_eq_true, Int.reduceNe, List.getElem?_cons_zero, List.getElem?_cons_succ, ↓rK, rM, dg_cells, dg_fold, e1, e2]
    refine bsl_own Hp.sub_refl (by simp [allLen, AV.cells]) fun o2 s2 h2 => ?_
    simp (dsimp := false) (implicitDefEqProofs := false) (disch := first | omega | assumption | (simp only [rL, Nat.reduceAdd]; try omega)) only [↓rD, rU, ev, ofConst, ofCell, ↓reduceIte, Nat.reduceEqDiff, Nat.reduceAdd, Nat.reduceSub, Nat.reduceMul, Nat.reduceLeDiff, Nat.reduceLT, Int.reduceNeg, Int.reduceToNat, Int.reduceAdd, Int.reduceSub, Int.reduceMul, Int.reduceLT, Int.reduceLE, Int.reduceEq, rX, List.drop_succ_cons, ↓rF, rG, ne_eq, not_true_eq_false, not_false_eq_true, Int.reduceNe, List.getElem?_cons_zero, List.getElem?_cons_succ, ↓rK, rM, dg_cells, dg_fold]
    have hlen : (preB 66 [headB h]).length ≤ 1000 := by simp [preB, chunk, eightB, headB_length hh]
    refine call_intro (pre_spec 66 [(headB h, o1)] o2 (by simp only [List.map_cons, List.map_nil]; omega) s2) ?_
    rintro _ s3 ⟨o3, h3, rfl⟩
    simp (dsimp := false) (implicitDefEqProofs := false) (disch := first | omega | assumption | (simp only [rL, Nat.reduceAdd]; try omega)) only [↓rD, rU, ev, ofConst, ofCell, ↓reduceIte, Nat.reduceEqDiff, Nat.reduceAdd, Nat.reduceSub, Nat.reduceMul, Nat.reduceLeDiff, Nat.reduceLT, Int.reduceNeg, Int.reduceToNat, Int.reduceAdd, Int.reduceSub, Int.reduceMul, Int.reduceLT, Int.reduceLE, Int.reduceEq, rX, List.drop_succ_cons, ↓rF, rG, ne_eq, not_true_eq_false, not_false_eq_true, Int.reduceNe, List.getElem?_cons_zero, List.getElem?_cons_succ, ↓rK, rM, dg_cells, dg_fold]
    refine ⟨s, Hp.sub_trans (Hp.sub_trans (Hp.sub_new Hp.sub_refl n1) h2.sub) h3.sub, rfl, o3, ?_, by simp [bPre, c]⟩
    rintro rfl
    have := h3.2
    have hp := preB_pos 66 [headB h]
    simp at this
    rw [this] at hp; simp at hp
  · have e1 : hErr h = 1 := by simp [hErr, c]
    simp (dsimp := false) (implicitDefEqProofs := false) (disch := first | omega | assumption | (simp only [rL, Nat.reduceAdd]; try omega)) only [↓rD, rU, ev, ofConst, ofCell, ↓reduceIte, Nat.reduceEqDiff, Nat.reduceAdd, Nat.reduceSub, Nat.reduceMul, Nat.reduceLeDiff, Nat.reduceLT, Int.reduceNeg, Int.reduceToNat, Int.reduceAdd, Int.reduceSub, Int.reduceMul, Int.reduceLT, Int.reduceLE, Int.reduceEq, rX, List.drop_succ_cons, ↓rF, rG, ne_eq, not_true_eq_false, not_false_eq_true, Int.reduceNe, List.getElem?_cons_zero, List.getElem?_cons_succ, ↓rK, rM, dg_cells, dg_fold, e1]
    refine ⟨s, Hp.sub_new Hp.sub_refl n1, rfl, .nil, ?_⟩
    simp [bPre, c]
theorem bsum_spec (h : Hd) (hh : h.ok) (s : Hp) :
    AC Tryz.prog 49 [h.V] s fun r s' => s' = s ∧ r = dg (bSum h) := by
  refine AC_run hm prep49 (by simp) ?_
  have hc := Hd.cells (h := h)
  have hl := Hd.lenC hh
  have hf := Hd.fold hh
  simp (dsimp := false) (implicitDefEqProofs := false) (disch := first | omega | assumption | (simp only [rL, Nat.reduceAdd]; try omega)) only [↓rD, rU, ev, ofConst, ofCell, ↓reduceIte, Nat.reduceEqDiff, Nat.reduceAdd, Nat.reduceSub, Nat.reduceMul, Nat.reduceLeDiff, Nat.reduceLT, Int.reduceNeg, Int.reduceToNat, Int.reduceAdd, Int.reduceSub, Int.reduceMul, Int.reduceLT, Int.reduceLE, Int.reduceEq, rX, List.drop_succ_cons, ↓rF, rG, ne_eq, not_true_eq_false, not_false_eq_true, Int.reduceNe, List.getElem?_cons_zero, List.getElem?_cons_succ, ↓rK, rM, dg_cells, dg_fold, hc, hl]
  refine newK_intro fun l1 n1 => ?_
  simp (dsimp := false) (implicitDefEqProofs := false) (disch := first | omega | assumption | (simp only [rL, Nat.reduceAdd]; try omega)) only [↓rD, rU, ev, ofConst, ofCell, ↓reduceIte, Nat.reduceEqDiff, Nat.reduceAdd, Nat.reduceSub, Nat.reduceMul, Nat.reduceLeDiff, Nat.reduceLT, Int.reduceNeg, Int.reduceToNat, Int.reduceAdd, Int.reduceSub, Int.reduceMul, Int.reduceLT, Int.reduceLE, Int.reduceEq, rX, List.drop_succ_cons, ↓rF, rG, ne_eq, not_true_eq_false, not_false_eq_true, Int.reduceNe, List.getElem?_cons_zero, List.getElem?_cons_succ, ↓rK, rM, dg_cells, dg_fold, hc, hl, hf]
  refine newK_intro fun l2 n2 => ?_
  obtain ⟨d2, e2⟩ := Hp.set_none n2
  simp (dsimp := false) (implicitDefEqProofs := false) (disch := first | omega | assumption | (simp only [rL, Nat.reduceAdd]; try omega)) only [↓rD, rU, ev, ofConst, ofCell, ↓reduceIte, Nat.reduceEqDiff, Nat.reduceAdd, Nat.reduceSub, Nat.reduceMul, Nat.reduceLeDiff, Nat.reduceLT, Int.reduceNeg, Int.reduceToNat, Int.reduceAdd, Int.reduceSub, Int.reduceMul, Int.reduceLT, Int.reduceLE, Int.reduceEq, rX, List.drop_succ_cons, ↓rF, rG, ne_eq, not_true_eq_false, not_false_eq_true, Int.reduceNe, List.getElem?_cons_zero, List.getElem?_cons_succ, ↓rK, rM, dg_cells, dg_fold, hc, hl, hf, Ne.symm d2]
  refine call_intro (bpre_spec h hh _) ?_
  rintro _ s1 ⟨rfl, o1, _, rfl⟩
  by_cases c : h.may = true
  · have e1 : bPre h = preB 66 [headB h] := by simp [bPre, c]
    have e3 : bSum h = sha256 (preB 66 [headB h]) := by simp [bSum, c]
    have hp := preB_pos 66 [headB h]
    have hlen : (preB 66 [headB h]).length ≤ 1000 := by simp [preB, chunk, eightB, headB_length hh]
    rw [e1, e3]
    generalize preB 66 [headB h] = t at *
    have ht : ((t.length : Int) = 0) = False := by simp only [eq_iff_iff, iff_false]; omega
    simp (dsimp := false) (implicitDefEqProofs := false) (disch := first | omega | assumption | (simp only [rL, Nat.reduceAdd]; try omega)) only [↓rD, rU, ev, ofConst, ofCell, ↓reduceIte, Nat.reduceEqDiff, Nat.reduceAdd, Nat.reduceSub, Nat.reduceMul, Nat.reduceLeDiff, Nat.reduceLT, Int.reduceNeg, Int.reduceToNat, Int.reduceAdd, Int.reduceSub, Int.reduceMul, Int.reduceLT, Int.reduceLE, Int.reduceEq, rX, List.drop_succ_cons, ↓rF, rG, ne_eq, not_true_eq_false, not_false_eq_true, Int.reduceNe, List.getElem?_cons_zero, List.getElem?_cons_succ, ↓rK, rM, dg_cells, dg_fold, ht]
    refine call_intro (sum_spec t o1 (by omega) _) ?_
    rintro _ s1 ⟨rfl, rfl⟩
    have hq := sha256_length t
    generalize sha256 t = d at *
    simp (dsimp := false) (implicitDefEqProofs := false) (disch := first | omega | assumption | (simp only [rL, Nat.reduceAdd]; try omega)) only [↓rD, rU, ev, ofConst, ofCell, ↓reduceIte, Nat.reduceEqDiff, Nat.reduceAdd, Nat.reduceSub, Nat.reduceMul, Nat.reduceLeDiff, Nat.reduceLT, Int.reduceNeg, Int.reduceToNat, Int.reduceAdd, Int.reduceSub, Int.reduceMul, Int.reduceLT, Int.reduceLE, Int.reduceEq, rX, List.drop_succ_cons, ↓rF, rG, ne_eq, not_true_eq_false, not_false_eq_true, Int.reduceNe, List.getElem?_cons_zero, List.getElem?_cons_succ, ↓rK, rM, dg_cells, dg_fold, hq]
    exact ⟨s, Hp.sub_new (Hp.sub_new Hp.sub_refl n1) e2, rfl⟩
  · have e1 : bPre h = [] := by simp [bPre, c]
    have e3 : bSum h = zd := by simp [bSum, c]
    rw [e1, e3]
    simp (dsimp := false) (implicitDefEqProofs := false) (disch := first | omega | assumption | (simp only [rL, Nat.reduceAdd]; try omega)) only [↓rD, rU, ev, ofConst, ofCell, ↓reduceIte, Nat.reduceEqDiff, Nat.reduceAdd, Nat.reduceSub, Nat.reduceMul, Nat.reduceLeDiff, Nat.reduceLT, Int.reduceNeg, Int.reduceToNat, Int.reduceAdd, Int.reduceSub, Int.reduceMul, Int.reduceLT, Int.reduceLE, Int.reduceEq, rX, List.drop_succ_cons, ↓rF, rG, ne_eq, not_true_eq_false, not_false_eq_true, Int.reduceNe, List.getElem?_cons_zero, List.getElem?_cons_succ, ↓rK, rM, dg_cells, dg_fold, List.map_nil]
    exact ⟨s, Hp.sub_new (Hp.sub_new Hp.sub_refl n1) e2, rfl, rfl⟩
theorem opssum_spec (t : List UInt8) (o : Own) (ht : t.length ≤ 100000000) (s : Hp) :
    AC Tryz.prog 57 [.sl (t.map byteAV) o] s fun r s' => s' = s ∧ r = dg (sha256 (preB 79 [t])) := by
  refine AC_run hm prep57 (by simp) ?_
  simp (dsimp := false) (implicitDefEqProofs := false) (disch := first | omega | assumption | (simp only [rL, Nat.reduceAdd]; try omega)) only [↓rD, rU, ev, ofConst, ofCell, ↓reduceIte, Nat.reduceEqDiff, Nat.reduceAdd, Nat.reduceSub, Nat.reduceMul, Nat.reduceLeDiff, Nat.reduceLT, Int.reduceNeg, Int.reduceToNat, Int.reduceAdd, Int.reduceSub, Int.reduceMul, Int.reduceLT, Int.reduceLE, Int.reduceEq, rX, List.drop_succ_cons, ↓rF, rG, ne_eq, not_true_eq_false, not_false_eq_true, Int.reduceNe, List.getElem?_cons_zero, List.getElem?_cons_succ, ↓rK, rM, dg_cells, dg_fold]
  refine newK_intro fun l1 n1 => ?_
  simp (dsimp := false) (implicitDefEqProofs := false) (disch := first | omega | assumption | (simp only [rL, Nat.reduceAdd]; try omega)) only [↓rD, rU, ev, ofConst, ofCell, ↓reduceIte, Nat.reduceEqDiff, Nat.reduceAdd, Nat.reduceSub, Nat.reduceMul, Nat.reduceLeDiff, Nat.reduceLT, Int.reduceNeg, Int.reduceToNat, Int.reduceAdd, Int.reduceSub, Int.reduceMul, Int.reduceLT, Int.reduceLE, Int.reduceEq, rX, List.drop_succ_cons, ↓rF, rG, ne_eq, not_true_eq_false, not_false_eq_true, Int.reduceNe, List.getElem?_cons_zero, List.getElem?_cons_succ, ↓rK, rM, dg_cells, dg_fold]
  refine bsl_own Hp.sub_refl (by simp [allLen, AV.cells]) fun o2 s2 h2 => ?_
  have g1 := h2.sub _ _ (Hp.set_same _ _ _)
  simp (dsimp := false) (implicitDefEqProofs := false) (disch := first | omega | assumption | (simp only [rL, Nat.reduceAdd]; try omega)) only [↓rD, rU, ev, ofConst, ofCell, ↓reduceIte, Nat.reduceEqDiff, Nat.reduceAdd, Nat.reduceSub, Nat.reduceMul, Nat.reduceLeDiff, Nat.reduceLT, Int.reduceNeg, Int.reduceToNat, Int.reduceAdd, Int.reduceSub, Int.reduceMul, Int.reduceLT, Int.reduceLE, Int.reduceEq, rX, List.drop_succ_cons, ↓rF, rG, ne_eq, not_true_eq_false, not_false_eq_true, Int.reduceNe, List.getElem?_cons_zero, List.getElem?_cons_succ, ↓rK, rM, dg_cells, dg_fold]
  refine call_intro (hash_spec 79 [(t, o)] o2 (by simp [preB, chunk, eightB]; omega) s2) ?_
  rintro _ s2 ⟨rfl, rfl⟩
  have hq := sha256_length (preB 79 [t])
  simp only [List.map_cons, List.map_nil]
  generalize sha256 (preB 79 [t]) = d at *
  simp (dsimp := false) (implicitDefEqProofs := false) (disch := first | omega | assumption | (simp only [rL, Nat.reduceAdd]; try omega)) only [↓rD, rU, ev, ofConst, ofCell, ↓reduceIte, Nat.reduceEqDiff, Nat.reduceAdd, Nat.reduceSub, Nat.reduceMul, Nat.reduceLeDiff, Nat.reduceLT, Int.reduceNeg, Int.reduceToNat, Int.reduceAdd, Int.reduceSub, Int.reduceMul, Int.reduceLT, Int.reduceLE, Int.reduceEq, rX, List.drop_succ_cons, ↓rF, rG, ne_eq, not_true_eq_false, not_false_eq_true, Int.reduceNe, List.getElem?_cons_zero, List.getElem?_cons_succ, ↓rK, rM, dg_cells, dg_fold, hq, Hp.read_of g1, Hp.stA_of g1]
  exact ⟨s, Hp.sub_new (Hp.sub_trans (Hp.sub_new Hp.sub_refl n1) h2.sub) n1, rfl⟩
end Go.Proofs.YtnnjjmiahcnbaaaGreat
/-
  One rune of a text.
-/
set_option maxRecDepth 100000
namespace Go.Proofs.YtnnjjmiahcnbaaaGreat
open Go Go.Av
theorem get_mk (l : List UInt8) (i : Nat) (h : i < l.length) : (⟨l.toArray⟩ : ByteArray).get! i = l[i] := by
  simp [ByteArray.get!, h]
theorem decode_low (l : List UInt8) (i : Nat) (h : i < l.length) (hb : l[i].toNat < 128) : Utf8.decode ⟨l.toArray⟩ i = (l[i].toNat, 1) := by
  simp [Utf8.decode, get_mk l i h, hb]
theorem decode_high (l : List UInt8) (i : Nat) (h : i < l.length) (hb : 128 ≤ l[i].toNat) :
    128 ≤ (Utf8.decode ⟨l.toArray⟩ i).1 ∧ (Utf8.decode ⟨l.toArray⟩ i).1 ≤ 1114111 ∧ 1 ≤ (Utf8.decode ⟨l.toArray⟩ i).2 ∧ i + (Utf8.decode ⟨l.toArray⟩ i).2 ≤ l.length ∧
      ∀ j, (hj : j < l.length) → i ≤ j → j < i + (Utf8.decode ⟨l.toArray⟩ i).2 → 128 ≤ l[j].toNat := by
  have hone : ∀ j, (hj : j < l.length) → i ≤ j → j < i + 1 → 128 ≤ l[j].toNat := fun j hj h1 h2 => by
    have : j = i := by omega
    subst this; exact hb
  have hcont : ∀ k, (i + k < l.length ∧ ((⟨l.toArray⟩ : ByteArray).get! (i + k)).toNat / 64 = 2) → ∃ h : i + k < l.length, 128 ≤ l[i + k].toNat := fun k hk => by
    obtain ⟨h1, h2⟩ := hk
    rw [get_mk l _ h1] at h2
    exact ⟨h1, by omega⟩
  have hsz : (⟨l.toArray⟩ : ByteArray).size = l.length := size_str l
  have e0 : ((⟨l.toArray⟩ : ByteArray).get! (i + 0)).toNat = l[i].toNat := by rw [Nat.add_zero, get_mk l i h]
  have hlt : l[i].toNat < 256 := l[i].toNat_lt
  unfold Utf8.decode
  simp only [e0, hsz]
  rw [if_neg (by omega)]
  have v : ∀ c : Nat, Utf8.valid (c : Int) = true → c ≤ 1114111 := fun c hc => by
    simp only [Utf8.valid, Bool.or_eq_true, Bool.and_eq_true, decide_eq_true_eq] at hc
    omega
  split
  · rename_i hc
    simp only [Bool.and_eq_true, decide_eq_true_eq, beq_iff_eq] at hc
    obtain ⟨hc0, hc1⟩ := hc
    obtain ⟨q1, q2⟩ := hcont 1 hc1
    split
    · rename_i hge
      refine ⟨by simpa using hge, ?_, by simp, by simp; omega, fun j hj h1 h2 => ?_⟩
      · simp only; omega
      · rcases (by simp only at h2; omega : j = i ∨ j = i + 1) with rfl | rfl
        · exact hb
        · exact q2
    · exact ⟨by simp [Utf8.runeError], by simp [Utf8.runeError], by simp, by simp; omega, hone⟩
  · split
    · rename_i hc
      simp only [Bool.and_eq_true, decide_eq_true_eq, beq_iff_eq] at hc
      obtain ⟨⟨hc0, hc1⟩, hc2⟩ := hc
      obtain ⟨q1, q2⟩ := hcont 1 hc1
      obtain ⟨q3, q4⟩ := hcont 2 hc2
      split
      · rename_i hge
        simp only [Bool.and_eq_true, decide_eq_true_eq] at hge
        refine ⟨by simp only; omega, v _ hge.2, by simp, by simp; omega, fun j hj h1 h2 => ?_⟩
        rcases (by simp only at h2; omega : j = i ∨ j = i + 1 ∨ j = i + 2) with rfl | rfl | rfl
        · exact hb
        · exact q2
        · exact q4
      · exact ⟨by simp [Utf8.runeError], by simp [Utf8.runeError], by simp, by simp; omega, hone⟩
    · split
      · rename_i hc
        simp only [Bool.and_eq_true, decide_eq_true_eq, beq_iff_eq] at hc
        obtain ⟨⟨⟨hc0, hc1⟩, hc2⟩, hc3⟩ := hc
        obtain ⟨q1, q2⟩ := hcont 1 hc1
        obtain ⟨q3, q4⟩ := hcont 2 hc2
        obtain ⟨q5, q6⟩ := hcont 3 hc3
        split
        · rename_i hge
          simp only [Bool.and_eq_true, decide_eq_true_eq] at hge
          refine ⟨by simp only; omega, v _ hge.2, by simp, by simp; omega, fun j hj h1 h2 => ?_⟩
          rcases (by simp only at h2; omega : j = i ∨ j = i + 1 ∨ j = i + 2 ∨ j = i + 3) with rfl | rfl | rfl | rfl
          · exact hb
          · exact q2
          · exact q4
          · exact q6
        · exact ⟨by simp [Utf8.runeError], by simp [Utf8.runeError], by simp, by simp; omega, hone⟩
      · exact ⟨by simp [Utf8.runeError], by simp [Utf8.runeError], by simp, by simp; omega, hone⟩
end Go.Proofs.YtnnjjmiahcnbaaaGreat
