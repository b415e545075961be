/- Merged by program from smaller texts; what is proved stands in the last text of the claim. -/
import Derived.Test.YtapjikladjoicaaMD
import Derived.Test.YtapjikladjoicaaMC
set_option linter.all false
set_option maxRecDepth 100000
namespace Go.Av
open Go
variable {P : Program} {f : Fr} {s s0 : Hp} {Kv : AV → Hp → Prop}
def eqnK (neg : Bool) (a : AV) (C : AV → Prop) : Prop :=
  match a with
  | .sl xs o => match o with
    | .nil => C (.v (.bool (!neg)))
    | .buf _ _ => C (.v (.bool neg))
    | _ => (xs = [] → C (.v (.bool (!neg)))) ∧ C (.v (.bool neg))
  | .mb _ _ _ _ => C (.v (.bool neg))
  | _ => False
theorem G_eqn {neg : Bool} {x : Operand} : G P (.eqn neg x) f s Kv = eqnK neg (ev f x) (hid1 (fun r => Kv r s) ()) := rfl
theorem eqn_intro {neg : Bool} {xs : List AV} {o : Own} {C : AV → Prop} {d : Dep C} (hn : o = .nil → xs = []) (h1 : xs = [] → C (.v (.bool (!neg)))) (h2 : C (.v (.bool neg))) : eqnK neg (.sl xs o) (hid1 C d) := by
  cases o with
  | nil => exact h1 (hn rfl)
  | buf g c => exact h2
  | any => exact ⟨h1, h2⟩
  | zero => exact ⟨h1, h2⟩
end Go.Av
namespace Go.Proofs.Ytapjikladjoicaa
open Go Go.Av

theorem clone_spec (bs : List UInt8) (o : Own) (s : Hp) (ho : o = .nil → bs = []) (hb : bs.length ≤ 70368744177664) :
    AC Try.prog 68 [.sl (bs.map byteAV) o] s fun r s' => ∃ o', Owned s s' 1 (bs.map byteAV) o' ∧ r = .sl (bs.map byteAV) o' := by
  refine AC_run hm prep68 (by simp) ?_
  simp (dsimp := false) (implicitDefEqProofs := false) (maxSteps := 1000000) (disch := first | omega | assumption | (simp only [rL, Nat.reduceAdd]; done) | (simp only [rL, Nat.reduceAdd]; omega)) only [↓rD, rU, ev, ofConst, ofCell, ↓reduceIte, Nat.reduceEqDiff, Nat.reduceAdd, Nat.reduceSub, Nat.reduceMul, Nat.reduceLeDiff, Nat.reduceLT, Int.reduceNeg, Int.reduceToNat, Int.reduceAdd, Int.reduceSub, Int.reduceMul, Int.reduceLT, Int.reduceLE, Int.reduceEq, rX, dg_cells, dg_fold, List.drop_succ_cons, ↓G_eqn]
  refine eqn_intro (fun h => by rw [ho h]; rfl) (fun h => ?_) ?_
  · have hb0 : bs = [] := by simpa using h
    subst hb0
    simp (dsimp := false) (implicitDefEqProofs := false) (maxSteps := 1000000) (disch := first | omega | assumption | (simp only [rL, Nat.reduceAdd]; done) | (simp only [rL, Nat.reduceAdd]; omega)) only [↓rD, rU, ev, ofConst, ofCell, ↓reduceIte, Nat.reduceEqDiff, Nat.reduceAdd, Nat.reduceSub, Nat.reduceMul, Nat.reduceLeDiff, Nat.reduceLT, Int.reduceNeg, Int.reduceToNat, Int.reduceAdd, Int.reduceSub, Int.reduceMul, Int.reduceLT, Int.reduceLE, Int.reduceEq, rX, dg_cells, dg_fold, List.drop_succ_cons, Bool.not_false]
    exact ⟨s, Hp.sub_refl, .nil, Owned.nil Hp.sub_refl, rfl⟩
  · simp (dsimp := false) (implicitDefEqProofs := false) (maxSteps := 1000000) (disch := first | omega | assumption | (simp only [rL, Nat.reduceAdd]; done) | (simp only [rL, Nat.reduceAdd]; omega)) only [↓rD, rU, ev, ofConst, ofCell, ↓reduceIte, Nat.reduceEqDiff, Nat.reduceAdd, Nat.reduceSub, Nat.reduceMul, Nat.reduceLeDiff, Nat.reduceLT, Int.reduceNeg, Int.reduceToNat, Int.reduceAdd, Int.reduceSub, Int.reduceMul, Int.reduceLT, Int.reduceLE, Int.reduceEq, rX, dg_cells, dg_fold, List.drop_succ_cons]
    refine bsl_own Hp.sub_refl (by simp [allLen]) fun o1 s1 h1 => ?_
    simp (dsimp := false) (implicitDefEqProofs := false) (maxSteps := 1000000) (disch := first | omega | assumption | (simp only [rL, Nat.reduceAdd]; done) | (simp only [rL, Nat.reduceAdd]; omega)) only [↓rD, rU, ev, ofConst, ofCell, ↓reduceIte, Nat.reduceEqDiff, Nat.reduceAdd, Nat.reduceSub, Nat.reduceMul, Nat.reduceLeDiff, Nat.reduceLT, Int.reduceNeg, Int.reduceToNat, Int.reduceAdd, Int.reduceSub, Int.reduceMul, Int.reduceLT, Int.reduceLE, Int.reduceEq, rX, dg_cells, dg_fold, List.drop_succ_cons]
    refine app_bytes (xs := []) h1 (by simp; omega) fun o2 s2 h2 => ?_
    simp (dsimp := false) (implicitDefEqProofs := false) (maxSteps := 1000000) (disch := first | omega | assumption | (simp only [rL, Nat.reduceAdd]; done) | (simp only [rL, Nat.reduceAdd]; omega)) only [↓rD, rU, ev, ofConst, ofCell, ↓reduceIte, Nat.reduceEqDiff, Nat.reduceAdd, Nat.reduceSub, Nat.reduceMul, Nat.reduceLeDiff, Nat.reduceLT, Int.reduceNeg, Int.reduceToNat, Int.reduceAdd, Int.reduceSub, Int.reduceMul, Int.reduceLT, Int.reduceLE, Int.reduceEq, rX, dg_cells, dg_fold, List.drop_succ_cons, List.nil_append]
    exact ⟨s2, Hp.sub_refl, o2, by simpa using h2, rfl⟩

theorem wbytes_spec (s0 s : Hp) (l : Nat) (bs : List UInt8) (h : WS s0 l bs s) (hb : bs.length ≤ 70368744177664) :
    AC Try.prog 48 [.ptr l 0] s fun r s' => ∃ o', Owned s s' 1 (bs.map byteAV) o' ∧ r = .sl (bs.map byteAV) o' := by
  obtain ⟨ow, h⟩ := h
  have g := h.sub _ _ (Hp.set_same _ _ _)
  refine AC_run hm prep48 (by simp) ?_
  simp (dsimp := false) (implicitDefEqProofs := false) (maxSteps := 1000000) (disch := first | omega | assumption | (simp only [rL, Nat.reduceAdd]; done) | (simp only [rL, Nat.reduceAdd]; omega)) only [↓rD, rU, ev, ofConst, ofCell, ↓reduceIte, Nat.reduceEqDiff, Nat.reduceAdd, Nat.reduceSub, Nat.reduceMul, Nat.reduceLeDiff, Nat.reduceLT, Int.reduceNeg, Int.reduceToNat, Int.reduceAdd, Int.reduceSub, Int.reduceMul, Int.reduceLT, Int.reduceLE, Int.reduceEq, rX, dg_cells, dg_fold, List.drop_succ_cons, Hp.read_of g, ne_eq, not_true_eq_false]
  refine call_intro (clone_spec bs ow s (fun hn => ?_) hb) ?_
  · subst hn; have := h.2; simpa using this
  rintro _ s1 ⟨o1, h1, rfl⟩
  simp (dsimp := false) (implicitDefEqProofs := false) (maxSteps := 1000000) (disch := first | omega | assumption | (simp only [rL, Nat.reduceAdd]; done) | (simp only [rL, Nat.reduceAdd]; omega)) only [↓rD, rU, ev, ofConst, ofCell, ↓reduceIte, Nat.reduceEqDiff, Nat.reduceAdd, Nat.reduceSub, Nat.reduceMul, Nat.reduceLeDiff, Nat.reduceLT, Int.reduceNeg, Int.reduceToNat, Int.reduceAdd, Int.reduceSub, Int.reduceMul, Int.reduceLT, Int.reduceLE, Int.reduceEq, rX, dg_cells, dg_fold, List.drop_succ_cons]
  exact ⟨s1, Hp.sub_refl, o1, h1, rfl⟩
end Go.Proofs.Ytapjikladjoicaa
set_option maxRecDepth 100000
namespace Go.Av
open Go
theorem slcRA_at {s : Hp} {n l off : Nat} {cs : List AV} (h : s l = some (.ro cs)) (h2 : off + n ≤ cs.length) : slcRA 1 n s (.ptr l off) = some (.sl ((cs.drop off).take n) .any) := by
  simp [slcRA, h, h2, elemsOf]
end Go.Av
namespace Go.Proofs.Ytapjikladjoicaa
open Go Go.Av

def opC (n : Int) (h d : List UInt8) : List AV := .v (.int .i64 n) :: (h.map byteAV ++ d.map byteAV)
/-- an opening -/
def OPV (n : Int) (h d : List UInt8) : AV := .agg (opC n h d)
def digPre (n : Int) (h d : List UInt8) : List UInt8 := preB 68 [numB n, h, d]
theorem digPre_length (n : Int) (h d : List UInt8) (hh : h.length = 32) (hd : d.length = 32) : (digPre n h d).length = 97 := by simp [digPre, preB, chunk, eightB, numB, hh, hd]
theorem opC_length {n : Int} {h d : List UInt8} (hh : h.length = 32) (hd : d.length = 32) : (opC n h d).length = 65 := by simp [opC, hh, hd]
theorem opC_h {n : Int} {h d : List UInt8} (hh : h.length = 32) : ((opC n h d).drop 1).take 32 = h.map byteAV := by
  simp only [opC, List.drop_succ_cons, List.drop_zero]
  rw [show (32 : Nat) = (h.map byteAV).length by simp [hh], List.take_left]
theorem opC_d {n : Int} {h d : List UInt8} (hh : h.length = 32) (hd : d.length = 32) : ((opC n h d).drop 33).take 32 = d.map byteAV := by
  simp only [opC, List.drop_succ_cons]
  rw [show (32 : Nat) = (h.map byteAV).length by simp [hh], List.drop_left, List.take_of_length_le (by simp [hd, hh])]

theorem digPre_spec (n : Int) (h d : List UInt8) (hh : h.length = 32) (hd : d.length = 32) (s : Hp) :
    AC Try.prog 56 [OPV n h d] s fun r s' => ∃ o, Owned s s' 1 ((digPre n h d).map byteAV) o ∧ r = .sl ((digPre n h d).map byteAV) o := by
  refine AC_run hm prep56 (by simp) ?_
  have hc : (OPV n h d).cells = opC n h d := rfl
  have hl := opC_length (n := n) hh hd
  simp (dsimp := false) (implicitDefEqProofs := false) (maxSteps := 1000000) (disch := first | omega | assumption | (simp only [rL, Nat.reduceAdd]; done) | (simp only [rL, Nat.reduceAdd]; omega)) only [↓rD, rU, ev, ofConst, ofCell, ↓reduceIte, Nat.reduceEqDiff, Nat.reduceAdd, Nat.reduceSub, Nat.reduceMul, Nat.reduceLeDiff, Nat.reduceLT, Int.reduceNeg, Int.reduceToNat, Int.reduceAdd, Int.reduceSub, Int.reduceMul, Int.reduceLT, Int.reduceLE, Int.reduceEq, rX, dg_cells, dg_fold, List.drop_succ_cons, hc, hl]
  refine newK_intro fun l1 n1 => ?_
  simp (dsimp := false) (implicitDefEqProofs := false) (maxSteps := 1000000) (disch := first | omega | assumption | (simp only [rL, Nat.reduceAdd]; done) | (simp only [rL, Nat.reduceAdd]; omega)) only [↓rD, rU, ev, ofConst, ofCell, ↓reduceIte, Nat.reduceEqDiff, Nat.reduceAdd, Nat.reduceSub, Nat.reduceMul, Nat.reduceLeDiff, Nat.reduceLT, Int.reduceNeg, Int.reduceToNat, Int.reduceAdd, Int.reduceSub, Int.reduceMul, Int.reduceLT, Int.reduceLE, Int.reduceEq, rX, dg_cells, dg_fold, List.drop_succ_cons, hc, hl]
  refine newK_intro fun l3 n3 => ?_
  obtain ⟨d31, e3⟩ := Hp.set_none n3
  have hm0 : mkv false 1 (opC n h d) = .v (.int .i64 n) := rfl
  simp (dsimp := false) (implicitDefEqProofs := false) (maxSteps := 1000000) (disch := first | omega | assumption | (simp only [rL, Nat.reduceAdd]; done) | (simp only [rL, Nat.reduceAdd]; omega)) only [↓rD, rU, ev, ofConst, ofCell, ↓reduceIte, Nat.reduceEqDiff, Nat.reduceAdd, Nat.reduceSub, Nat.reduceMul, Nat.reduceLeDiff, Nat.reduceLT, Int.reduceNeg, Int.reduceToNat, Int.reduceAdd, Int.reduceSub, Int.reduceMul, Int.reduceLT, Int.reduceLE, Int.reduceEq, rX, dg_cells, dg_fold, List.drop_succ_cons, hc, hl, hm0, Ne.symm d31]
  have hW : WS (s.set l1 (.ro (opC n h d))) l3 [] ((s.set l1 (.ro (opC n h d))).set l3 (.cells [.sl [] .nil, .v (.int .i64 0)])) := ⟨.nil, Owned.nil Hp.sub_refl⟩
  refine call_intro (num_spec _ _ l3 [] n hW (by simp)) ?_
  intro r s1 hW
  rw [List.nil_append] at hW
  have g1 : s1 l1 = some (.ro (opC n h d)) := by
    obtain ⟨ow, hO⟩ := hW
    exact hO.sub _ _ (by rw [Hp.set_ne _ _ (Ne.symm d31)]; exact Hp.set_same _ _ _)
  have hs1 : s.sub s1 := by
    obtain ⟨ow, hO⟩ := hW
    exact Hp.sub_trans (Hp.sub_new (Hp.sub_new Hp.sub_refl n1) e3) hO.sub
  have k1 : slcRA 1 32 s1 (.ptr l1 1) = some (.sl (h.map byteAV) .any) := by rw [slcRA_at g1 (by omega), opC_h hh]
  have k2 : slcRA 1 32 s1 (.ptr l1 33) = some (.sl (d.map byteAV) .any) := by rw [slcRA_at g1 (by omega), opC_d hh hd]
  simp (dsimp := false) (implicitDefEqProofs := false) (maxSteps := 1000000) (disch := first | omega | assumption | (simp only [rL, Nat.reduceAdd]; done) | (simp only [rL, Nat.reduceAdd]; omega)) only [↓rD, rU, ev, ofConst, ofCell, ↓reduceIte, Nat.reduceEqDiff, Nat.reduceAdd, Nat.reduceSub, Nat.reduceMul, Nat.reduceLeDiff, Nat.reduceLT, Int.reduceNeg, Int.reduceToNat, Int.reduceAdd, Int.reduceSub, Int.reduceMul, Int.reduceLT, Int.reduceLE, Int.reduceEq, rX, dg_cells, dg_fold, List.drop_succ_cons, k1, k2]
  refine call_intro (wbytes_spec _ s1 l3 (numB n) hW (by simp [numB, eightB])) ?_
  rintro _ s2 ⟨o2, h2, rfl⟩
  have g2 := h2.sub _ _ g1
  have k3 : slcRA 1 32 s2 (.ptr l1 1) = some (.sl (h.map byteAV) .any) := by rw [slcRA_at g2 (by omega), opC_h hh]
  have k4 : slcRA 1 32 s2 (.ptr l1 33) = some (.sl (d.map byteAV) .any) := by rw [slcRA_at g2 (by omega), opC_d hh hd]
  simp (dsimp := false) (implicitDefEqProofs := false) (maxSteps := 1000000) (disch := first | omega | assumption | (simp only [rL, Nat.reduceAdd]; done) | (simp only [rL, Nat.reduceAdd]; omega)) only [↓rD, rU, ev, ofConst, ofCell, ↓reduceIte, Nat.reduceEqDiff, Nat.reduceAdd, Nat.reduceSub, Nat.reduceMul, Nat.reduceLeDiff, Nat.reduceLT, Int.reduceNeg, Int.reduceToNat, Int.reduceAdd, Int.reduceSub, Int.reduceMul, Int.reduceLT, Int.reduceLE, Int.reduceEq, rX, dg_cells, dg_fold, List.drop_succ_cons, k3, k4]
  refine bsl_own Hp.sub_refl (by simp [allLen, AV.cells]) fun o3 s3 h3 => ?_
  simp (dsimp := false) (implicitDefEqProofs := false) (maxSteps := 1000000) (disch := first | omega | assumption | (simp only [rL, Nat.reduceAdd]; done) | (simp only [rL, Nat.reduceAdd]; omega)) only [↓rD, rU, ev, ofConst, ofCell, ↓reduceIte, Nat.reduceEqDiff, Nat.reduceAdd, Nat.reduceSub, Nat.reduceMul, Nat.reduceLeDiff, Nat.reduceLT, Int.reduceNeg, Int.reduceToNat, Int.reduceAdd, Int.reduceSub, Int.reduceMul, Int.reduceLT, Int.reduceLE, Int.reduceEq, rX, dg_cells, dg_fold, List.drop_succ_cons]
  have hlen := digPre_length n h d hh hd
  refine call_intro (pre_spec 68 [(numB n, o2), (h, .any), (d, .any)] o3 (by simp only [digPre] at hlen; simp only [List.map_cons, List.map_nil, hlen]; omega) _) ?_
  rintro _ s4 ⟨o4, h4, rfl⟩
  simp (dsimp := false) (implicitDefEqProofs := false) (maxSteps := 1000000) (disch := first | omega | assumption | (simp only [rL, Nat.reduceAdd]; done) | (simp only [rL, Nat.reduceAdd]; omega)) only [↓rD, rU, ev, ofConst, ofCell, ↓reduceIte, Nat.reduceEqDiff, Nat.reduceAdd, Nat.reduceSub, Nat.reduceMul, Nat.reduceLeDiff, Nat.reduceLT, Int.reduceNeg, Int.reduceToNat, Int.reduceAdd, Int.reduceSub, Int.reduceMul, Int.reduceLT, Int.reduceLE, Int.reduceEq, rX, dg_cells, dg_fold, List.drop_succ_cons]
  exact ⟨s4, Hp.sub_refl, o4, h4.base (Hp.sub_trans hs1 (Hp.sub_trans h2.sub h3.sub)), rfl⟩
end Go.Proofs.Ytapjikladjoicaa
set_option maxRecDepth 100000
namespace Go.Proofs.Ytapjikladjoicaa
open Go Go.Av

theorem op_fold {n : Int} {h d : List UInt8} (hh : h.length = 32) (hd : d.length = 32) : (.agg ((opC n h d).take 65) : AV) = OPV n h d := by
  rw [List.take_of_length_le (by rw [opC_length hh hd]; omega)]; rfl

theorem bdigest_spec (n : Int) (h d : List UInt8) (hh : h.length = 32) (hd : d.length = 32) (s : Hp) :
    AC Try.prog 26 [OPV n h d] s fun r s' => s' = s ∧ r = dg (sha256 (digPre n h d)) := by
  refine AC_run hm prep26 (by simp) ?_
  have hc : (OPV n h d).cells = opC n h d := rfl
  have hl := opC_length (n := n) hh hd
  have hf := op_fold (n := n) hh hd
  simp (dsimp := false) (implicitDefEqProofs := false) (maxSteps := 1000000) (disch := first | omega | assumption | (simp only [rL, Nat.reduceAdd]; done) | (simp only [rL, Nat.reduceAdd]; omega)) only [↓rD, rU, ev, ofConst, ofCell, ↓reduceIte, Nat.reduceEqDiff, Nat.reduceAdd, Nat.reduceSub, Nat.reduceMul, Nat.reduceLeDiff, Nat.reduceLT, Int.reduceNeg, Int.reduceToNat, Int.reduceAdd, Int.reduceSub, Int.reduceMul, Int.reduceLT, Int.reduceLE, Int.reduceEq, rX, dg_cells, dg_fold, List.drop_succ_cons, hc, hl]
  refine newK_intro fun l1 n1 => ?_
  simp (dsimp := false) (implicitDefEqProofs := false) (maxSteps := 1000000) (disch := first | omega | assumption | (simp only [rL, Nat.reduceAdd]; done) | (simp only [rL, Nat.reduceAdd]; omega)) only [↓rD, rU, ev, ofConst, ofCell, ↓reduceIte, Nat.reduceEqDiff, Nat.reduceAdd, Nat.reduceSub, Nat.reduceMul, Nat.reduceLeDiff, Nat.reduceLT, Int.reduceNeg, Int.reduceToNat, Int.reduceAdd, Int.reduceSub, Int.reduceMul, Int.reduceLT, Int.reduceLE, Int.reduceEq, rX, dg_cells, dg_fold, List.drop_succ_cons, hc, hl]
  refine newK_intro fun l2 n2 => ?_
  obtain ⟨d21, e2⟩ := Hp.set_none n2
  simp (dsimp := false) (implicitDefEqProofs := false) (maxSteps := 1000000) (disch := first | omega | assumption | (simp only [rL, Nat.reduceAdd]; done) | (simp only [rL, Nat.reduceAdd]; omega)) only [↓rD, rU, ev, ofConst, ofCell, ↓reduceIte, Nat.reduceEqDiff, Nat.reduceAdd, Nat.reduceSub, Nat.reduceMul, Nat.reduceLeDiff, Nat.reduceLT, Int.reduceNeg, Int.reduceToNat, Int.reduceAdd, Int.reduceSub, Int.reduceMul, Int.reduceLT, Int.reduceLE, Int.reduceEq, rX, dg_cells, dg_fold, List.drop_succ_cons, hc, hl, Ne.symm d21, hf]
  refine call_intro (digPre_spec n h d hh hd _) ?_
  rintro _ s1 ⟨o1, h1, rfl⟩
  simp (dsimp := false) (implicitDefEqProofs := false) (maxSteps := 1000000) (disch := first | omega | assumption | (simp only [rL, Nat.reduceAdd]; done) | (simp only [rL, Nat.reduceAdd]; omega)) only [↓rD, rU, ev, ofConst, ofCell, ↓reduceIte, Nat.reduceEqDiff, Nat.reduceAdd, Nat.reduceSub, Nat.reduceMul, Nat.reduceLeDiff, Nat.reduceLT, Int.reduceNeg, Int.reduceToNat, Int.reduceAdd, Int.reduceSub, Int.reduceMul, Int.reduceLT, Int.reduceLE, Int.reduceEq, rX, dg_cells, dg_fold, List.drop_succ_cons]
  refine call_intro (sum_spec (digPre n h d) o1 (by rw [digPre_length n h d hh hd]; omega) _) ?_
  rintro _ _ ⟨rfl, rfl⟩
  have g2 := h1.sub _ _ (Hp.set_same _ _ _)
  have hq := sha256_length (digPre n h d)
  generalize sha256 (digPre n h d) = e at *
  simp (dsimp := false) (implicitDefEqProofs := false) (maxSteps := 1000000) (disch := first | omega | assumption | (simp only [rL, Nat.reduceAdd]; done) | (simp only [rL, Nat.reduceAdd]; omega)) only [↓rD, rU, ev, ofConst, ofCell, ↓reduceIte, Nat.reduceEqDiff, Nat.reduceAdd, Nat.reduceSub, Nat.reduceMul, Nat.reduceLeDiff, Nat.reduceLT, Int.reduceNeg, Int.reduceToNat, Int.reduceAdd, Int.reduceSub, Int.reduceMul, Int.reduceLT, Int.reduceLE, Int.reduceEq, rX, dg_cells, dg_fold, List.drop_succ_cons, hq, Hp.stA_of g2, Hp.read_of g2]
  exact ⟨s, Hp.sub_new (Hp.sub_trans (Hp.sub_new (Hp.sub_new Hp.sub_refl n1) e2) h1.sub) e2, rfl⟩

theorem lsum_spec (n : Int) (h d : List UInt8) (hh : h.length = 32) (hd : d.length = 32) (s : Hp) :
    AC Try.prog 9 [OPV n h d] s fun r s' => s' = s ∧ r = dg (sha256 (digPre n h d)) := by
  refine AC_run hm prep9 (by simp) ?_
  have hc : (OPV n h d).cells = opC n h d := rfl
  have hl := opC_length (n := n) hh hd
  have hf := op_fold (n := n) hh hd
  simp (dsimp := false) (implicitDefEqProofs := false) (maxSteps := 1000000) (disch := first | omega | assumption | (simp only [rL, Nat.reduceAdd]; done) | (simp only [rL, Nat.reduceAdd]; omega)) only [↓rD, rU, ev, ofConst, ofCell, ↓reduceIte, Nat.reduceEqDiff, Nat.reduceAdd, Nat.reduceSub, Nat.reduceMul, Nat.reduceLeDiff, Nat.reduceLT, Int.reduceNeg, Int.reduceToNat, Int.reduceAdd, Int.reduceSub, Int.reduceMul, Int.reduceLT, Int.reduceLE, Int.reduceEq, rX, dg_cells, dg_fold, List.drop_succ_cons, hc, hl]
  refine newK_intro fun l1 n1 => ?_
  simp (dsimp := false) (implicitDefEqProofs := false) (maxSteps := 1000000) (disch := first | omega | assumption | (simp only [rL, Nat.reduceAdd]; done) | (simp only [rL, Nat.reduceAdd]; omega)) only [↓rD, rU, ev, ofConst, ofCell, ↓reduceIte, Nat.reduceEqDiff, Nat.reduceAdd, Nat.reduceSub, Nat.reduceMul, Nat.reduceLeDiff, Nat.reduceLT, Int.reduceNeg, Int.reduceToNat, Int.reduceAdd, Int.reduceSub, Int.reduceMul, Int.reduceLT, Int.reduceLE, Int.reduceEq, rX, dg_cells, dg_fold, List.drop_succ_cons, hc, hl]
  refine newK_intro fun l2 n2 => ?_
  obtain ⟨d21, e2⟩ := Hp.set_none n2
  simp (dsimp := false) (implicitDefEqProofs := false) (maxSteps := 1000000) (disch := first | omega | assumption | (simp only [rL, Nat.reduceAdd]; done) | (simp only [rL, Nat.reduceAdd]; omega)) only [↓rD, rU, ev, ofConst, ofCell, ↓reduceIte, Nat.reduceEqDiff, Nat.reduceAdd, Nat.reduceSub, Nat.reduceMul, Nat.reduceLeDiff, Nat.reduceLT, Int.reduceNeg, Int.reduceToNat, Int.reduceAdd, Int.reduceSub, Int.reduceMul, Int.reduceLT, Int.reduceLE, Int.reduceEq, rX, dg_cells, dg_fold, List.drop_succ_cons, hc, hl, Ne.symm d21, hf]
  refine call_intro (bdigest_spec n h d hh hd _) ?_
  rintro _ _ ⟨rfl, rfl⟩
  have hq := sha256_length (digPre n h d)
  generalize sha256 (digPre n h d) = e at *
  simp (dsimp := false) (implicitDefEqProofs := false) (maxSteps := 1000000) (disch := first | omega | assumption | (simp only [rL, Nat.reduceAdd]; done) | (simp only [rL, Nat.reduceAdd]; omega)) only [↓rD, rU, ev, ofConst, ofCell, ↓reduceIte, Nat.reduceEqDiff, Nat.reduceAdd, Nat.reduceSub, Nat.reduceMul, Nat.reduceLeDiff, Nat.reduceLT, Int.reduceNeg, Int.reduceToNat, Int.reduceAdd, Int.reduceSub, Int.reduceMul, Int.reduceLT, Int.reduceLE, Int.reduceEq, rX, dg_cells, dg_fold, List.drop_succ_cons, hq]
  exact ⟨s, Hp.sub_new (Hp.sub_new Hp.sub_refl n1) e2, rfl⟩
end Go.Proofs.Ytapjikladjoicaa
set_option maxRecDepth 100000
namespace Go.Proofs.Ytapjikladjoicaa
open Go Go.Av

def rightN (n : Int) : Bool := decide (0 ≤ n) && decide (n ≤ 1099511627776)
theorem opc0 {n : Int} {h d : List UInt8} : mkv false 1 (opC n h d) = .v (.int .i64 n) := rfl

theorem right_spec (n : Int) (h d : List UInt8) (hh : h.length = 32) (hd : d.length = 32) (s : Hp) :
    AC Try.prog 27 [OPV n h d] s fun r s' => s' = s ∧ r = .v (.bool (rightN n)) := by
  refine AC_run hm prep27 (by simp) ?_
  have hc : (OPV n h d).cells = opC n h d := rfl
  have hl := opC_length (n := n) hh hd
  simp (dsimp := false) (implicitDefEqProofs := false) (maxSteps := 1000000) (disch := first | omega | assumption | (simp only [rL, Nat.reduceAdd]; done) | (simp only [rL, Nat.reduceAdd]; omega)) only [↓rD, rU, ev, ofConst, ofCell, ↓reduceIte, Nat.reduceEqDiff, Nat.reduceAdd, Nat.reduceSub, Nat.reduceMul, Nat.reduceLeDiff, Nat.reduceLT, Int.reduceNeg, Int.reduceToNat, Int.reduceAdd, Int.reduceSub, Int.reduceMul, Int.reduceLT, Int.reduceLE, Int.reduceEq, rX, dg_cells, dg_fold, List.drop_succ_cons, hc, hl]
  refine newK_intro fun l1 n1 => ?_
  simp (dsimp := false) (implicitDefEqProofs := false) (maxSteps := 1000000) (disch := first | omega | assumption | (simp only [rL, Nat.reduceAdd]; done) | (simp only [rL, Nat.reduceAdd]; omega)) only [↓rD, rU, ev, ofConst, ofCell, ↓reduceIte, Nat.reduceEqDiff, Nat.reduceAdd, Nat.reduceSub, Nat.reduceMul, Nat.reduceLeDiff, Nat.reduceLT, Int.reduceNeg, Int.reduceToNat, Int.reduceAdd, Int.reduceSub, Int.reduceMul, Int.reduceLT, Int.reduceLE, Int.reduceEq, rX, dg_cells, dg_fold, List.drop_succ_cons, hc, hl, opc0]
  by_cases c : 0 ≤ n
  · simp (dsimp := false) (implicitDefEqProofs := false) (maxSteps := 1000000) (disch := first | omega | assumption | (simp only [rL, Nat.reduceAdd]; done) | (simp only [rL, Nat.reduceAdd]; omega)) only [↓rD, rU, ev, ofConst, ofCell, ↓reduceIte, Nat.reduceEqDiff, Nat.reduceAdd, Nat.reduceSub, Nat.reduceMul, Nat.reduceLeDiff, Nat.reduceLT, Int.reduceNeg, Int.reduceToNat, Int.reduceAdd, Int.reduceSub, Int.reduceMul, Int.reduceLT, Int.reduceLE, Int.reduceEq, rX, dg_cells, dg_fold, List.drop_succ_cons, hc, hl, opc0, c]
    exact ⟨s, Hp.sub_new Hp.sub_refl n1, rfl, by simp [rightN, c]⟩
  · simp (dsimp := false) (implicitDefEqProofs := false) (maxSteps := 1000000) (disch := first | omega | assumption | (simp only [rL, Nat.reduceAdd]; done) | (simp only [rL, Nat.reduceAdd]; omega)) only [↓rD, rU, ev, ofConst, ofCell, ↓reduceIte, Nat.reduceEqDiff, Nat.reduceAdd, Nat.reduceSub, Nat.reduceMul, Nat.reduceLeDiff, Nat.reduceLT, Int.reduceNeg, Int.reduceToNat, Int.reduceAdd, Int.reduceSub, Int.reduceMul, Int.reduceLT, Int.reduceLE, Int.reduceEq, rX, dg_cells, dg_fold, List.drop_succ_cons, hc, hl, opc0, c]
    exact ⟨s, Hp.sub_new Hp.sub_refl n1, rfl, by simp [rightN, c]⟩
end Go.Proofs.Ytapjikladjoicaa
set_option maxRecDepth 100000
namespace Go.Proofs.Ytapjikladjoicaa
open Go Go.Av

theorem op_zero : [AV.v (.int .i64 0)] ++ List.replicate 64 (.v (.int .u8 0)) = opC 0 zd zd := rfl
theorem opC_put0 {m n : Int} {h d : List UInt8} : putAt (opC m h d) 0 [.v (.int .i64 n)] = opC n h d := by simp [putAt, opC]
theorem opC_put1 {n : Int} {h d e : List UInt8} (hh : h.length = 32) (he : e.length = 32) : putAt (opC n h d) 1 (e.map byteAV) = opC n e d := by
  have h1 : (h.map byteAV).length = 32 := by simp [hh]
  simp [putAt, opC, he, List.drop_append, h1, List.drop_of_length_le]
theorem opC_put33 {n : Int} {h d e : List UInt8} (hh : h.length = 32) (hd : d.length = 32) (he : e.length = 32) : putAt (opC n h d) 33 (e.map byteAV) = opC n h e := by
  have h1 : (h.map byteAV).length = 32 := by simp [hh]
  simp [putAt, opC, he, hh, hd, h1, List.take_append, List.take_of_length_le, List.drop_of_length_le]

def headD (l : List (List UInt8)) (n : Nat) : List UInt8 := if n = 0 then zd else l.getD (n - 1) zd
theorem headD_length {l : List (List UInt8)} {n : Nat} (hd : Digs l) (hn : n ≤ l.length) : (headD l n).length = 32 := by
  unfold headD; split
  · rfl
  · have h : n - 1 < l.length := by omega
    simp only [List.getD, List.getElem?_eq_getElem h, Option.getD_some]
    exact hd _ (List.getElem_mem h)

theorem opened_spec (l : List (List UInt8)) (n : Nat) (o : Own) (s : Hp) (hn : n ≤ l.length) (hle : l.length ≤ 1000000) (hd : Digs l) :
    AC Try.prog 7 [.sl (l.map dg) o, .v (.int .i64 n)] s fun r s' => s' = s ∧ r = OPV n (rootD (l.take n)) (headD l n) := by
  refine AC_run hm prep7 (by simp) ?_
  rw [op_zero]
  have hall := hd.all
  have hle' : ((n : Nat) : Int) ≤ ((l.map dg).length : Nat) := by rw [List.length_map]; omega
  simp (dsimp := false) (implicitDefEqProofs := false) (maxSteps := 1000000) (disch := first | omega | assumption | (simp only [rL, Nat.reduceAdd]; done) | (simp only [rL, Nat.reduceAdd]; omega)) only [↓rD, rU, ev, ofConst, ofCell, ↓reduceIte, Nat.reduceEqDiff, Nat.reduceAdd, Nat.reduceSub, Nat.reduceMul, Nat.reduceLeDiff, Nat.reduceLT, Int.reduceNeg, Int.reduceToNat, Int.reduceAdd, Int.reduceSub, Int.reduceMul, Int.reduceLT, Int.reduceLE, Int.reduceEq, rX, dg_cells, dg_fold, List.drop_succ_cons]
  refine newK_intro fun l4 n4 => ?_
  simp (dsimp := false) (implicitDefEqProofs := false) (maxSteps := 1000000) (disch := first | omega | assumption | (simp only [rL, Nat.reduceAdd]; done) | (simp only [rL, Nat.reduceAdd]; omega)) only [↓rD, rU, ev, ofConst, ofCell, ↓reduceIte, Nat.reduceEqDiff, Nat.reduceAdd, Nat.reduceSub, Nat.reduceMul, Nat.reduceLeDiff, Nat.reduceLT, Int.reduceNeg, Int.reduceToNat, Int.reduceAdd, Int.reduceSub, Int.reduceMul, Int.reduceLT, Int.reduceLE, Int.reduceEq, rX, dg_cells, dg_fold, List.drop_succ_cons, mapd_take]
  refine call_intro (root_spec _ (l.take n) .any _ rfl (by rw [List.length_take]; omega) (hd.take n)) ?_
  rintro _ _ ⟨rfl, rfl⟩
  have hr := rootD_length (l.take n)
  generalize rootD (l.take n) = q at *
  have z0 : (opC 0 zd zd).length = 65 := rfl
  have z1 : (opC n zd zd).length = 65 := rfl
  have z2 : (opC n q zd).length = 65 := opC_length hr rfl
  simp (dsimp := false) (implicitDefEqProofs := false) (maxSteps := 1000000) (disch := first | omega | assumption | (simp only [rL, Nat.reduceAdd]; done) | (simp only [rL, Nat.reduceAdd]; omega)) only [↓rD, rU, ev, ofConst, ofCell, ↓reduceIte, Nat.reduceEqDiff, Nat.reduceAdd, Nat.reduceSub, Nat.reduceMul, Nat.reduceLeDiff, Nat.reduceLT, Int.reduceNeg, Int.reduceToNat, Int.reduceAdd, Int.reduceSub, Int.reduceMul, Int.reduceLT, Int.reduceLE, Int.reduceEq, rX, dg_cells, dg_fold, List.drop_succ_cons, z0, z1, z2, hr, opC_put0, opC_put1 zd_length hr]
  refine newK_intro fun l5 n5 => ?_
  obtain ⟨d54, e5⟩ := Hp.set_none n5
  have fin : ∀ x y : Ob, s.sub ((s.set l4 x).set l5 y) := fun x y => Hp.sub_new (Hp.sub_new Hp.sub_refl n4) e5
  have hcs (e : List UInt8) : (AV.agg (opC n q e)).cells = opC n q e := rfl
  by_cases h0 : n = 0
  · have c0 : ¬ (0 : Int) < (n : Nat) := by omega
    have hh : headD l n = zd := by rw [headD, if_pos h0]
    have tk : (opC n q zd).take 65 = opC n q zd := List.take_of_length_le (by rw [z2]; omega)
    simp (dsimp := false) (implicitDefEqProofs := false) (maxSteps := 1000000) (disch := first | omega | assumption | (simp only [rL, Nat.reduceAdd]; done) | (simp only [rL, Nat.reduceAdd]; omega)) only [↓rD, rU, ev, ofConst, ofCell, ↓reduceIte, Nat.reduceEqDiff, Nat.reduceAdd, Nat.reduceSub, Nat.reduceMul, Nat.reduceLeDiff, Nat.reduceLT, Int.reduceNeg, Int.reduceToNat, Int.reduceAdd, Int.reduceSub, Int.reduceMul, Int.reduceLT, Int.reduceLE, Int.reduceEq, rX, dg_cells, dg_fold, List.drop_succ_cons, z0, z2, hcs, c0, d54, Ne.symm d54, tk]
    exact ⟨s, fin _ _, rfl, by rw [hh]; rfl⟩
  · have c0 : (0 : Int) < (n : Nat) := by omega
    have hlt : n - 1 < l.length := by omega
    have hh : headD l n = l[n - 1] := by rw [headD, if_neg h0]; simp [List.getD, hlt]
    have en : (n : Int) - 1 = ((n - 1 : Nat) : Int) := by omega
    have he : (l.map dg)[n - 1]? = some (dg l[n - 1]) := by simp [hlt]
    have hx := hd l[n - 1] (List.getElem_mem hlt)
    rw [hh]
    generalize l[n - 1] = x at *
    have z3 : (opC n q x).length = 65 := opC_length hr hx
    have tk : (opC n q x).take 65 = opC n q x := List.take_of_length_le (by rw [z3]; omega)
    simp (dsimp := false) (implicitDefEqProofs := false) (maxSteps := 1000000) (disch := first | omega | assumption | (simp only [rL, Nat.reduceAdd]; done) | (simp only [rL, Nat.reduceAdd]; omega)) only [↓rD, rU, ev, ofConst, ofCell, ↓reduceIte, Nat.reduceEqDiff, Nat.reduceAdd, Nat.reduceSub, Nat.reduceMul, Nat.reduceLeDiff, Nat.reduceLT, Int.reduceNeg, Int.reduceToNat, Int.reduceAdd, Int.reduceSub, Int.reduceMul, Int.reduceLT, Int.reduceLE, Int.reduceEq, rX, dg_cells, dg_fold, List.drop_succ_cons, z0, z2, z3, hcs, tk, c0, d54, Ne.symm d54, en, iaSA_sl, he, elA_dg, hx, opC_put33 hr zd_length hx]
    exact ⟨s, fin _ _, rfl, rfl⟩
end Go.Proofs.Ytapjikladjoicaa
set_option maxRecDepth 100000
namespace Go.Proofs.Ytapjikladjoicaa
open Go Go.Av

/-- a follower's cells: opening, steps, fork -/
def FW (n : Int) (h d : List UInt8) (st : Int) (fk : AV) : List AV := opC n h d ++ [.v (.int .i64 st), fk]
theorem FW_length {n : Int} {h d : List UInt8} {st : Int} {fk : AV} (hh : h.length = 32) (hd : d.length = 32) : (FW n h d st fk).length = 67 := by simp [FW, opC, hh, hd]
theorem FW_op {n : Int} {h d : List UInt8} {st : Int} {fk : AV} (hh : h.length = 32) (hd : d.length = 32) : (FW n h d st fk).take 65 = opC n h d := by
  rw [FW, List.take_append_of_le_length (by rw [opC_length hh hd]; omega), List.take_of_length_le (by rw [opC_length hh hd]; omega)]
theorem FW_65 {n : Int} {h d : List UInt8} {st : Int} {fk : AV} (hh : h.length = 32) (hd : d.length = 32) : (FW n h d st fk).drop 65 = [.v (.int .i64 st), fk] := by
  rw [FW, show (65 : Nat) = (opC n h d).length from (opC_length hh hd).symm, List.drop_left]

theorem Steps_spec (s : Hp) (l : Nat) (n : Int) (h d : List UInt8) (st : Int) (fk : AV) (hh : h.length = 32) (hd : d.length = 32) (hs : s l = some (.cells (FW n h d st fk))) :
    AC Try.prog 13 [.ptr l 0] s fun r s' => s' = s ∧ r = .v (.int .i64 st) := by
  have hl := FW_length (n := n) (st := st) (fk := fk) hh hd
  refine AC_run hm prep13 (by simp) ?_
  simp (dsimp := false) (implicitDefEqProofs := false) (maxSteps := 1000000) (disch := first | omega | assumption | (simp only [rL, Nat.reduceAdd]; done) | (simp only [rL, Nat.reduceAdd]; omega)) only [↓rD, rU, ev, ofConst, ofCell, ↓reduceIte, Nat.reduceEqDiff, Nat.reduceAdd, Nat.reduceSub, Nat.reduceMul, Nat.reduceLeDiff, Nat.reduceLT, Int.reduceNeg, Int.reduceToNat, Int.reduceAdd, Int.reduceSub, Int.reduceMul, Int.reduceLT, Int.reduceLE, Int.reduceEq, rX, dg_cells, dg_fold, List.drop_succ_cons, Hp.read_of hs, hl, FW_65 hh hd]
  exact ⟨s, Hp.sub_refl, rfl⟩

theorem Opening_spec (s : Hp) (l : Nat) (n : Int) (h d : List UInt8) (st : Int) (fk : AV) (hh : h.length = 32) (hd : d.length = 32) (hs : s l = some (.cells (FW n h d st fk))) :
    AC Try.prog 11 [.ptr l 0] s fun r s' => s' = s ∧ r = OPV n h d := by
  have hl := FW_length (n := n) (st := st) (fk := fk) hh hd
  have hc : (AV.agg (opC n h d)).cells = opC n h d := rfl
  have ho := opC_length (n := n) hh hd
  have tk : (opC n h d).take 65 = opC n h d := List.take_of_length_le (by rw [ho]; omega)
  refine AC_run hm prep11 (by simp) ?_
  rw [op_zero]
  have z0 : (opC 0 zd zd).length = 65 := rfl
  simp (dsimp := false) (implicitDefEqProofs := false) (maxSteps := 1000000) (disch := first | omega | assumption | (simp only [rL, Nat.reduceAdd]; done) | (simp only [rL, Nat.reduceAdd]; omega)) only [↓rD, rU, ev, ofConst, ofCell, ↓reduceIte, Nat.reduceEqDiff, Nat.reduceAdd, Nat.reduceSub, Nat.reduceMul, Nat.reduceLeDiff, Nat.reduceLT, Int.reduceNeg, Int.reduceToNat, Int.reduceAdd, Int.reduceSub, Int.reduceMul, Int.reduceLT, Int.reduceLE, Int.reduceEq, rX, dg_cells, dg_fold, List.drop_succ_cons]
  refine newK_intro fun l2 n2 => ?_
  have d2 : l ≠ l2 := by rintro rfl; rw [n2] at hs; cases hs
  simp (dsimp := false) (implicitDefEqProofs := false) (maxSteps := 1000000) (disch := first | omega | assumption | (simp only [rL, Nat.reduceAdd]; done) | (simp only [rL, Nat.reduceAdd]; omega)) only [↓rD, rU, ev, ofConst, ofCell, ↓reduceIte, Nat.reduceEqDiff, Nat.reduceAdd, Nat.reduceSub, Nat.reduceMul, Nat.reduceLeDiff, Nat.reduceLT, Int.reduceNeg, Int.reduceToNat, Int.reduceAdd, Int.reduceSub, Int.reduceMul, Int.reduceLT, Int.reduceLE, Int.reduceEq, rX, dg_cells, dg_fold, List.drop_succ_cons, Hp.read_of hs, hl, d2, FW_op hh hd, hc, ho, z0, tk]
  exact ⟨s, Hp.sub_new Hp.sub_refl n2, rfl, rfl⟩
end Go.Proofs.Ytapjikladjoicaa
set_option maxRecDepth 100000
namespace Go.Proofs.Ytapjikladjoicaa
open Go Go.Av

/-- an opening's parts -/
structure Opn where
  n : Int
  h : List UInt8
  d : List UInt8
  deriving DecidableEq
def Opn.ok (o : Opn) : Prop := o.h.length = 32 ∧ o.d.length = 32
def Opn.C (o : Opn) : List AV := opC o.n o.h o.d
def Opn.V (o : Opn) : AV := OPV o.n o.h o.d
def Opn.sum (o : Opn) : List UInt8 := sha256 (digPre o.n o.h o.d)
/-- a follower -/
structure Fw where
  o : Opn
  st : Int
  fk : Option (Opn × Opn)
def Fw.ok (F : Fw) : Prop := F.o.ok ∧ ∀ a b, F.fk = some (a, b) → a.ok ∧ b.ok
def fwC (o : Opn) (st : Int) (p : AV) : List AV := FW o.n o.h o.d st p
theorem fwC_length {o : Opn} {st : Int} {p : AV} (ho : o.ok) : (fwC o st p).length = 67 := FW_length ho.1 ho.2
theorem fwC_op {o : Opn} {st : Int} {p : AV} (ho : o.ok) : (fwC o st p).take 65 = o.C := FW_op ho.1 ho.2
theorem fwC_65 {o : Opn} {st : Int} {p : AV} (ho : o.ok) : (fwC o st p).drop 65 = [.v (.int .i64 st), p] := FW_65 ho.1 ho.2
theorem fwC_66 {o : Opn} {st : Int} {p : AV} (ho : o.ok) : (fwC o st p).drop 66 = [p] := by
  rw [show (66 : Nat) = 65 + 1 from rfl, ← List.drop_drop, fwC_65 ho]; rfl
theorem Opn.lenC {o : Opn} (ho : o.ok) : o.C.length = 65 := opC_length ho.1 ho.2
theorem Opn.cells {o : Opn} : o.V.cells = o.C := rfl
theorem Opn.fold {o : Opn} (ho : o.ok) : (.agg (o.C.take 65) : AV) = o.V := op_fold ho.1 ho.2
theorem Opn.fold' {o : Opn} : (.agg o.C : AV) = o.V := rfl
/-- a follower at l, over the objects s0 -/
theorem fw_zero {o : Opn} (ho : o.ok) : putAt ([AV.v (Value.int IntKind.i64 0)] ++ List.replicate 64 (AV.v (Value.int IntKind.u8 0)) ++ [AV.v (Value.int IntKind.i64 0)] ++ [AV.v (Value.pointer none)]) 0 o.C = fwC o 0 (.v (.pointer none)) := by
  rw [putAt, Opn.lenC ho]; rfl
/-- a follower at l, over the objects s0 -/
def FS (s0 : Hp) (l : Nat) (F : Fw) (s : Hp) : Prop :=
  match F.fk with
  | none => (s0.set l (.cells (fwC F.o F.st (.v (.pointer none))))).sub s
  | some (a, b) => ∃ lf, s0 lf = none ∧ lf ≠ l ∧ ((s0.set l (.cells (fwC F.o F.st (.ptr lf 0)))).set lf (.cells (a.C ++ b.C))).sub s
theorem FS.get {s0 s : Hp} {l : Nat} {F : Fw} (h : FS s0 l F s) : ∃ p, s l = some (.cells (fwC F.o F.st p)) ∧ ((F.fk = none ∧ p = .v (.pointer none)) ∨ ∃ lf a b, F.fk = some (a, b) ∧ p = .ptr lf 0 ∧ s lf = some (.cells (a.C ++ b.C))) := by
  unfold FS at h
  split at h
  · rename_i e; exact ⟨_, h _ _ (Hp.set_same _ _ _), .inl ⟨e, rfl⟩⟩
  · rename_i a b e
    obtain ⟨lf, h1, h2, h3⟩ := h
    refine ⟨_, h3 _ _ ?_, .inr ⟨lf, a, b, e, rfl, h3 _ _ (Hp.set_same _ _ _)⟩⟩
    rw [Hp.set_ne _ _ (Ne.symm h2)]; exact Hp.set_same _ _ _
theorem FS.mono {s0 s s' : Hp} {l : Nat} {F : Fw} (h : FS s0 l F s) (hs : s.sub s') : FS s0 l F s' := by
  unfold FS at h ⊢
  split at h
  · exact Hp.sub_trans h hs
  · obtain ⟨lf, h1, h2, h3⟩ := h
    exact ⟨lf, h1, h2, Hp.sub_trans h3 hs⟩
theorem FS.sub {s0 s : Hp} {l : Nat} {F : Fw} (h : FS s0 l F s) (h0 : s0 l = none) : s0.sub s := by
  unfold FS at h
  split at h
  · exact Hp.sub_trans (Hp.sub_new Hp.sub_refl h0) h
  · obtain ⟨lf, h1, h2, h3⟩ := h
    refine Hp.sub_trans (Hp.sub_new (Hp.sub_new Hp.sub_refl h0) ?_) h3
    exact h1

theorem fdigest_spec (s : Hp) (l : Nat) (o : Opn) (st : Int) (p : AV) (ho : o.ok) (hs : s l = some (.cells (fwC o st p))) :
    AC Try.prog 28 [.ptr l 0] s fun r s' => s' = s ∧ r = dg o.sum := by
  have hl := fwC_length (st := st) (p := p) ho
  refine AC_run hm prep28 (by simp) ?_
  simp (dsimp := false) (implicitDefEqProofs := false) (maxSteps := 1000000) (disch := first | omega | assumption | (simp only [rL, Nat.reduceAdd]; done) | (simp only [rL, Nat.reduceAdd]; omega)) only [↓rD, rU, ev, ofConst, ofCell, ↓reduceIte, Nat.reduceEqDiff, Nat.reduceAdd, Nat.reduceSub, Nat.reduceMul, Nat.reduceLeDiff, Nat.reduceLT, Int.reduceNeg, Int.reduceToNat, Int.reduceAdd, Int.reduceSub, Int.reduceMul, Int.reduceLT, Int.reduceLE, Int.reduceEq, rX, dg_cells, dg_fold, List.drop_succ_cons]
  refine newK_intro fun l2 n2 => ?_
  have d2 : l ≠ l2 := by rintro rfl; rw [n2] at hs; cases hs
  simp (dsimp := false) (implicitDefEqProofs := false) (maxSteps := 1000000) (disch := first | omega | assumption | (simp only [rL, Nat.reduceAdd]; done) | (simp only [rL, Nat.reduceAdd]; omega)) only [↓rD, rU, ev, ofConst, ofCell, ↓reduceIte, Nat.reduceEqDiff, Nat.reduceAdd, Nat.reduceSub, Nat.reduceMul, Nat.reduceLeDiff, Nat.reduceLT, Int.reduceNeg, Int.reduceToNat, Int.reduceAdd, Int.reduceSub, Int.reduceMul, Int.reduceLT, Int.reduceLE, Int.reduceEq, rX, dg_cells, dg_fold, List.drop_succ_cons, Hp.read_of hs, hl, d2, fwC_op ho]
  refine call_intro (bdigest_spec o.n o.h o.d ho.1 ho.2 _) ?_
  rintro _ _ ⟨rfl, rfl⟩
  have hq := sha256_length (digPre o.n o.h o.d)
  unfold Opn.sum
  generalize sha256 (digPre o.n o.h o.d) = e at *
  simp (dsimp := false) (implicitDefEqProofs := false) (maxSteps := 1000000) (disch := first | omega | assumption | (simp only [rL, Nat.reduceAdd]; done) | (simp only [rL, Nat.reduceAdd]; omega)) only [↓rD, rU, ev, ofConst, ofCell, ↓reduceIte, Nat.reduceEqDiff, Nat.reduceAdd, Nat.reduceSub, Nat.reduceMul, Nat.reduceLeDiff, Nat.reduceLT, Int.reduceNeg, Int.reduceToNat, Int.reduceAdd, Int.reduceSub, Int.reduceMul, Int.reduceLT, Int.reduceLE, Int.reduceEq, rX, dg_cells, dg_fold, List.drop_succ_cons, hq]
  exact ⟨s, Hp.sub_new Hp.sub_refl n2, rfl⟩

theorem Follow_spec (d : List UInt8) (o : Opn) (hd : d.length = 32) (ho : o.ok) (s : Hp) :
    AC Try.prog 8 [dg d, o.V] s fun r s' =>
      if o.sum ≠ d then s' = s ∧ r = .tup [.v (.pointer none), .v (.int .i64 41)]
      else if rightN o.n = false then s' = s ∧ r = .tup [.v (.pointer none), .v (.int .i64 1)]
      else ∃ l, s l = none ∧ r = .tup [.ptr l 0, .v (.int .i64 0)] ∧ s' = s.set l (.cells (fwC o 0 (.v (.pointer none)))) := by
  refine AC_run hm prep8 (by simp) ?_
  have hc := Opn.cells (o := o)
  have hl := Opn.lenC ho
  have hf := Opn.fold ho
  simp (dsimp := false) (implicitDefEqProofs := false) (maxSteps := 1000000) (disch := first | omega | assumption | (simp only [rL, Nat.reduceAdd]; done) | (simp only [rL, Nat.reduceAdd]; omega)) only [↓rD, rU, ev, ofConst, ofCell, ↓reduceIte, Nat.reduceEqDiff, Nat.reduceAdd, Nat.reduceSub, Nat.reduceMul, Nat.reduceLeDiff, Nat.reduceLT, Int.reduceNeg, Int.reduceToNat, Int.reduceAdd, Int.reduceSub, Int.reduceMul, Int.reduceLT, Int.reduceLE, Int.reduceEq, rX, dg_cells, dg_fold, List.drop_succ_cons, hd]
  refine newK_intro fun l2 n2 => ?_
  simp (dsimp := false) (implicitDefEqProofs := false) (maxSteps := 1000000) (disch := first | omega | assumption | (simp only [rL, Nat.reduceAdd]; done) | (simp only [rL, Nat.reduceAdd]; omega)) only [↓rD, rU, ev, ofConst, ofCell, ↓reduceIte, Nat.reduceEqDiff, Nat.reduceAdd, Nat.reduceSub, Nat.reduceMul, Nat.reduceLeDiff, Nat.reduceLT, Int.reduceNeg, Int.reduceToNat, Int.reduceAdd, Int.reduceSub, Int.reduceMul, Int.reduceLT, Int.reduceLE, Int.reduceEq, rX, dg_cells, dg_fold, List.drop_succ_cons, hc, hl]
  refine newK_intro fun l3 n3 => ?_
  obtain ⟨d32, e3⟩ := Hp.set_none n3
  have fin := Hp.sub_new (o := .cells (o.C)) (Hp.sub_new (o := .cells (d.map byteAV)) (Hp.sub_refl (s := s)) n2) e3
  simp (dsimp := false) (implicitDefEqProofs := false) (maxSteps := 1000000) (disch := first | omega | assumption | (simp only [rL, Nat.reduceAdd]; done) | (simp only [rL, Nat.reduceAdd]; omega)) only [↓rD, rU, ev, ofConst, ofCell, ↓reduceIte, Nat.reduceEqDiff, Nat.reduceAdd, Nat.reduceSub, Nat.reduceMul, Nat.reduceLeDiff, Nat.reduceLT, Int.reduceNeg, Int.reduceToNat, Int.reduceAdd, Int.reduceSub, Int.reduceMul, Int.reduceLT, Int.reduceLE, Int.reduceEq, rX, dg_cells, dg_fold, List.drop_succ_cons, hc, hl, hf, hd, d32, Ne.symm d32]
  refine call_intro (bdigest_spec o.n o.h o.d ho.1 ho.2 _) ?_
  rintro _ _ ⟨rfl, rfl⟩
  have hq := sha256_length (digPre o.n o.h o.d)
  unfold Opn.sum
  generalize sha256 (digPre o.n o.h o.d) = e at *
  simp (dsimp := false) (implicitDefEqProofs := false) (maxSteps := 1000000) (disch := first | omega | assumption | (simp only [rL, Nat.reduceAdd]; done) | (simp only [rL, Nat.reduceAdd]; omega)) only [↓rD, rU, ev, ofConst, ofCell, ↓reduceIte, Nat.reduceEqDiff, Nat.reduceAdd, Nat.reduceSub, Nat.reduceMul, Nat.reduceLeDiff, Nat.reduceLT, Int.reduceNeg, Int.reduceToNat, Int.reduceAdd, Int.reduceSub, Int.reduceMul, Int.reduceLT, Int.reduceLE, Int.reduceEq, rX, dg_cells, dg_fold, List.drop_succ_cons, hc, hl, hf, hd, hq, d32, Ne.symm d32, eqvK_dg, Bool.true_xor]
  by_cases c : e = d
  · subst c
    simp (dsimp := false) (implicitDefEqProofs := false) (maxSteps := 1000000) (disch := first | omega | assumption | (simp only [rL, Nat.reduceAdd]; done) | (simp only [rL, Nat.reduceAdd]; omega)) only [↓rD, rU, ev, ofConst, ofCell, ↓reduceIte, Nat.reduceEqDiff, Nat.reduceAdd, Nat.reduceSub, Nat.reduceMul, Nat.reduceLeDiff, Nat.reduceLT, Int.reduceNeg, Int.reduceToNat, Int.reduceAdd, Int.reduceSub, Int.reduceMul, Int.reduceLT, Int.reduceLE, Int.reduceEq, rX, dg_cells, dg_fold, List.drop_succ_cons, decide_true, Bool.not_true, hc, hl, hf]
    refine call_intro (right_spec o.n o.h o.d ho.1 ho.2 _) ?_
    rintro _ _ ⟨rfl, rfl⟩
    cases hr : rightN o.n
    · simp (dsimp := false) (implicitDefEqProofs := false) (maxSteps := 1000000) (disch := first | omega | assumption | (simp only [rL, Nat.reduceAdd]; done) | (simp only [rL, Nat.reduceAdd]; omega)) only [↓rD, rU, ev, ofConst, ofCell, ↓reduceIte, Nat.reduceEqDiff, Nat.reduceAdd, Nat.reduceSub, Nat.reduceMul, Nat.reduceLeDiff, Nat.reduceLT, Int.reduceNeg, Int.reduceToNat, Int.reduceAdd, Int.reduceSub, Int.reduceMul, Int.reduceLT, Int.reduceLE, Int.reduceEq, rX, dg_cells, dg_fold, List.drop_succ_cons, Bool.not_false]
      exact ⟨s, fin, by simp⟩
    · have hz := fw_zero ho
      have hz1 := fwC_length (st := 0) (p := .v (.pointer none)) ho
      simp (dsimp := false) (implicitDefEqProofs := false) (maxSteps := 1000000) (disch := first | omega | assumption | (simp only [rL, Nat.reduceAdd]; done) | (simp only [rL, Nat.reduceAdd]; omega)) only [↓rD, rU, ev, ofConst, ofCell, ↓reduceIte, Nat.reduceEqDiff, Nat.reduceAdd, Nat.reduceSub, Nat.reduceMul, Nat.reduceLeDiff, Nat.reduceLT, Int.reduceNeg, Int.reduceToNat, Int.reduceAdd, Int.reduceSub, Int.reduceMul, Int.reduceLT, Int.reduceLE, Int.reduceEq, rX, dg_cells, dg_fold, List.drop_succ_cons, Bool.not_true, hc, hl, hf, hz, hz1]
      refine newK_intro fun l4 n4 => ?_
      obtain ⟨d43, n4⟩ := Hp.set_none n4
      obtain ⟨d42, n4⟩ := Hp.set_none n4
      simp (dsimp := false) (implicitDefEqProofs := false) (maxSteps := 1000000) (disch := first | omega | assumption | (simp only [rL, Nat.reduceAdd]; done) | (simp only [rL, Nat.reduceAdd]; omega)) only [↓rD, rU, ev, ofConst, ofCell, ↓reduceIte, Nat.reduceEqDiff, Nat.reduceAdd, Nat.reduceSub, Nat.reduceMul, Nat.reduceLeDiff, Nat.reduceLT, Int.reduceNeg, Int.reduceToNat, Int.reduceAdd, Int.reduceSub, Int.reduceMul, Int.reduceLT, Int.reduceLE, Int.reduceEq, rX, dg_cells, dg_fold, List.drop_succ_cons, hz1]
      refine ⟨s.set l4 (.cells (fwC o 0 (.v (.pointer none)))), ?_, ?_⟩
      · exact Hp.sub_set fin
      · simp only [ne_eq, not_true_eq_false, if_false, Bool.true_eq_false]; exact ⟨l4, n4, rfl, rfl⟩
  · simp (dsimp := false) (implicitDefEqProofs := false) (maxSteps := 1000000) (disch := first | omega | assumption | (simp only [rL, Nat.reduceAdd]; done) | (simp only [rL, Nat.reduceAdd]; omega)) only [↓rD, rU, ev, ofConst, ofCell, ↓reduceIte, Nat.reduceEqDiff, Nat.reduceAdd, Nat.reduceSub, Nat.reduceMul, Nat.reduceLeDiff, Nat.reduceLT, Int.reduceNeg, Int.reduceToNat, Int.reduceAdd, Int.reduceSub, Int.reduceMul, Int.reduceLT, Int.reduceLE, Int.reduceEq, rX, dg_cells, dg_fold, List.drop_succ_cons, c, decide_false, Bool.not_false]
    exact ⟨s, fin, by simp [c]⟩
end Go.Proofs.Ytapjikladjoicaa
set_option maxRecDepth 100000
namespace Go.Proofs.Ytapjikladjoicaa
open Go Go.Av

def keepF (F : Fw) (o : Opn) : Fw :=
  match F.fk with
  | none => { F with fk := some (o, F.o) }
  | some _ => F
theorem fwC_put66 {o : Opn} {st : Int} {p q : AV} (ho : o.ok) : putAt (fwC o st p) 66 [q] = fwC o st q := by
  have h := Opn.lenC ho
  have e : fwC o st p = o.C ++ [.v (.int .i64 st), p] := rfl
  rw [e, putAt, show (66 : Nat) = o.C.length + 1 by omega, List.take_append, List.take_of_length_le (by omega)]
  simp [fwC, FW, Opn.C, List.drop_of_length_le]
def opZ : List AV := .v (.int .i64 0) :: List.replicate 64 (.v (.int .u8 0))
theorem fk_zero {a : Opn} (ha : a.ok) : putAt ([AV.v (Value.int IntKind.i64 0)] ++ List.replicate 64 (AV.v (Value.int IntKind.u8 0)) ++ [AV.v (Value.int IntKind.i64 0)] ++ List.replicate 64 (AV.v (Value.int IntKind.u8 0))) 0 a.C = a.C ++ opZ := by
  rw [putAt, Opn.lenC ha]; rfl
theorem fk_zero1 {a b : Opn} (ha : a.ok) (hb : b.ok) : putAt (a.C ++ opZ) 65 b.C = a.C ++ b.C := by
  have h1 := Opn.lenC ha
  have h2 := Opn.lenC hb
  rw [putAt, ← h1, List.take_left, h2]
  simp [List.drop_append, h1, opZ, List.drop_of_length_le]

theorem keep_spec (s0 s : Hp) (l : Nat) (F : Fw) (o : Opn) (hF : F.o.ok) (ho : o.ok) (h0 : s0 l = none) (h : FS s0 l F s) :
    AC Try.prog 29 [.ptr l 0, o.V] s fun _ s' => FS s0 l (keepF F o) s' := by
  obtain ⟨p, hs, hp⟩ := h.get
  refine AC_run hm prep29 (by simp) ?_
  have hc := Opn.cells (o := o)
  have hc2 := Opn.cells (o := F.o)
  have hl := Opn.lenC ho
  have hl2 := Opn.lenC hF
  have hf := Opn.fold ho
  have hw := fwC_length (st := F.st) (p := p) hF
  simp (dsimp := false) (implicitDefEqProofs := false) (maxSteps := 1000000) (disch := first | omega | assumption | (simp only [rL, Nat.reduceAdd]; done) | (simp only [rL, Nat.reduceAdd]; omega)) only [↓rD, rU, ev, ofConst, ofCell, ↓reduceIte, Nat.reduceEqDiff, Nat.reduceAdd, Nat.reduceSub, Nat.reduceMul, Nat.reduceLeDiff, Nat.reduceLT, Int.reduceNeg, Int.reduceToNat, Int.reduceAdd, Int.reduceSub, Int.reduceMul, Int.reduceLT, Int.reduceLE, Int.reduceEq, rX, dg_cells, dg_fold, List.drop_succ_cons, hc, hl]
  refine newK_intro fun l3 n3 => ?_
  have d3 : l ≠ l3 := by rintro rfl; rw [n3] at hs; cases hs
  rcases hp with ⟨hk, rfl⟩ | ⟨lf, a, b, hk, rfl, hlf⟩
  · have hz := fk_zero ho
    have hz' := fk_zero1 ho hF
    have hz0 : (o.C ++ opZ).length = 130 := by simp [hl, opZ]
    have hz1 : (o.C ++ F.o.C).length = 130 := by simp [hl, hl2]
    simp (dsimp := false) (implicitDefEqProofs := false) (maxSteps := 1000000) (disch := first | omega | assumption | (simp only [rL, Nat.reduceAdd]; done) | (simp only [rL, Nat.reduceAdd]; omega)) only [↓rD, rU, ev, ofConst, ofCell, ↓reduceIte, Nat.reduceEqDiff, Nat.reduceAdd, Nat.reduceSub, Nat.reduceMul, Nat.reduceLeDiff, Nat.reduceLT, Int.reduceNeg, Int.reduceToNat, Int.reduceAdd, Int.reduceSub, Int.reduceMul, Int.reduceLT, Int.reduceLE, Int.reduceEq, rX, dg_cells, dg_fold, List.drop_succ_cons, Bool.not_false, Bool.not_true, Bool.false_xor, Bool.true_xor, Bool.true_and, Bool.false_and, decide_true, decide_false, Hp.read_of hs, hw, d3, fwC_66 hF, hc, hc2, hl, hl2, hf, fwC_op hF, Opn.fold', hz, hz', hz0, hz1]
    refine newK_intro fun l16 n16 => ?_
    obtain ⟨e163, n16⟩ := Hp.set_none n16
    have e16 : l ≠ l16 := by rintro rfl; rw [n16] at hs; cases hs
    simp (dsimp := false) (implicitDefEqProofs := false) (maxSteps := 1000000) (disch := first | omega | assumption | (simp only [rL, Nat.reduceAdd]; done) | (simp only [rL, Nat.reduceAdd]; omega)) only [↓rD, rU, ev, ofConst, ofCell, ↓reduceIte, Nat.reduceEqDiff, Nat.reduceAdd, Nat.reduceSub, Nat.reduceMul, Nat.reduceLeDiff, Nat.reduceLT, Int.reduceNeg, Int.reduceToNat, Int.reduceAdd, Int.reduceSub, Int.reduceMul, Int.reduceLT, Int.reduceLE, Int.reduceEq, rX, dg_cells, dg_fold, List.drop_succ_cons, Bool.not_false, Bool.not_true, Bool.false_xor, Bool.true_xor, Bool.true_and, Bool.false_and, decide_true, decide_false, Hp.read_of hs, Hp.stA_of hs, hw, d3, e16, fwC_66 hF, hz1, fwC_put66 hF]
    refine ⟨_, Hp.sub_refl, ?_⟩
    simp only [FS, hk] at h
    simp only [keepF, hk, FS]
    refine ⟨l16, ?_, Ne.symm e16, ?_⟩
    · exact Hp.sub_none (Hp.sub_trans (Hp.sub_new Hp.sub_refl h0) h) n16
    · rw [Hp.set_set_comm _ (Ne.symm e16)]
      refine Hp.sub_set ?_
      refine Hp.sub_trans (Hp.sub_set_of h) ?_
      rw [Hp.set_set_comm _ (Ne.symm d3)]
      exact Hp.sub_new Hp.sub_refl (by rw [Hp.set_ne _ _ (Ne.symm d3)]; exact n3)
  · simp (dsimp := false) (implicitDefEqProofs := false) (maxSteps := 1000000) (disch := first | omega | assumption | (simp only [rL, Nat.reduceAdd]; done) | (simp only [rL, Nat.reduceAdd]; omega)) only [↓rD, rU, ev, ofConst, ofCell, ↓reduceIte, Nat.reduceEqDiff, Nat.reduceAdd, Nat.reduceSub, Nat.reduceMul, Nat.reduceLeDiff, Nat.reduceLT, Int.reduceNeg, Int.reduceToNat, Int.reduceAdd, Int.reduceSub, Int.reduceMul, Int.reduceLT, Int.reduceLE, Int.reduceEq, rX, dg_cells, dg_fold, List.drop_succ_cons, Bool.not_false, Bool.not_true, Bool.false_xor, Bool.true_xor, Bool.true_and, Bool.false_and, decide_true, decide_false, Hp.read_of hs, hw, d3, fwC_66 hF]
    refine ⟨s, Hp.sub_new Hp.sub_refl n3, ?_⟩
    simp only [keepF, hk]; exact h
end Go.Proofs.Ytapjikladjoicaa
set_option maxRecDepth 100000
namespace Go.Proofs.Ytapjikladjoicaa
open Go Go.Av

def nextF (F : Fw) (d : List UInt8) (o : Opn) (g : List (List UInt8)) : Int × Fw :=
  if o.sum ≠ d then (41, F)
  else if d = F.o.sum then (0, F)
  else if rightN o.n = false then (42, F)
  else if o.n ≤ F.o.n then (42, keepF F o)
  else if growsF F.o.h F.o.n o.h o.n g = false then (42, F)
  else (0, { F with o := o, st := F.st + 1 })

theorem fwC_put0 {o o' : Opn} {st : Int} {p : AV} (ho : o.ok) (ho' : o'.ok) : putAt (fwC o st p) 0 o'.C = fwC o' st p := by
  have e : fwC o st p = o.C ++ [.v (.int .i64 st), p] := rfl
  rw [e, putAt, Opn.lenC ho', ← Opn.lenC ho, Nat.zero_add, List.drop_left]; rfl
theorem fwC_put65 {o : Opn} {st st' : Int} {p : AV} (ho : o.ok) : putAt (fwC o st p) 65 [.v (.int .i64 st')] = fwC o st' p := by
  have e : fwC o st p = o.C ++ [.v (.int .i64 st), p] := rfl
  rw [e, putAt, ← Opn.lenC ho, List.take_left]
  simp [fwC, FW, Opn.C]
theorem fwC_inj {o o' : Opn} {st st' : Int} {p p' : AV} (ho : o.ok) (ho' : o'.ok) (h : fwC o st p = fwC o' st' p') : p = p' := by
  have h2 := congrArg (List.drop 66) h
  rw [fwC_66 ho, fwC_66 ho'] at h2
  simpa using h2
theorem FS.setl {s0 s : Hp} {l : Nat} {F : Fw} {p : AV} (o : Opn) (st : Int) (hF : F.o.ok) (h : FS s0 l F s) (hs : s l = some (.cells (fwC F.o F.st p))) :
    FS s0 l { F with o := o, st := st } (s.set l (.cells (fwC o st p))) := by
  obtain ⟨Fo, Fst, fk⟩ := F
  cases fk with
  | none =>
    simp only [FS] at h ⊢
    have := h _ _ (Hp.set_same _ _ _)
    rw [hs] at this
    have hp := fwC_inj hF hF (Ob.cells.inj (Option.some.inj this))
    subst hp
    exact Hp.sub_set_of h
  | some ab =>
    obtain ⟨a, b⟩ := ab
    simp only [FS] at h ⊢
    obtain ⟨lf, h1, h2, h3⟩ := h
    have := h3 l _ (by rw [Hp.set_ne _ _ (Ne.symm h2)]; exact Hp.set_same _ _ _)
    rw [hs] at this
    have hp := fwC_inj hF hF (Ob.cells.inj (Option.some.inj this))
    subst hp
    refine ⟨lf, h1, h2, ?_⟩
    rw [Hp.set_set_comm _ (Ne.symm h2)] at h3 ⊢
    exact Hp.sub_set_of h3

theorem Opn.m0 {o : Opn} : mkv false 1 o.C = .v (.int .i64 o.n) := rfl
theorem fwC_m0 {o : Opn} {st : Int} {p : AV} : mkv false 1 (fwC o st p) = .v (.int .i64 o.n) := rfl
theorem Opn.h32 {o : Opn} (ho : o.ok) : (o.C.drop 1).take 32 = o.h.map byteAV := opC_h ho.1
theorem fwC_h32 {o : Opn} {st : Int} {p : AV} (ho : o.ok) : ((fwC o st p).drop 1).take 32 = o.h.map byteAV := by
  have e : fwC o st p = o.C ++ [.v (.int .i64 st), p] := rfl
  rw [e, List.drop_append_of_le_length (by rw [Opn.lenC ho]; omega), List.take_append_of_le_length (by rw [List.length_drop, Opn.lenC ho]; omega), Opn.h32 ho]
theorem dg_fold' {d : List UInt8} : (.agg (d.map byteAV) : AV) = dg d := rfl

theorem Next_spec (s0 s : Hp) (l : Nat) (F : Fw) (d : List UInt8) (o : Opn) (g : List (List UInt8)) (ow : Own) (hd : d.length = 32) (hF : F.o.ok) (ho : o.ok) (hg : Digs g) (hgl : g.length ≤ 400000) (hst : 0 ≤ F.st ∧ F.st ≤ 1000000) (h0 : s0 l = none) (h : FS s0 l F s) :
    AC Try.prog 10 [.ptr l 0, dg d, o.V, .sl (g.map dg) ow] s fun r s' => r = .v (.int .i64 (nextF F d o g).1) ∧ FS s0 l (nextF F d o g).2 s' := by
  obtain ⟨p, hs, hp⟩ := h.get
  refine AC_run hm prep10 (by simp) ?_
  have hc := Opn.cells (o := o)
  have hl := Opn.lenC ho
  have hf := Opn.fold ho
  have hw := fwC_length (st := F.st) (p := p) hF
  simp (dsimp := false) (implicitDefEqProofs := false) (maxSteps := 1000000) (disch := first | omega | assumption | (simp only [rL, Nat.reduceAdd]; done) | (simp only [rL, Nat.reduceAdd]; omega)) only [↓rD, rU, ev, ofConst, ofCell, ↓reduceIte, Nat.reduceEqDiff, Nat.reduceAdd, Nat.reduceSub, Nat.reduceMul, Nat.reduceLeDiff, Nat.reduceLT, Int.reduceNeg, Int.reduceToNat, Int.reduceAdd, Int.reduceSub, Int.reduceMul, Int.reduceLT, Int.reduceLE, Int.reduceEq, rX, dg_cells, dg_fold, List.drop_succ_cons, Bool.not_false, Bool.not_true, Bool.false_xor, Bool.true_xor, Bool.true_and, Bool.false_and, decide_true, decide_false, hd]
  refine newK_intro fun l5 n5 => ?_
  have d5 : l ≠ l5 := by rintro rfl; rw [n5] at hs; cases hs
  simp (dsimp := false) (implicitDefEqProofs := false) (maxSteps := 1000000) (disch := first | omega | assumption | (simp only [rL, Nat.reduceAdd]; done) | (simp only [rL, Nat.reduceAdd]; omega)) only [↓rD, rU, ev, ofConst, ofCell, ↓reduceIte, Nat.reduceEqDiff, Nat.reduceAdd, Nat.reduceSub, Nat.reduceMul, Nat.reduceLeDiff, Nat.reduceLT, Int.reduceNeg, Int.reduceToNat, Int.reduceAdd, Int.reduceSub, Int.reduceMul, Int.reduceLT, Int.reduceLE, Int.reduceEq, rX, dg_cells, dg_fold, List.drop_succ_cons, Bool.not_false, Bool.not_true, Bool.false_xor, Bool.true_xor, Bool.true_and, Bool.false_and, decide_true, decide_false, hd, hc, hl]
  refine newK_intro fun l6 n6 => ?_
  obtain ⟨d65, n6⟩ := Hp.set_none n6
  have d6 : l ≠ l6 := by rintro rfl; rw [n6] at hs; cases hs
  have hsub := Hp.sub_new (o := .cells o.C) (Hp.sub_new (o := .cells (d.map byteAV)) (Hp.sub_refl (s := s)) n5) n6
  simp (dsimp := false) (implicitDefEqProofs := false) (maxSteps := 1000000) (disch := first | omega | assumption | (simp only [rL, Nat.reduceAdd]; done) | (simp only [rL, Nat.reduceAdd]; omega)) only [↓rD, rU, ev, ofConst, ofCell, ↓reduceIte, Nat.reduceEqDiff, Nat.reduceAdd, Nat.reduceSub, Nat.reduceMul, Nat.reduceLeDiff, Nat.reduceLT, Int.reduceNeg, Int.reduceToNat, Int.reduceAdd, Int.reduceSub, Int.reduceMul, Int.reduceLT, Int.reduceLE, Int.reduceEq, rX, dg_cells, dg_fold, List.drop_succ_cons, Bool.not_false, Bool.not_true, Bool.false_xor, Bool.true_xor, Bool.true_and, Bool.false_and, decide_true, decide_false, hc, hl, hf, hd, d65, Ne.symm d65]
  refine call_intro (bdigest_spec o.n o.h o.d ho.1 ho.2 _) ?_
  rintro _ _ ⟨rfl, rfl⟩
  have hq := sha256_length (digPre o.n o.h o.d)
  have eq : sha256 (digPre o.n o.h o.d) = o.sum := rfl
  rw [eq] at hq ⊢
  simp (dsimp := false) (implicitDefEqProofs := false) (maxSteps := 1000000) (disch := first | omega | assumption | (simp only [rL, Nat.reduceAdd]; done) | (simp only [rL, Nat.reduceAdd]; omega)) only [↓rD, rU, ev, ofConst, ofCell, ↓reduceIte, Nat.reduceEqDiff, Nat.reduceAdd, Nat.reduceSub, Nat.reduceMul, Nat.reduceLeDiff, Nat.reduceLT, Int.reduceNeg, Int.reduceToNat, Int.reduceAdd, Int.reduceSub, Int.reduceMul, Int.reduceLT, Int.reduceLE, Int.reduceEq, rX, dg_cells, dg_fold, List.drop_succ_cons, Bool.not_false, Bool.not_true, Bool.false_xor, Bool.true_xor, Bool.true_and, Bool.false_and, decide_true, decide_false, hc, hl, hf, hd, hq, d65, Ne.symm d65, eqvK_dg]
  by_cases c1 : o.sum = d
  · simp (dsimp := false) (implicitDefEqProofs := false) (maxSteps := 1000000) (disch := first | omega | assumption | (simp only [rL, Nat.reduceAdd]; done) | (simp only [rL, Nat.reduceAdd]; omega)) only [↓rD, rU, ev, ofConst, ofCell, ↓reduceIte, Nat.reduceEqDiff, Nat.reduceAdd, Nat.reduceSub, Nat.reduceMul, Nat.reduceLeDiff, Nat.reduceLT, Int.reduceNeg, Int.reduceToNat, Int.reduceAdd, Int.reduceSub, Int.reduceMul, Int.reduceLT, Int.reduceLE, Int.reduceEq, rX, dg_cells, dg_fold, List.drop_succ_cons, Bool.not_false, Bool.not_true, Bool.false_xor, Bool.true_xor, Bool.true_and, Bool.false_and, decide_true, decide_false, c1, hd, d65, Ne.symm d65]
    refine call_intro (fdigest_spec _ l F.o F.st p hF (by rw [Hp.set_ne _ _ d6, Hp.set_ne _ _ d5]; exact hs)) ?_
    rintro _ _ ⟨rfl, rfl⟩
    have hq2 : F.o.sum.length = 32 := sha256_length _
    simp (dsimp := false) (implicitDefEqProofs := false) (maxSteps := 1000000) (disch := first | omega | assumption | (simp only [rL, Nat.reduceAdd]; done) | (simp only [rL, Nat.reduceAdd]; omega)) only [↓rD, rU, ev, ofConst, ofCell, ↓reduceIte, Nat.reduceEqDiff, Nat.reduceAdd, Nat.reduceSub, Nat.reduceMul, Nat.reduceLeDiff, Nat.reduceLT, Int.reduceNeg, Int.reduceToNat, Int.reduceAdd, Int.reduceSub, Int.reduceMul, Int.reduceLT, Int.reduceLE, Int.reduceEq, rX, dg_cells, dg_fold, List.drop_succ_cons, Bool.not_false, Bool.not_true, Bool.false_xor, Bool.true_xor, Bool.true_and, Bool.false_and, decide_true, decide_false, hd, hq2, d65, Ne.symm d65, eqvK_dg]
    by_cases c2 : d = F.o.sum
    · have e : nextF F d o g = (0, F) := by rw [nextF, if_neg (by simpa using c1), if_pos c2]
      rw [e]
      rw [← c2]
      simp (dsimp := false) (implicitDefEqProofs := false) (maxSteps := 1000000) (disch := first | omega | assumption | (simp only [rL, Nat.reduceAdd]; done) | (simp only [rL, Nat.reduceAdd]; omega)) only [↓rD, rU, ev, ofConst, ofCell, ↓reduceIte, Nat.reduceEqDiff, Nat.reduceAdd, Nat.reduceSub, Nat.reduceMul, Nat.reduceLeDiff, Nat.reduceLT, Int.reduceNeg, Int.reduceToNat, Int.reduceAdd, Int.reduceSub, Int.reduceMul, Int.reduceLT, Int.reduceLE, Int.reduceEq, rX, dg_cells, dg_fold, List.drop_succ_cons, Bool.not_false, Bool.not_true, Bool.false_xor, Bool.true_xor, Bool.true_and, Bool.false_and, decide_true, decide_false]
      exact ⟨_, Hp.sub_refl, h.mono hsub⟩
    · simp (dsimp := false) (implicitDefEqProofs := false) (maxSteps := 1000000) (disch := first | omega | assumption | (simp only [rL, Nat.reduceAdd]; done) | (simp only [rL, Nat.reduceAdd]; omega)) only [↓rD, rU, ev, ofConst, ofCell, ↓reduceIte, Nat.reduceEqDiff, Nat.reduceAdd, Nat.reduceSub, Nat.reduceMul, Nat.reduceLeDiff, Nat.reduceLT, Int.reduceNeg, Int.reduceToNat, Int.reduceAdd, Int.reduceSub, Int.reduceMul, Int.reduceLT, Int.reduceLE, Int.reduceEq, rX, dg_cells, dg_fold, List.drop_succ_cons, Bool.not_false, Bool.not_true, Bool.false_xor, Bool.true_xor, Bool.true_and, Bool.false_and, decide_true, decide_false, c2, hc, hl, hf]
      refine call_intro (right_spec o.n o.h o.d ho.1 ho.2 _) ?_
      rintro _ _ ⟨rfl, rfl⟩
      cases hr : rightN o.n
      · have e : nextF F d o g = (42, F) := by rw [nextF, if_neg (by simpa using c1), if_neg c2, if_pos hr]
        rw [e]
        simp (dsimp := false) (implicitDefEqProofs := false) (maxSteps := 1000000) (disch := first | omega | assumption | (simp only [rL, Nat.reduceAdd]; done) | (simp only [rL, Nat.reduceAdd]; omega)) only [↓rD, rU, ev, ofConst, ofCell, ↓reduceIte, Nat.reduceEqDiff, Nat.reduceAdd, Nat.reduceSub, Nat.reduceMul, Nat.reduceLeDiff, Nat.reduceLT, Int.reduceNeg, Int.reduceToNat, Int.reduceAdd, Int.reduceSub, Int.reduceMul, Int.reduceLT, Int.reduceLE, Int.reduceEq, rX, dg_cells, dg_fold, List.drop_succ_cons, Bool.not_false, Bool.not_true, Bool.false_xor, Bool.true_xor, Bool.true_and, Bool.false_and, decide_true, decide_false]
        exact ⟨_, Hp.sub_refl, h.mono hsub⟩
      · simp (dsimp := false) (implicitDefEqProofs := false) (maxSteps := 1000000) (disch := first | omega | assumption | (simp only [rL, Nat.reduceAdd]; done) | (simp only [rL, Nat.reduceAdd]; omega)) only [↓rD, rU, ev, ofConst, ofCell, ↓reduceIte, Nat.reduceEqDiff, Nat.reduceAdd, Nat.reduceSub, Nat.reduceMul, Nat.reduceLeDiff, Nat.reduceLT, Int.reduceNeg, Int.reduceToNat, Int.reduceAdd, Int.reduceSub, Int.reduceMul, Int.reduceLT, Int.reduceLE, Int.reduceEq, rX, dg_cells, dg_fold, List.drop_succ_cons, Bool.not_false, Bool.not_true, Bool.false_xor, Bool.true_xor, Bool.true_and, Bool.false_and, decide_true, decide_false, hc, hl, hf, Hp.read_of hs, d6, d5, Opn.m0, fwC_m0]
        by_cases c4 : o.n ≤ F.o.n
        · have e : nextF F d o g = (42, keepF F o) := by rw [nextF, if_neg (by simpa using c1), if_neg c2, if_neg (by simp [hr]), if_pos c4]
          rw [e]
          simp (dsimp := false) (implicitDefEqProofs := false) (maxSteps := 1000000) (disch := first | omega | assumption | (simp only [rL, Nat.reduceAdd]; done) | (simp only [rL, Nat.reduceAdd]; omega)) only [↓rD, rU, ev, ofConst, ofCell, ↓reduceIte, Nat.reduceEqDiff, Nat.reduceAdd, Nat.reduceSub, Nat.reduceMul, Nat.reduceLeDiff, Nat.reduceLT, Int.reduceNeg, Int.reduceToNat, Int.reduceAdd, Int.reduceSub, Int.reduceMul, Int.reduceLT, Int.reduceLE, Int.reduceEq, rX, dg_cells, dg_fold, List.drop_succ_cons, Bool.not_false, Bool.not_true, Bool.false_xor, Bool.true_xor, Bool.true_and, Bool.false_and, decide_true, decide_false, c4, hc, hl, hf]
          refine call_intro (keep_spec s0 _ l F o hF ho h0 (h.mono hsub)) ?_
          intro r s1 h1
          simp (dsimp := false) (implicitDefEqProofs := false) (maxSteps := 1000000) (disch := first | omega | assumption | (simp only [rL, Nat.reduceAdd]; done) | (simp only [rL, Nat.reduceAdd]; omega)) only [↓rD, rU, ev, ofConst, ofCell, ↓reduceIte, Nat.reduceEqDiff, Nat.reduceAdd, Nat.reduceSub, Nat.reduceMul, Nat.reduceLeDiff, Nat.reduceLT, Int.reduceNeg, Int.reduceToNat, Int.reduceAdd, Int.reduceSub, Int.reduceMul, Int.reduceLT, Int.reduceLE, Int.reduceEq, rX, dg_cells, dg_fold, List.drop_succ_cons, Bool.not_false, Bool.not_true, Bool.false_xor, Bool.true_xor, Bool.true_and, Bool.false_and, decide_true, decide_false]
          exact ⟨_, Hp.sub_refl, h1⟩
        · simp (dsimp := false) (implicitDefEqProofs := false) (maxSteps := 1000000) (disch := first | omega | assumption | (simp only [rL, Nat.reduceAdd]; done) | (simp only [rL, Nat.reduceAdd]; omega)) only [↓rD, rU, ev, ofConst, ofCell, ↓reduceIte, Nat.reduceEqDiff, Nat.reduceAdd, Nat.reduceSub, Nat.reduceMul, Nat.reduceLeDiff, Nat.reduceLT, Int.reduceNeg, Int.reduceToNat, Int.reduceAdd, Int.reduceSub, Int.reduceMul, Int.reduceLT, Int.reduceLE, Int.reduceEq, rX, dg_cells, dg_fold, List.drop_succ_cons, Bool.not_false, Bool.not_true, Bool.false_xor, Bool.true_xor, Bool.true_and, Bool.false_and, decide_true, decide_false, c4, hc, hl, hf, Hp.read_of hs, d6, d5, Opn.h32 ho, fwC_h32 hF, dg_fold', Opn.m0, fwC_m0, Nat.add_zero]
          refine call_intro (Grows_spec F.o.h F.o.n o.h o.n g ow _ hF.1 ho.1 hg hgl) ?_
          rintro _ _ ⟨rfl, rfl⟩
          cases hG : growsF F.o.h F.o.n o.h o.n g
          · have e : nextF F d o g = (42, F) := by rw [nextF, if_neg (by simpa using c1), if_neg c2, if_neg (by simp [hr]), if_neg c4, if_pos hG]
            rw [e]
            simp (dsimp := false) (implicitDefEqProofs := false) (maxSteps := 1000000) (disch := first | omega | assumption | (simp only [rL, Nat.reduceAdd]; done) | (simp only [rL, Nat.reduceAdd]; omega)) only [↓rD, rU, ev, ofConst, ofCell, ↓reduceIte, Nat.reduceEqDiff, Nat.reduceAdd, Nat.reduceSub, Nat.reduceMul, Nat.reduceLeDiff, Nat.reduceLT, Int.reduceNeg, Int.reduceToNat, Int.reduceAdd, Int.reduceSub, Int.reduceMul, Int.reduceLT, Int.reduceLE, Int.reduceEq, rX, dg_cells, dg_fold, List.drop_succ_cons, Bool.not_false, Bool.not_true, Bool.false_xor, Bool.true_xor, Bool.true_and, Bool.false_and, decide_true, decide_false]
            exact ⟨_, Hp.sub_refl, h.mono hsub⟩
          · have e : nextF F d o g = (0, { F with o := o, st := F.st + 1 }) := by rw [nextF, if_neg (by simpa using c1), if_neg c2, if_neg (by simp [hr]), if_neg c4, if_neg (by simp [hG])]
            rw [e]
            have hw2 := fwC_length (st := F.st) (p := p) ho
            have hset : ((s.set l5 (.cells (d.map byteAV))).set l6 (.cells o.C)).set l (.cells (fwC o (F.st + 1) p)) = ((s.set l (.cells (fwC o (F.st + 1) p))).set l5 (.cells (d.map byteAV))).set l6 (.cells o.C) := by
              rw [Hp.set_set_comm _ (Ne.symm d6), Hp.set_set_comm _ (Ne.symm d5)]
            simp (dsimp := false) (implicitDefEqProofs := false) (maxSteps := 1000000) (disch := first | omega | assumption | (simp only [rL, Nat.reduceAdd]; done) | (simp only [rL, Nat.reduceAdd]; omega)) only [↓rD, rU, ev, ofConst, ofCell, ↓reduceIte, Nat.reduceEqDiff, Nat.reduceAdd, Nat.reduceSub, Nat.reduceMul, Nat.reduceLeDiff, Nat.reduceLT, Int.reduceNeg, Int.reduceToNat, Int.reduceAdd, Int.reduceSub, Int.reduceMul, Int.reduceLT, Int.reduceLE, Int.reduceEq, rX, dg_cells, dg_fold, List.drop_succ_cons, Bool.not_false, Bool.not_true, Bool.false_xor, Bool.true_xor, Bool.true_and, Bool.false_and, decide_true, decide_false, hc, hl, hf, Hp.read_of hs, Hp.stA_of hs, d6, d5, hw, hw2, fwC_put0 hF ho, fwC_65 ho, fwC_put65 ho]
            refine ⟨_, Hp.sub_refl, ?_⟩
            rw [hset]
            exact (h.setl o (F.st + 1) hF hs).mono (Hp.sub_new (Hp.sub_new Hp.sub_refl (by rw [Hp.set_ne _ _ (Ne.symm d5)]; exact n5)) (by rw [Hp.set_ne _ _ (Ne.symm d6)]; exact n6))
  · have e : nextF F d o g = (41, F) := by rw [nextF, if_pos c1]
    rw [e]
    simp (dsimp := false) (implicitDefEqProofs := false) (maxSteps := 1000000) (disch := first | omega | assumption | (simp only [rL, Nat.reduceAdd]; done) | (simp only [rL, Nat.reduceAdd]; omega)) only [↓rD, rU, ev, ofConst, ofCell, ↓reduceIte, Nat.reduceEqDiff, Nat.reduceAdd, Nat.reduceSub, Nat.reduceMul, Nat.reduceLeDiff, Nat.reduceLT, Int.reduceNeg, Int.reduceToNat, Int.reduceAdd, Int.reduceSub, Int.reduceMul, Int.reduceLT, Int.reduceLE, Int.reduceEq, rX, dg_cells, dg_fold, List.drop_succ_cons, Bool.not_false, Bool.not_true, Bool.false_xor, Bool.true_xor, Bool.true_and, Bool.false_and, decide_true, decide_false, c1]
    exact ⟨_, Hp.sub_refl, h.mono hsub⟩
end Go.Proofs.Ytapjikladjoicaa
set_option maxRecDepth 100000
namespace Go.Proofs.Ytapjikladjoicaa
open Go Go.Av

def zo : Opn := ⟨0, zd, zd⟩
theorem zo_ok : zo.ok := ⟨rfl, rfl⟩
theorem zo_C : ([AV.v (.int .i64 0)] ++ List.replicate 64 (.v (.int .u8 0)) : List AV) = zo.C := rfl
def toldF (F : Fw) : Opn := match F.fk with | some (a, _) => a | none => zo
def thenF (F : Fw) : Opn := match F.fk with | some (_, b) => b | none => zo
theorem fk_at0 {a b : Opn} (ha : a.ok) : (a.C ++ b.C).take 65 = a.C := by rw [← Opn.lenC ha, List.take_left]
theorem fk_at1 {a b : Opn} (ha : a.ok) : (a.C ++ b.C).drop 65 = b.C := by rw [← Opn.lenC ha, List.drop_left]

theorem Fork_spec (s0 s : Hp) (l : Nat) (F : Fw) (hF : F.ok) (h : FS s0 l F s) :
    AC Try.prog 24 [.ptr l 0] s fun r s' => s' = s ∧ r = .tup [(toldF F).V, (thenF F).V, .v (.bool F.fk.isSome)] := by
  obtain ⟨p, hs, hp⟩ := h.get
  obtain ⟨hFo, hFk⟩ := hF
  refine AC_run hm prep24 (by simp) ?_
  have hw := fwC_length (st := F.st) (p := p) hFo
  have z0 : zo.C.length = 65 := rfl
  have z1 : (.agg (zo.C.take 65) : AV) = zo.V := Opn.fold zo_ok
  rw [zo_C]
  simp (dsimp := false) (implicitDefEqProofs := false) (maxSteps := 1000000) (disch := first | omega | assumption | (simp only [rL, Nat.reduceAdd]; done) | (simp only [rL, Nat.reduceAdd]; omega)) only [↓rD, rU, ev, ofConst, ofCell, ↓reduceIte, Nat.reduceEqDiff, Nat.reduceAdd, Nat.reduceSub, Nat.reduceMul, Nat.reduceLeDiff, Nat.reduceLT, Int.reduceNeg, Int.reduceToNat, Int.reduceAdd, Int.reduceSub, Int.reduceMul, Int.reduceLT, Int.reduceLE, Int.reduceEq, rX, dg_cells, dg_fold, List.drop_succ_cons, Bool.not_false, Bool.not_true, Bool.false_xor, Bool.true_xor, Bool.true_and, Bool.false_and, decide_true, decide_false, z0]
  refine newK_intro fun l2 n2 => ?_
  have d2 : l ≠ l2 := by rintro rfl; rw [n2] at hs; cases hs
  simp (dsimp := false) (implicitDefEqProofs := false) (maxSteps := 1000000) (disch := first | omega | assumption | (simp only [rL, Nat.reduceAdd]; done) | (simp only [rL, Nat.reduceAdd]; omega)) only [↓rD, rU, ev, ofConst, ofCell, ↓reduceIte, Nat.reduceEqDiff, Nat.reduceAdd, Nat.reduceSub, Nat.reduceMul, Nat.reduceLeDiff, Nat.reduceLT, Int.reduceNeg, Int.reduceToNat, Int.reduceAdd, Int.reduceSub, Int.reduceMul, Int.reduceLT, Int.reduceLE, Int.reduceEq, rX, dg_cells, dg_fold, List.drop_succ_cons, Bool.not_false, Bool.not_true, Bool.false_xor, Bool.true_xor, Bool.true_and, Bool.false_and, decide_true, decide_false, z0]
  refine newK_intro fun l3 n3 => ?_
  obtain ⟨d32, n3⟩ := Hp.set_none n3
  have d3 : l ≠ l3 := by rintro rfl; rw [n3] at hs; cases hs
  have hsub (x y : Ob) : s.sub ((s.set l2 x).set l3 y) := Hp.sub_new (Hp.sub_new (Hp.sub_refl (s := s)) n2) n3
  rcases hp with ⟨hk, rfl⟩ | ⟨lf, a, b, hk, rfl, hlf⟩
  · simp (dsimp := false) (implicitDefEqProofs := false) (maxSteps := 1000000) (disch := first | omega | assumption | (simp only [rL, Nat.reduceAdd]; done) | (simp only [rL, Nat.reduceAdd]; omega)) only [↓rD, rU, ev, ofConst, ofCell, ↓reduceIte, Nat.reduceEqDiff, Nat.reduceAdd, Nat.reduceSub, Nat.reduceMul, Nat.reduceLeDiff, Nat.reduceLT, Int.reduceNeg, Int.reduceToNat, Int.reduceAdd, Int.reduceSub, Int.reduceMul, Int.reduceLT, Int.reduceLE, Int.reduceEq, rX, dg_cells, dg_fold, List.drop_succ_cons, Bool.not_false, Bool.not_true, Bool.false_xor, Bool.true_xor, Bool.true_and, Bool.false_and, decide_true, decide_false, Hp.read_of hs, hw, d2, d3, d32, Ne.symm d32, fwC_66 hFo, z0]
    refine ⟨s, hsub _ _, rfl, ?_⟩
    rw [z1, toldF, thenF, hk]; rfl
  · obtain ⟨ha, hb⟩ := hFk a b hk
    have hla := Opn.lenC ha
    have hlb := Opn.lenC hb
    have hab : (a.C ++ b.C).length = 130 := by simp [hla, hlb]
    have hfb := Opn.fold hb
    have dl2 : lf ≠ l2 := by rintro rfl; rw [n2] at hlf; cases hlf
    have dl3 : lf ≠ l3 := by rintro rfl; rw [n3] at hlf; cases hlf
    have hca := Opn.cells (o := a)
    have hcb := Opn.cells (o := b)
    simp (dsimp := false) (implicitDefEqProofs := false) (maxSteps := 1000000) (disch := first | omega | assumption | (simp only [rL, Nat.reduceAdd]; done) | (simp only [rL, Nat.reduceAdd]; omega)) only [↓rD, rU, ev, ofConst, ofCell, ↓reduceIte, Nat.reduceEqDiff, Nat.reduceAdd, Nat.reduceSub, Nat.reduceMul, Nat.reduceLeDiff, Nat.reduceLT, Int.reduceNeg, Int.reduceToNat, Int.reduceAdd, Int.reduceSub, Int.reduceMul, Int.reduceLT, Int.reduceLE, Int.reduceEq, rX, dg_cells, dg_fold, List.drop_succ_cons, Bool.not_false, Bool.not_true, Bool.false_xor, Bool.true_xor, Bool.true_and, Bool.false_and, decide_true, decide_false, Hp.read_of hs, hw, d2, d3, d32, Ne.symm d32, fwC_66 hFo, z0, Hp.read_of hlf, dl2, dl3, hab, fk_at0 ha, fk_at1 ha, Opn.fold', hla, hlb, hca, hcb, hfb]
    refine ⟨s, hsub _ _, rfl, ?_⟩
    rw [Opn.fold ha, toldF, thenF, hk]; rfl
end Go.Proofs.Ytapjikladjoicaa
/-
  Running abstract code, continued: strings as lists of bytes, min and max, copies.
-/
namespace Go.Av
open Go

/-- a string -/
def strV (bs : List UInt8) : AV := .v (.string ⟨bs.toArray⟩)
theorem toList_loop (b : ByteArray) : ∀ (n i : Nat) (r : List UInt8), b.size - i = n → ByteArray.toList.loop b i r = r.reverse ++ b.data.toList.drop i
  | 0, i, r, h => by
    rw [ByteArray.toList.loop, if_neg (by omega), List.drop_of_length_le (by simp; exact Nat.le_of_sub_eq_zero h)]; simp
  | n + 1, i, r, h => by
    have hi : i < b.size := by omega
    have hi' : i < b.data.toList.length := by simpa using hi
    rw [ByteArray.toList.loop, if_pos hi, toList_loop b n (i + 1) _ (by omega), List.drop_eq_getElem_cons hi']
    have : b.get! i = b.data.toList[i] := by
      rw [ByteArray.get!]
      simp [hi]
    rw [this]; simp
theorem toList_data (b : ByteArray) : b.toList = b.data.toList := by
  rw [ByteArray.toList, toList_loop b _ 0 [] rfl]; simp
theorem toList_mk (bs : List UInt8) : (⟨bs.toArray⟩ : ByteArray).toList = bs := by rw [toList_data]
theorem eql_str (a b : List UInt8) : binV .eql (.string ⟨a.toArray⟩) (.string ⟨b.toArray⟩) = some (.bool (decide (a = b))) := by
  simp only [binV, binStr, toList_mk]; congr 2
  by_cases h : a = b <;> simp [h]
theorem neq_str (a b : List UInt8) : binV .neq (.string ⟨a.toArray⟩) (.string ⟨b.toArray⟩) = some (.bool (decide (a ≠ b))) := by
  simp only [binV, binStr, toList_mk]; congr 2
  by_cases h : a = b <;> simp [h]
theorem size_str (a : List UInt8) : (⟨a.toArray⟩ : ByteArray).size = a.length := by simp [ByteArray.size]
theorem append_str (a b : List UInt8) : ((⟨a.toArray⟩ : ByteArray) ++ ⟨b.toArray⟩) = ⟨(a ++ b).toArray⟩ := by
  apply ByteArray.ext; simp
theorem add_str (a b : List UInt8) (h : a.length + b.length ≤ 9223372036854775807) : binV .add (.string ⟨a.toArray⟩) (.string ⟨b.toArray⟩) = some (.string ⟨(a ++ b).toArray⟩) := by
  simp only [binV, binStr, size_str, if_pos h, append_str]

section
variable {P : Program} {f : Fr} {s : Hp} {Kv : AV → Hp → Prop}
theorem chkT_guard {d : Nat} {op : AOp} {g : Nat} {w : Bool} : chkT P ⟨some d, op, some (g, w)⟩ f s = guardK (f g) w (hidP (G P op f s (fun r _ => r = f d)) ()) (hidP ((.tup [] : AV) = f d) ()) := rfl
theorem Def_guard {d : Option Nat} {op : AOp} {g : Nat} {w : Bool} : Def P ⟨d, op, some (g, w)⟩ f = guardK (f g) w (hidP (G P op f Hp.emp (fun _ _ => True)) ()) (hidP True ()) := rfl
def b2sA (a : AV) : Option AV :=
  match a with
  | .sl xs _ => match bytesOf xs with
    | some l => some (.v (.string ⟨l.toArray⟩))
    | none => none
  | _ => none
theorem b2sA_map {bs : List UInt8} {o : Own} : b2sA (.sl (bs.map byteAV) o) = some (.v (.string ⟨bs.toArray⟩)) := by simp [b2sA, bytesOf_map]
theorem G_b2s {x : Operand} : G P (.b2s x) f s Kv = valK (b2sA (ev f x)) (hid1 (fun r => Kv r s) ()) := by
  simp only [G, b2sA]; generalize ev f x = a
  cases a <;> first | rfl | (rename_i xs o; simp only []; generalize bytesOf xs = c; cases c <;> rfl)
def mmA (mx : Bool) (a b : AV) : Option AV :=
  match a, b with
  | .v (.int k a), .v (.int k' b) => if k = k' then some (.v (.int k (if mx then max a b else min a b))) else none
  | _, _ => none
theorem mmA_max {k : IntKind} {a b : Int} : mmA true (.v (.int k a)) (.v (.int k b)) = some (.v (.int k (max a b))) := by simp [mmA]
theorem mmA_min {k : IntKind} {a b : Int} : mmA false (.v (.int k a)) (.v (.int k b)) = some (.v (.int k (min a b))) := by simp [mmA]
theorem G_mm {mx : Bool} {k : IntKind} {x y : Operand} : G P (.mm mx k x y) f s Kv = valK (mmA mx (ev f x) (ev f y)) (hid1 (fun r => Kv r s) ()) := by
  simp only [G, mmA]; generalize ev f x = a; generalize ev f y = b
  cases a <;> first
    | rfl
    | (rename_i v; cases v <;> first
        | rfl
        | (cases b <;> first
            | rfl
            | (rename_i w; cases w <;> first | rfl | (simp only [valK_ite, hid1_eq]))))
def lenTA (a : AV) : Option AV :=
  match a with
  | .v (.string t) => some (.v (.int .i64 t.size))
  | _ => none
theorem lenTA_str {bs : List UInt8} : lenTA (.v (.string ⟨bs.toArray⟩)) = some (.v (.int .i64 bs.length)) := by simp [lenTA, size_str]
theorem G_lenT {x : Operand} : G P (.lenT x) f s Kv = valK (lenTA (ev f x)) (hid1 (fun r => Kv r s) ()) := by
  simp only [G, lenTA]; generalize ev f x = a
  cases a <;> first | rfl | (rename_i v; cases v <;> rfl)
def slcSA (a : AV) (lo hi : Option AV) : Option AV :=
  match a with
  | .v (.string t) => match bO lo 0, bO hi t.size with
    | some a, some b => if 0 ≤ a ∧ a ≤ b ∧ b ≤ t.size then some (.v (.string (t.extract a.toNat b.toNat))) else none
    | _, _ => none
  | _ => none
theorem extract_str (bs : List UInt8) (i j : Nat) : (⟨bs.toArray⟩ : ByteArray).extract i j = ⟨((bs.take j).drop i).toArray⟩ := by
  apply ByteArray.ext
  simp only [ByteArray.data_extract]
  simp [List.drop_take]
theorem slcSA_lo {bs : List UInt8} {k : IntKind} {a : Int} (h : 0 ≤ a) (h2 : a ≤ bs.length) : slcSA (.v (.string ⟨bs.toArray⟩)) (some (.v (.int k a))) none = some (.v (.string ⟨(bs.drop a.toNat).toArray⟩)) := by
  simp [slcSA, bO, intOf, size_str, h, h2, extract_str]
theorem slcSA_hi {bs : List UInt8} {k : IntKind} {b : Int} (h : 0 ≤ b) (h2 : b ≤ bs.length) : slcSA (.v (.string ⟨bs.toArray⟩)) none (some (.v (.int k b))) = some (.v (.string ⟨(bs.take b.toNat).toArray⟩)) := by
  simp [slcSA, bO, intOf, size_str, h, h2, extract_str]
theorem slcSA_both {bs : List UInt8} {k k' : IntKind} {a b : Int} (h : 0 ≤ a) (h1 : a ≤ b) (h2 : b ≤ bs.length) : slcSA (.v (.string ⟨bs.toArray⟩)) (some (.v (.int k a))) (some (.v (.int k' b))) = some (.v (.string ⟨((bs.take b.toNat).drop a.toNat).toArray⟩)) := by
  simp [slcSA, bO, intOf, size_str, h, h1, h2, extract_str]
theorem G_slcS {x : Operand} {lo hi : Option Operand} : G P (.slcS x lo hi) f s Kv = valK (slcSA (ev f x) (lo.map (ev f)) (hi.map (ev f))) (hid1 (fun r => Kv r s) ()) := by
  simp only [G, slcSA, bnd_bO]
  generalize ev f x = a; generalize lo.map (ev f) = p; generalize hi.map (ev f) = q
  cases a <;> try rfl
  rename_i v
  cases v <;> try rfl
  rename_i t
  simp only []
  generalize bO p 0 = u; generalize bO q t.size = w
  cases u <;> cases w <;> try rfl
  simp only [valK_ite, hid1_eq]
  apply propext; constructor
  · rintro ⟨h1, h2, h3, h5⟩; exact ⟨⟨h1, h2, h3⟩, h5⟩
  · rintro ⟨⟨h1, h2, h3⟩, h5⟩; exact ⟨h1, h2, h3, h5⟩
theorem idxSA_str {bs : List UInt8} {k : IntKind} {n : Int} (h : 0 ≤ n) (h2 : n < bs.length) : idxSA (.v (.string ⟨bs.toArray⟩)) (.v (.int k n)) = some (.v (.int .u8 (bs.getD n.toNat 0).toNat)) := by
  have h3 : n.toNat < bs.length := by omega
  have e : bs.getD n.toNat 0 = bs[n.toNat] := by simp [List.getD, h3]
  simp [idxSA, h, h3, e]
def cpyK (k : Nat) (s : Hp) (x y : AV) (C : AV → Hp → Prop) : Prop :=
  match x, y with
  | .msl l off n k', .sl ys _ => k' = k ∧ (∀ e ∈ ys, e.cells.length = k) ∧ match s l with
    | some (.cells cs) => off + n * k ≤ cs.length ∧ C (.v (.int .i64 (min ys.length n))) (s.set l (.cells (putAt cs off (flat (ys.take n)))))
    | _ => False
  | .mb l n _ k', .sl ys _ => k' = k ∧ (∀ e ∈ ys, e.cells.length = k) ∧ match s l with
    | some (.cells cs) => n * k ≤ cs.length ∧ C (.v (.int .i64 (min ys.length n))) (s.set l (.cells (putAt cs 0 (flat (ys.take n)))))
    | _ => False
  | _, _ => False
theorem G_cpy {k : Nat} {x y : Operand} : G P (.cpy k x y) f s Kv = cpyK k s (ev f x) (ev f y) (hid2 Kv ()) := rfl
theorem cpy_intro {k l off n : Nat} {ys cs : List AV} {o : Own} {C : AV → Hp → Prop} {d : Dep C} (h1 : allLen k ys) (h2 : s l = some (.cells cs)) (h3 : off + n * k ≤ cs.length)
    (hC : C (.v (.int .i64 (min ys.length n))) (s.set l (.cells (putAt cs off (flat (ys.take n)))))) : cpyK k s (.msl l off n k) (.sl ys o) (hid2 C d) := by
  refine ⟨rfl, h1, ?_⟩; rw [h2]; exact ⟨h3, hC⟩
/-- the mutable view of a whole array -/
def slcMA (k n : Nat) (s : Hp) (a : AV) (lo hi : Option AV) : Option AV :=
  match a with
  | .ptr l off => match bO lo 0, bO hi n with
    | some a, some b => match s.read l with
      | some cs => if 0 ≤ a ∧ a ≤ b ∧ b ≤ n ∧ off + n * k ≤ cs.length ∧ a < n then some (.msl l (off + a.toNat * k) (b.toNat - a.toNat) k) else none
      | none => none
    | _, _ => none
  | _ => none
theorem slcMA_all {k n l off : Nat} {cs : List AV} (h : s.read l = some cs) (h2 : off + n * k ≤ cs.length) (h3 : 0 < n) : slcMA k n s (.ptr l off) none none = some (.msl l off n k) := by
  simp [slcMA, bO, h, h2, h3]
theorem G_slcAm {k n : Nat} {x : Operand} {lo hi : Option Operand} : G P (.slcA k n x lo hi false) f s Kv = valK (slcMA k n s (ev f x) (lo.map (ev f)) (hi.map (ev f))) (hid1 (fun r => Kv r s) ()) := by
  simp only [G, slcMA, bnd_bO]; generalize ev f x = a
  generalize lo.map (ev f) = p; generalize hi.map (ev f) = q
  cases a <;> try rfl
  rename_i l off
  simp only []
  generalize bO p 0 = u; generalize bO q n = w; generalize s.read l = c
  cases u <;> cases w <;> cases c <;> first
    | rfl
    | (simp [valK]; done)
    | (simp only [valK_ite, hid1_eq, Bool.false_eq_true, if_false]
       apply propext; constructor
       · rintro ⟨h1, h2, h3, h4, h5, h6⟩; exact ⟨⟨h1, h2, h3, h4, h5⟩, h6⟩
       · rintro ⟨⟨h1, h2, h3, h4, h5⟩, h6⟩; exact ⟨h1, h2, h3, h4, h5, h6⟩)
def bslMK (k : Nat) (s : Hp) (vs0 : List AV) (C : AV → Hp → Prop) : Prop :=
  (∀ e ∈ vs0, e.cells.length = k) ∧ (if vs0.length = 0 then C (.sl [] .zero) s else ∀ g, s g = none → C (.mb g vs0.length vs0.length k) (s.set g (.cells (flat vs0))))
theorem G_bslM {k : Nat} {xs : List Operand} : G P (.bslM k xs) f s Kv = bslMK k s (xs.map (ev f)) (hid2 Kv ()) := by
  simp only [G, bslMK, hid2, List.length_map]
theorem bslM_nil {k : Nat} {C : AV → Hp → Prop} {d : Dep C} : bslMK k s [] (hid2 C d) = C (.sl [] .zero) s := by simp [bslMK, hid2]
theorem bslM_intro {k : Nat} {vs0 : List AV} {C : AV → Hp → Prop} {d : Dep C} (h1 : allLen k vs0) (h0 : vs0 ≠ []) (hk : ∀ g, s g = none → C (.mb g vs0.length vs0.length k) (s.set g (.cells (flat vs0)))) : bslMK k s vs0 (hid2 C d) := by
  refine ⟨h1, ?_⟩
  rw [if_neg (fun h => h0 (List.eq_nil_of_length_eq_zero h))]
  exact hk
def mksK (k bytes : Nat) (z : List AV) (s : Hp) (x y : AV) (C : AV → Hp → Prop) : Prop :=
  match x, y with
  | .v (.int _ n), .v (.int _ m) => n = m ∧ 0 ≤ n ∧ n ≤ 9223372036854775807 ∧ n * bytes ≤ 281474976710656 ∧ ∀ g, s g = none → C (.mb g n.toNat n.toNat k) (s.set g (.cells (List.replicate n.toNat z).flatten))
  | _, _ => False
theorem G_mks {k bytes : Nat} {z : List AV} {x y : Operand} : G P (.mks k bytes z x y) f s Kv = mksK k bytes z s (ev f x) (ev f y) (hid2 Kv ()) := rfl
theorem mks_intro {k bytes n : Nat} {z : List AV} {kd kd' : IntKind} {C : AV → Hp → Prop} {d : Dep C} (h1 : n * bytes ≤ 281474976710656) (h2 : n ≤ 9223372036854775807) (hk : ∀ g, s g = none → C (.mb g n n k) (s.set g (.cells (List.replicate n z).flatten))) :
    mksK k bytes z s (.v (.int kd (n : Int))) (.v (.int kd' (n : Int))) (hid2 C d) := ⟨rfl, by omega, by omega, by omega, fun g hg => by
  have := hk g hg
  simp only [hid2, Int.toNat_natCast]; exact this⟩
def appMK (k bytes : Nat) (s : Hp) (x y : AV) (C : AV → Hp → Prop) : Prop :=
  match srcF s k y with
  | some (m, ys) => match x with
    | .sl xs o => xs = [] ∧ (o = .nil ∨ o = .zero) ∧ m * bytes ≤ 140737488355328 ∧ m ≤ 9223372036854775807 ∧
      (if m = 0 then C (.sl [] o) s else ∀ g cap sp, s g = none → m ≤ cap → cap ≤ maxLen → sp.length = (cap - m) * k → C (.mb g m cap k) (s.set g (.cells (ys ++ sp))))
    | .mb l n cap k' => match s l with
      | some (.cells cs) => k' = k ∧ cs.length = cap * k ∧ (n + m) * bytes ≤ 140737488355328 ∧ n + m ≤ 9223372036854775807 ∧
        (if n + m ≤ cap then C (.mb l (n + m) cap k) (s.set l (.cells (putAt cs (n * k) ys)))
         else ∀ g cap' sp, s g = none → n + m ≤ cap' → cap' ≤ maxLen → sp.length = (cap' - (n + m)) * k → C (.mb g (n + m) cap' k) (s.set g (.cells (cs.take (n * k) ++ ys ++ sp))))
      | _ => False
    | _ => False
  | none => False
theorem G_appM {k bytes : Nat} {x y : Operand} : G P (.appM k bytes x y) f s Kv = appMK k bytes s (ev f x) (ev f y) (hid2 Kv ()) := rfl
/-- a slice that is being built, and may be written: its cells -/
def MO (s0 s : Hp) (k : Nat) (us : List AV) (a : AV) : Prop :=
  s0.sub s ∧ ((us = [] ∧ (a = .sl [] .nil ∨ a = .sl [] .zero)) ∨ ∃ l n cap cs, a = .mb l n cap k ∧ s0 l = none ∧ s l = some (.cells cs) ∧ cs.length = cap * k ∧ cs.take (n * k) = us ∧ us.length = n * k ∧ n ≤ cap ∧ cap ≤ maxLen)
theorem MO.nil {s0 s : Hp} {k : Nat} (h : s0.sub s) : MO s0 s k [] (.sl [] .nil) := ⟨h, .inl ⟨rfl, .inl rfl⟩⟩
theorem MO.zero {s0 s : Hp} {k : Nat} (h : s0.sub s) : MO s0 s k [] (.sl [] .zero) := ⟨h, .inl ⟨rfl, .inr rfl⟩⟩
theorem MO.mono {s0 s s' : Hp} {k : Nat} {us : List AV} {a : AV} (h : MO s0 s k us a) (hs : s.sub s') : MO s0 s' k us a := by
  obtain ⟨h1, h2⟩ := h
  refine ⟨Hp.sub_trans h1 hs, ?_⟩
  rcases h2 with h2 | ⟨l, n, cap, cs, q1, q2, q3, q4⟩
  · exact .inl h2
  · exact .inr ⟨l, n, cap, cs, q1, q2, hs _ _ q3, q4⟩
theorem MO.base {s0 s1 s : Hp} {k : Nat} {us : List AV} {a : AV} (h : MO s0 s k us a) (hs : s1.sub s0) : MO s1 s k us a := by
  obtain ⟨h1, h2⟩ := h
  refine ⟨Hp.sub_trans hs h1, ?_⟩
  rcases h2 with h2 | ⟨l, n, cap, cs, q1, q2, q3⟩
  · exact .inl h2
  · exact .inr ⟨l, n, cap, cs, q1, Hp.sub_none hs q2, q3⟩
/-- a new object -/
theorem MO.new {s0 s : Hp} {k l2 : Nat} {us : List AV} {a : AV} {ob : Ob} (h : MO s0 s k us a) (hl : s l2 = none) : MO (s0.set l2 ob) (s.set l2 ob) k us a := by
  obtain ⟨h1, h2⟩ := h
  refine ⟨Hp.sub_set h1, ?_⟩
  rcases h2 with h2 | ⟨l, n, cap, cs, q1, q2, q3, q4⟩
  · exact .inl h2
  · have hne : l ≠ l2 := by rintro rfl; rw [hl] at q3; cases q3
    exact .inr ⟨l, n, cap, cs, q1, by rw [Hp.set_ne _ _ hne]; exact q2, by rw [Hp.set_ne _ _ hne]; exact q3, q4⟩
theorem MO.src {s0 s : Hp} {k : Nat} {us : List AV} {a : AV} (h : MO s0 s k us a) : ∃ n, us.length = n * k ∧ srcF s k a = some (n, us) ∧ lenAA a = some (.v (.int .i64 n)) := by
  obtain ⟨h1, h2⟩ := h
  rcases h2 with ⟨rfl, rfl | rfl⟩ | ⟨l, n, cap, cs, rfl, q2, q3, q4, q5, q6, q7, q8⟩
  · exact ⟨0, by simp, rfl, rfl⟩
  · exact ⟨0, by simp, rfl, rfl⟩
  · refine ⟨n, q6, ?_, rfl⟩
    have : n * k ≤ cs.length := by rw [q4]; exact Nat.mul_le_mul_right _ q7
    simp [srcF, Hp.read_of q3, this, q5]
/-- APPEND, written through -/
theorem appM_own {s0 : Hp} {k bytes m : Nat} {us ys : List AV} {x y : AV} {C : AV → Hp → Prop} {d : Dep C} (h : MO s0 s k us x) (hk : 0 < k) (hs : srcF s k y = some (m, ys)) (hy : ys.length = m * k) (h3 : (us.length + ys.length) * bytes ≤ 140737488355328 * k) (h4 : us.length + ys.length ≤ 9223372036854775807)
    (hC : ∀ a' s', MO s0 s' k (us ++ ys) a' → C a' s') : appMK k bytes s x y (hid2 C d) := by
  obtain ⟨h1, h2⟩ := h
  unfold appMK
  rw [hs]
  simp only [hid2]
  have bnd : ∀ n, us.length = n * k → (n + m) * bytes ≤ 140737488355328 ∧ n + m ≤ 9223372036854775807 := by
    intro n hn
    have e : us.length + ys.length = (n + m) * k := by rw [hn, hy, Nat.add_mul]
    rw [e] at h3 h4
    constructor
    · have : (n + m) * bytes * k ≤ 140737488355328 * k := by rw [Nat.mul_assoc, Nat.mul_comm bytes k, ← Nat.mul_assoc]; exact h3
      exact Nat.le_of_mul_le_mul_right this hk
    · have : (n + m) * 1 ≤ (n + m) * k := Nat.mul_le_mul_left _ hk
      omega
  rcases h2 with ⟨rfl, ho⟩ | ⟨l, n, cap, cs, rfl, q2, q3, q4, q5, q6, q7, q8⟩
  · obtain ⟨b1, b2⟩ := bnd 0 (by simp)
    have main : ∀ o, (o = .nil ∨ o = .zero) → (([] : List AV) = [] ∧ (o = .nil ∨ o = .zero) ∧ m * bytes ≤ 140737488355328 ∧ m ≤ 9223372036854775807 ∧
      (if m = 0 then C (.sl [] o) s else ∀ g cap sp, s g = none → m ≤ cap → cap ≤ maxLen → sp.length = (cap - m) * k → C (.mb g m cap k) (s.set g (.cells (ys ++ sp))))) := by
      intro o hoo
      refine ⟨rfl, hoo, by simpa using b1, by omega, ?_⟩
      split
      · rename_i hm
        subst hm
        have : ys = [] := List.eq_nil_of_length_eq_zero (by simpa using hy)
        subst this
        refine hC _ _ ⟨h1, .inl ⟨rfl, ?_⟩⟩
        rcases hoo with rfl | rfl
        · exact .inl rfl
        · exact .inr rfl
      · intro g cap sp hg hc hcm hsp
        refine hC _ _ ⟨Hp.sub_new h1 (Hp.sub_none h1 hg), .inr ⟨g, m, cap, ys ++ sp, rfl, Hp.sub_none h1 hg, Hp.set_same _ _ _, ?_, ?_, by simpa using hy, hc, hcm⟩⟩
        · rw [List.length_append, hy, hsp, ← Nat.add_mul]; congr 1; omega
        · rw [← hy, List.take_left]; rfl
    rcases ho with rfl | rfl
    · exact main _ (.inl rfl)
    · exact main _ (.inr rfl)
  · obtain ⟨b1, b2⟩ := bnd n q6
    simp only [q3]
    refine ⟨trivial, q4, b1, b2, ?_⟩
    have hnk : (cs.take (n * k)).length = n * k := by rw [q5, q6]
    split
    · rename_i hroom
      have hfit : n * k + ys.length ≤ cs.length := by rw [hy, q4, ← Nat.add_mul]; exact Nat.mul_le_mul_right _ hroom
      refine hC _ _ ⟨Hp.sub_new h1 q2, .inr ⟨l, n + m, cap, _, rfl, q2, Hp.set_same _ _ _, ?_, ?_, by rw [List.length_append, q6, hy, Nat.add_mul], hroom, q8⟩⟩
      · rw [putAt_length _ _ _ hfit, q4]
      · have e : (n + m) * k = (cs.take (n * k) ++ ys).length := by rw [List.length_append, hnk, hy, Nat.add_mul]
        rw [putAt, e, List.take_left, q5]
    · intro g cap' sp hg hc hcm hsp
      refine hC _ _ ⟨Hp.sub_new h1 (Hp.sub_none h1 hg), .inr ⟨g, n + m, cap', _, rfl, Hp.sub_none h1 hg, Hp.set_same _ _ _, ?_, ?_, by rw [List.length_append, q6, hy, Nat.add_mul], hc, hcm⟩⟩
      · rw [List.length_append, List.length_append, hnk, hy, hsp, ← Nat.add_mul, ← Nat.add_mul]; congr 1; omega
      · have e : (n + m) * k = (cs.take (n * k) ++ ys).length := by rw [List.length_append, hnk, hy, Nat.add_mul]
        rw [e, List.take_left, q5]
theorem srcF_bytes {bs : List UInt8} {o : Own} : srcF s 1 (.sl (bs.map byteAV) o) = some (bs.length, bs.map byteAV) := by
  have : ((bs.map byteAV).all fun e => decide (e.cells.length = 1)) = true := by simp [byteAV, AV.cells]
  simp [srcF, this, flat_bytes]
def b2sMA (s : Hp) (a : AV) : Option AV :=
  match srcF s 1 a with
  | some (_, xs) => match bytesOf xs with
    | some l => some (.v (.string ⟨l.toArray⟩))
    | none => none
  | none => none
theorem G_b2sM {x : Operand} : G P (.b2sM x) f s Kv = valK (b2sMA s (ev f x)) (hid1 (fun r => Kv r s) ()) := by
  simp only [G, b2sMA]
  cases srcF s 1 (ev f x) with
  | none => rfl
  | some p =>
    obtain ⟨m, xs⟩ := p
    simp only
    cases bytesOf xs <;> rfl
theorem b2sMA_of {a : AV} {n : Nat} {bs : List UInt8} (h : srcF s 1 a = some (n, bs.map byteAV)) : b2sMA s a = some (.v (.string ⟨bs.toArray⟩)) := by simp [b2sMA, h, bytesOf_map]
def s2bA (a : AV) : Option AV :=
  match a with
  | .v (.string t) => some (.sl (t.data.toList.map byteAV) .any)
  | _ => none
theorem s2bA_str {bs : List UInt8} : s2bA (.v (.string ⟨bs.toArray⟩)) = some (.sl (bs.map byteAV) .any) := by simp [s2bA]
theorem G_s2b {x : Operand} : G P (.s2b x) f s Kv = valK (s2bA (ev f x)) (hid1 (fun r => Kv r s) ()) := by
  simp only [G, s2bA]; generalize ev f x = a
  cases a <;> first | rfl | (rename_i v; cases v <;> rfl)

/-! ### a slice that is written no more -/
theorem RV.frozen {H : PH} {w : World} {l n cap k : Nat} {cs : List AV} {v : Value} (hh : Holds H s w) (hl : s l = some (.ro cs)) (hn : n * k ≤ cs.length) (hv : RV H v (.mb l n cap k)) : RV H v (.sl (elemsOf k n cs) .any) := by
  obtain ⟨hone, vs, T, hb, hr, hH⟩ := hh.ob l _ hl
  have hsz : vs.size = cs.length := hr.1
  cases hv with
  | mb l n cap k hk hcap =>
    obtain ⟨e1, e2, e3⟩ := elemsOf_cells hk hn hone
    by_cases h0 : n = 0
    · subst h0
      have : elemsOf k 0 cs = [] := List.eq_nil_of_length_eq_zero e3
      rw [this]
      exact .slEmpty _ _ _ (fun h => by cases h) trivial
    · refine .sl l 0 n cap k (fun j => vs.getD j Go.undef) _ .any hk e3.symm hcap e1 ?_ ?_ ?_ trivial
      · intro c hc; rw [e2] at hc; exact hone c (List.mem_of_mem_take hc)
      · intro j hj; rw [Nat.zero_add]; exact hH j (by omega)
      · intro j u hu
        rw [e2] at hu
        have hj : j < n * k := by have := (List.getElem?_eq_some_iff.1 hu).1; simp at this; omega
        rw [List.getElem?_take_of_lt hj] at hu
        exact hr.2 j u hu
theorem AC.freeze {g : FuncId} {pre post : List AV} {l n cap k : Nat} {cs : List AV} {R : AV → Hp → Prop} (hl : s l = some (.cells cs)) (hn : n * k ≤ cs.length) (h : AC P g (pre ++ .sl (elemsOf k n cs) .any :: post) (s.set l (.ro cs)) R) : AC P g (pre ++ .mb l n cap k :: post) s R := by
  refine h.pre fun vs w H ha hh => ?_
  obtain ⟨H', st⟩ := Step.freeze hh hl
  refine ⟨H', ?_, st⟩
  have ha' := ha.mono st.le
  refine ⟨by rw [ha'.1]; simp, fun j u hu => ?_⟩
  by_cases hj : j = pre.length
  · subst hj
    have h1 := ha'.2 pre.length (.mb l n cap k) (by simp)
    have h2 : u = .sl (elemsOf k n cs) .any := by simpa using hu.symm
    subst h2
    exact RV.frozen st.holds (Hp.set_same _ _ _) hn h1
  · refine ha'.2 j u ?_
    rw [List.getElem?_append] at hu ⊢
    split
    · rename_i h1; rw [if_pos h1] at hu; exact hu
    · rename_i h1
      rw [if_neg h1] at hu
      obtain ⟨i, hi⟩ : ∃ i, j - pre.length = i + 1 := ⟨j - pre.length - 1, by omega⟩
      rw [hi] at hu ⊢
      simpa using hu
end
/-! bundles of the lemmas above, for 'simp' -/
def rF :=
  And.intro @G_bslM <|
  And.intro @G_appM <|
  And.intro @G_mks <|
  And.intro @G_b2sM <|
  And.intro @G_s2b <|
  And.intro @G_b2s <|
  And.intro @G_mm <|
  And.intro @G_lenT <|
  And.intro @G_slcS <|
  And.intro @G_cpy <|
  And.intro @G_slcAm <|
  And.intro @chkT_guard <|
  @Def_guard
def rG :=
  And.intro @s2bA_str <|
  And.intro @iaSA_mb <|
  And.intro @lenAA_mb <|
  And.intro @slcAA_mb <|
  And.intro @b2sA_map <|
  And.intro @mmA_max <|
  And.intro @mmA_min <|
  And.intro @lenTA_str <|
  And.intro @slcSA_lo <|
  And.intro @slcSA_hi <|
  And.intro @slcSA_both <|
  And.intro @slcMA_all <|
  And.intro @neq_str <|
  And.intro @eql_str <|
  And.intro @idxSA_str <|
  And.intro @ite_true.{1} <|
  And.intro @ite_false.{1} <|
  And.intro @Bool.not_false <|
  And.intro @Bool.not_true <|
  And.intro @Bool.false_xor <|
  And.intro @Bool.true_xor <|
  And.intro @Bool.true_and <|
  And.intro @Bool.false_and <|
  And.intro @decide_true <|
  @decide_false
end Go.Av
/-
  light.Follower.Save: a follower's bytes.
-/
set_option maxRecDepth 100000
namespace Go.Av
open Go
theorem slcRA_same {s : Hp} {n l : Nat} {cs : List AV} (h : cs.length = n) : slcRA 1 n (s.set l (.ro cs)) (.ptr l 0) = some (.sl cs .any) := slcRA_one (Hp.set_same _ _ _) h
end Go.Av
namespace Go.Proofs.Ytapjikladjoicaa
open Go Go.Av

theorem WS.mono {s0 s s' : Hp} {l : Nat} {bs : List UInt8} (h : WS s0 l bs s) (hs : s.sub s') : WS s0 l bs s' := by
  obtain ⟨ow, h⟩ := h; exact ⟨ow, h.mono hs⟩
theorem WS.sub {s0 s : Hp} {l : Nat} {bs : List UInt8} (h : WS s0 l bs s) (h0 : s0 l = none) : s0.sub s := by
  obtain ⟨ow, h⟩ := h; exact Hp.sub_trans (Hp.sub_new Hp.sub_refl h0) h.sub
theorem WS.base {s0 s1 s : Hp} {l : Nat} {bs : List UInt8} (h : WS s0 l bs s) (hs : s1.sub s0) : WS s1 l bs s := by
  obtain ⟨ow, h⟩ := h; exact ⟨ow, h.base (Hp.sub_set hs)⟩

theorem WS.cell {s0 s : Hp} {l : Nat} {bs : List UInt8} (h : WS s0 l bs s) : ∃ ow, s l = some (WC bs ow) := by
  obtain ⟨ow, h⟩ := h; exact ⟨ow, h.sub _ _ (Hp.set_same _ _ _)⟩
theorem WS.new {s0 s : Hp} {l l2 : Nat} {bs : List UInt8} {ob : Ob} (h : WS s0 l bs s) (h2 : s l2 = none) : l2 ≠ l ∧ s0 l2 = none ∧ WS (s0.set l2 ob) l bs (s.set l2 ob) := by
  obtain ⟨ow, hc⟩ := h.cell
  have hne : l2 ≠ l := by rintro rfl; rw [h2] at hc; cases hc
  obtain ⟨ow, h⟩ := h
  have h0 := Hp.sub_none h.sub h2
  rw [Hp.set_ne _ _ hne] at h0
  refine ⟨hne, h0, ow, ?_⟩
  rw [Hp.set_set_comm _ hne]
  exact h.new h2
theorem WS.get {s0 s : Hp} {l l2 : Nat} {bs : List UInt8} {ob : Ob} (h : WS s0 l bs s) (hne : l2 ≠ l) (h2 : s0 l2 = some ob) : s l2 = some ob := by
  obtain ⟨ow, h⟩ := h
  exact h.sub _ _ (by rw [Hp.set_ne _ _ hne]; exact h2)

theorem wtruth_spec (s0 s : Hp) (l : Nat) (bs : List UInt8) (b : Bool) (h : WS s0 l bs s) (hl : bs.length + 1 ≤ 70368744177664) :
    AC Try.prog 47 [.ptr l 0, .v (.bool b)] s fun _ s' => WS s0 l (bs ++ [if b then 1 else 0]) s' := by
  refine AC_run hm prep47 (by simp) ?_
  cases b
  · simp (dsimp := false) (implicitDefEqProofs := false) (maxSteps := 1000000) (disch := first | omega | assumption | (simp only [rL, Nat.reduceAdd]; done) | (simp only [rL, Nat.reduceAdd]; omega)) only [↓rD, rU, ev, ofConst, ofCell, ↓reduceIte, Nat.reduceEqDiff, Nat.reduceAdd, Nat.reduceSub, Nat.reduceMul, Nat.reduceLeDiff, Nat.reduceLT, Int.reduceNeg, Int.reduceToNat, Int.reduceAdd, Int.reduceSub, Int.reduceMul, Int.reduceLT, Int.reduceLE, Int.reduceEq, rX, dg_cells, dg_fold, List.drop_succ_cons, ↓rF, rG]
    refine call_intro (wbyte_spec s0 s l bs 0 h hl) ?_
    intro r s1 h1
    simp (dsimp := false) (implicitDefEqProofs := false) (maxSteps := 1000000) (disch := first | omega | assumption | (simp only [rL, Nat.reduceAdd]; done) | (simp only [rL, Nat.reduceAdd]; omega)) only [↓rD, rU, ev, ofConst, ofCell, ↓reduceIte, Nat.reduceEqDiff, Nat.reduceAdd, Nat.reduceSub, Nat.reduceMul, Nat.reduceLeDiff, Nat.reduceLT, Int.reduceNeg, Int.reduceToNat, Int.reduceAdd, Int.reduceSub, Int.reduceMul, Int.reduceLT, Int.reduceLE, Int.reduceEq, rX, dg_cells, dg_fold, List.drop_succ_cons, ↓rF, rG]
    exact ⟨_, Hp.sub_refl, h1⟩
  · simp (dsimp := false) (implicitDefEqProofs := false) (maxSteps := 1000000) (disch := first | omega | assumption | (simp only [rL, Nat.reduceAdd]; done) | (simp only [rL, Nat.reduceAdd]; omega)) only [↓rD, rU, ev, ofConst, ofCell, ↓reduceIte, Nat.reduceEqDiff, Nat.reduceAdd, Nat.reduceSub, Nat.reduceMul, Nat.reduceLeDiff, Nat.reduceLT, Int.reduceNeg, Int.reduceToNat, Int.reduceAdd, Int.reduceSub, Int.reduceMul, Int.reduceLT, Int.reduceLE, Int.reduceEq, rX, dg_cells, dg_fold, List.drop_succ_cons, ↓rF, rG]
    refine call_intro (wbyte_spec s0 s l bs 1 h hl) ?_
    intro r s1 h1
    simp (dsimp := false) (implicitDefEqProofs := false) (maxSteps := 1000000) (disch := first | omega | assumption | (simp only [rL, Nat.reduceAdd]; done) | (simp only [rL, Nat.reduceAdd]; omega)) only [↓rD, rU, ev, ofConst, ofCell, ↓reduceIte, Nat.reduceEqDiff, Nat.reduceAdd, Nat.reduceSub, Nat.reduceMul, Nat.reduceLeDiff, Nat.reduceLT, Int.reduceNeg, Int.reduceToNat, Int.reduceAdd, Int.reduceSub, Int.reduceMul, Int.reduceLT, Int.reduceLE, Int.reduceEq, rX, dg_cells, dg_fold, List.drop_succ_cons, ↓rF, rG]
    exact ⟨_, Hp.sub_refl, h1⟩

theorem wdigest_spec (s0 s : Hp) (l : Nat) (bs d : List UInt8) (hd : d.length = 32) (h : WS s0 l bs s) (hl : bs.length + 32 ≤ 70368744177664) :
    AC Try.prog 73 [.ptr l 0, dg d] s fun _ s' => WS s0 l (bs ++ d) s' := by
  refine AC_run hm prep73 (by simp) ?_
  simp (dsimp := false) (implicitDefEqProofs := false) (maxSteps := 1000000) (disch := first | omega | assumption | (simp only [rL, Nat.reduceAdd]; done) | (simp only [rL, Nat.reduceAdd]; omega)) only [↓rD, rU, ev, ofConst, ofCell, ↓reduceIte, Nat.reduceEqDiff, Nat.reduceAdd, Nat.reduceSub, Nat.reduceMul, Nat.reduceLeDiff, Nat.reduceLT, Int.reduceNeg, Int.reduceToNat, Int.reduceAdd, Int.reduceSub, Int.reduceMul, Int.reduceLT, Int.reduceLE, Int.reduceEq, rX, dg_cells, dg_fold, List.drop_succ_cons, ↓rF, rG, hd]
  refine newK_intro fun l3 n3 => ?_
  simp (dsimp := false) (implicitDefEqProofs := false) (maxSteps := 1000000) (disch := first | omega | assumption | (simp only [rL, Nat.reduceAdd]; done) | (simp only [rL, Nat.reduceAdd]; omega)) only [↓rD, rU, ev, ofConst, ofCell, ↓reduceIte, Nat.reduceEqDiff, Nat.reduceAdd, Nat.reduceSub, Nat.reduceMul, Nat.reduceLeDiff, Nat.reduceLT, Int.reduceNeg, Int.reduceToNat, Int.reduceAdd, Int.reduceSub, Int.reduceMul, Int.reduceLT, Int.reduceLE, Int.reduceEq, rX, dg_cells, dg_fold, List.drop_succ_cons, ↓rF, rG, hd, slcRA_same]
  refine call_intro (put_spec s0 _ l bs d .any (h.mono (Hp.sub_new Hp.sub_refl n3)) (by omega)) ?_
  intro r s1 h1
  simp (dsimp := false) (implicitDefEqProofs := false) (maxSteps := 1000000) (disch := first | omega | assumption | (simp only [rL, Nat.reduceAdd]; done) | (simp only [rL, Nat.reduceAdd]; omega)) only [↓rD, rU, ev, ofConst, ofCell, ↓reduceIte, Nat.reduceEqDiff, Nat.reduceAdd, Nat.reduceSub, Nat.reduceMul, Nat.reduceLeDiff, Nat.reduceLT, Int.reduceNeg, Int.reduceToNat, Int.reduceAdd, Int.reduceSub, Int.reduceMul, Int.reduceLT, Int.reduceLE, Int.reduceEq, rX, dg_cells, dg_fold, List.drop_succ_cons, ↓rF, rG]
  exact ⟨_, Hp.sub_refl, h1⟩

/-- an opening's bytes -/
def opB (o : Opn) : List UInt8 := numB o.n ++ o.h ++ o.d
theorem numB_length (n : Int) : (numB n).length = 8 := rfl
theorem opB_length {o : Opn} (h : o.ok) : (opB o).length = 72 := by simp [opB, numB_length, h.1, h.2]
theorem Opn.d32 {o : Opn} (ho : o.ok) : (o.C.drop 33).take 32 = o.d.map byteAV := opC_d ho.1 ho.2

theorem lput_spec (s0 s : Hp) (l : Nat) (bs : List UInt8) (o : Opn) (ho : o.ok) (h : WS s0 l bs s) (hl : bs.length ≤ 100000) :
    AC Try.prog 45 [.ptr l 0, o.V] s fun _ s' => WS s0 l (bs ++ opB o) s' := by
  refine AC_run hm prep45 (by simp) ?_
  have hc := Opn.cells (o := o)
  have hlo := Opn.lenC ho
  simp (dsimp := false) (implicitDefEqProofs := false) (maxSteps := 1000000) (disch := first | omega | assumption | (simp only [rL, Nat.reduceAdd]; done) | (simp only [rL, Nat.reduceAdd]; omega)) only [↓rD, rU, ev, ofConst, ofCell, ↓reduceIte, Nat.reduceEqDiff, Nat.reduceAdd, Nat.reduceSub, Nat.reduceMul, Nat.reduceLeDiff, Nat.reduceLT, Int.reduceNeg, Int.reduceToNat, Int.reduceAdd, Int.reduceSub, Int.reduceMul, Int.reduceLT, Int.reduceLE, Int.reduceEq, rX, dg_cells, dg_fold, List.drop_succ_cons, ↓rF, rG, hc, hlo]
  refine newK_intro fun l3 n3 => ?_
  obtain ⟨d3, e3, h⟩ := h.new (ob := .cells o.C) n3
  simp (dsimp := false) (implicitDefEqProofs := false) (maxSteps := 1000000) (disch := first | omega | assumption | (simp only [rL, Nat.reduceAdd]; done) | (simp only [rL, Nat.reduceAdd]; omega)) only [↓rD, rU, ev, ofConst, ofCell, ↓reduceIte, Nat.reduceEqDiff, Nat.reduceAdd, Nat.reduceSub, Nat.reduceMul, Nat.reduceLeDiff, Nat.reduceLT, Int.reduceNeg, Int.reduceToNat, Int.reduceAdd, Int.reduceSub, Int.reduceMul, Int.reduceLT, Int.reduceLE, Int.reduceEq, rX, dg_cells, dg_fold, List.drop_succ_cons, ↓rF, rG, hc, hlo, Opn.m0]
  refine call_intro (num_spec _ _ l bs o.n h (by omega)) ?_
  intro r s1 h1
  have g1 := h1.get d3 (Hp.set_same _ _ _)
  simp (dsimp := false) (implicitDefEqProofs := false) (maxSteps := 1000000) (disch := first | omega | assumption | (simp only [rL, Nat.reduceAdd]; done) | (simp only [rL, Nat.reduceAdd]; omega)) only [↓rD, rU, ev, ofConst, ofCell, ↓reduceIte, Nat.reduceEqDiff, Nat.reduceAdd, Nat.reduceSub, Nat.reduceMul, Nat.reduceLeDiff, Nat.reduceLT, Int.reduceNeg, Int.reduceToNat, Int.reduceAdd, Int.reduceSub, Int.reduceMul, Int.reduceLT, Int.reduceLE, Int.reduceEq, rX, dg_cells, dg_fold, List.drop_succ_cons, ↓rF, rG, hlo, Hp.read_of g1, Opn.h32 ho, dg_fold']
  refine call_intro (wdigest_spec _ _ l _ o.h ho.1 h1 (by simp [numB_length]; omega)) ?_
  intro r s2 h2
  have g2 := h2.get d3 (Hp.set_same _ _ _)
  simp (dsimp := false) (implicitDefEqProofs := false) (maxSteps := 1000000) (disch := first | omega | assumption | (simp only [rL, Nat.reduceAdd]; done) | (simp only [rL, Nat.reduceAdd]; omega)) only [↓rD, rU, ev, ofConst, ofCell, ↓reduceIte, Nat.reduceEqDiff, Nat.reduceAdd, Nat.reduceSub, Nat.reduceMul, Nat.reduceLeDiff, Nat.reduceLT, Int.reduceNeg, Int.reduceToNat, Int.reduceAdd, Int.reduceSub, Int.reduceMul, Int.reduceLT, Int.reduceLE, Int.reduceEq, rX, dg_cells, dg_fold, List.drop_succ_cons, ↓rF, rG, hlo, Hp.read_of g2, Opn.d32 ho, dg_fold']
  refine call_intro (wdigest_spec _ _ l _ o.d ho.2 h2 (by simp [numB_length, ho.1]; omega)) ?_
  intro r s3 h3
  simp (dsimp := false) (implicitDefEqProofs := false) (maxSteps := 1000000) (disch := first | omega | assumption | (simp only [rL, Nat.reduceAdd]; done) | (simp only [rL, Nat.reduceAdd]; omega)) only [↓rD, rU, ev, ofConst, ofCell, ↓reduceIte, Nat.reduceEqDiff, Nat.reduceAdd, Nat.reduceSub, Nat.reduceMul, Nat.reduceLeDiff, Nat.reduceLT, Int.reduceNeg, Int.reduceToNat, Int.reduceAdd, Int.reduceSub, Int.reduceMul, Int.reduceLT, Int.reduceLE, Int.reduceEq, rX, dg_cells, dg_fold, List.drop_succ_cons, ↓rF, rG]
  refine ⟨_, Hp.sub_refl, ?_⟩
  have e : bs ++ opB o = bs ++ numB o.n ++ o.h ++ o.d := by simp [opB]
  rw [e]
  exact h3.base (Hp.sub_new Hp.sub_refl e3)

/-- a follower's bytes -/
def saveB (F : Fw) : List UInt8 := opB F.o ++ numB F.st ++ (match F.fk with | none => [0] | some (a, b) => 1 :: (opB a ++ opB b))
theorem saveB_length {F : Fw} (h : F.ok) : (saveB F).length ≤ 300 := by
  obtain ⟨h1, h2⟩ := h
  unfold saveB
  cases hk : F.fk with
  | none => simp [opB_length h1, numB_length]
  | some ab => obtain ⟨a, b⟩ := ab; obtain ⟨ha, hb⟩ := h2 a b hk; simp [opB_length h1, opB_length ha, opB_length hb, numB_length]

theorem Save_spec (s0 s : Hp) (l : Nat) (F : Fw) (hF : F.ok) (h : FS s0 l F s) :
    AC Try.prog 22 [.ptr l 0] s fun r s' => ∃ o', Owned s s' 1 ((saveB F).map byteAV) o' ∧ r = .sl ((saveB F).map byteAV) o' := by
  obtain ⟨p, hs, hp⟩ := h.get
  obtain ⟨hFo, hFk⟩ := hF
  have hw := fwC_length (st := F.st) (p := p) hFo
  refine AC_run hm prep22 (by simp) ?_
  simp (dsimp := false) (implicitDefEqProofs := false) (maxSteps := 1000000) (disch := first | omega | assumption | (simp only [rL, Nat.reduceAdd]; done) | (simp only [rL, Nat.reduceAdd]; omega)) only [↓rD, rU, ev, ofConst, ofCell, ↓reduceIte, Nat.reduceEqDiff, Nat.reduceAdd, Nat.reduceSub, Nat.reduceMul, Nat.reduceLeDiff, Nat.reduceLT, Int.reduceNeg, Int.reduceToNat, Int.reduceAdd, Int.reduceSub, Int.reduceMul, Int.reduceLT, Int.reduceLE, Int.reduceEq, rX, dg_cells, dg_fold, List.drop_succ_cons, ↓rF, rG]
  refine newK_intro fun l5 n5 => ?_
  have d5 : l ≠ l5 := by rintro rfl; rw [n5] at hs; cases hs
  have hW : WS s l5 [] (s.set l5 (.cells [.sl [] .nil, .v (.int .i64 0)])) := ⟨.nil, Owned.nil Hp.sub_refl⟩
  simp (dsimp := false) (implicitDefEqProofs := false) (maxSteps := 1000000) (disch := first | omega | assumption | (simp only [rL, Nat.reduceAdd]; done) | (simp only [rL, Nat.reduceAdd]; omega)) only [↓rD, rU, ev, ofConst, ofCell, ↓reduceIte, Nat.reduceEqDiff, Nat.reduceAdd, Nat.reduceSub, Nat.reduceMul, Nat.reduceLeDiff, Nat.reduceLT, Int.reduceNeg, Int.reduceToNat, Int.reduceAdd, Int.reduceSub, Int.reduceMul, Int.reduceLT, Int.reduceLE, Int.reduceEq, rX, dg_cells, dg_fold, List.drop_succ_cons, ↓rF, rG, Hp.read_of hs, d5, hw, fwC_op hFo, Opn.fold']
  refine call_intro (lput_spec s _ l5 [] F.o hFo hW (by simp)) ?_
  intro r s1 h1
  have g1 := h1.get d5 hs
  simp (dsimp := false) (implicitDefEqProofs := false) (maxSteps := 1000000) (disch := first | omega | assumption | (simp only [rL, Nat.reduceAdd]; done) | (simp only [rL, Nat.reduceAdd]; omega)) only [↓rD, rU, ev, ofConst, ofCell, ↓reduceIte, Nat.reduceEqDiff, Nat.reduceAdd, Nat.reduceSub, Nat.reduceMul, Nat.reduceLeDiff, Nat.reduceLT, Int.reduceNeg, Int.reduceToNat, Int.reduceAdd, Int.reduceSub, Int.reduceMul, Int.reduceLT, Int.reduceLE, Int.reduceEq, rX, dg_cells, dg_fold, List.drop_succ_cons, ↓rF, rG, Hp.read_of g1, hw, fwC_65 hFo]
  have hlo := opB_length hFo
  rw [List.nil_append] at h1
  refine call_intro (num_spec s _ l5 _ F.st h1 (by omega)) ?_
  intro r s2 h2
  have g2 := h2.get d5 hs
  rcases hp with ⟨hk, rfl⟩ | ⟨lf, a, b, hk, rfl, hlf⟩
  · simp (dsimp := false) (implicitDefEqProofs := false) (maxSteps := 1000000) (disch := first | omega | assumption | (simp only [rL, Nat.reduceAdd]; done) | (simp only [rL, Nat.reduceAdd]; omega)) only [↓rD, rU, ev, ofConst, ofCell, ↓reduceIte, Nat.reduceEqDiff, Nat.reduceAdd, Nat.reduceSub, Nat.reduceMul, Nat.reduceLeDiff, Nat.reduceLT, Int.reduceNeg, Int.reduceToNat, Int.reduceAdd, Int.reduceSub, Int.reduceMul, Int.reduceLT, Int.reduceLE, Int.reduceEq, rX, dg_cells, dg_fold, List.drop_succ_cons, ↓rF, rG, Hp.read_of g2, hw, fwC_66 hFo]
    refine call_intro (wtruth_spec s _ l5 _ false h2 (by simp [hlo, numB_length])) ?_
    intro r s3 h3
    have g3 := h3.get d5 hs
    simp (dsimp := false) (implicitDefEqProofs := false) (maxSteps := 1000000) (disch := first | omega | assumption | (simp only [rL, Nat.reduceAdd]; done) | (simp only [rL, Nat.reduceAdd]; omega)) only [↓rD, rU, ev, ofConst, ofCell, ↓reduceIte, Nat.reduceEqDiff, Nat.reduceAdd, Nat.reduceSub, Nat.reduceMul, Nat.reduceLeDiff, Nat.reduceLT, Int.reduceNeg, Int.reduceToNat, Int.reduceAdd, Int.reduceSub, Int.reduceMul, Int.reduceLT, Int.reduceLE, Int.reduceEq, rX, dg_cells, dg_fold, List.drop_succ_cons, ↓rF, rG, Hp.read_of g3, hw, fwC_66 hFo]
    refine call_intro (wbytes_spec s _ l5 _ h3 (by simp [hlo, numB_length])) ?_
    rintro _ s4 ⟨o4, h4, rfl⟩
    simp (dsimp := false) (implicitDefEqProofs := false) (maxSteps := 1000000) (disch := first | omega | assumption | (simp only [rL, Nat.reduceAdd]; done) | (simp only [rL, Nat.reduceAdd]; omega)) only [↓rD, rU, ev, ofConst, ofCell, ↓reduceIte, Nat.reduceEqDiff, Nat.reduceAdd, Nat.reduceSub, Nat.reduceMul, Nat.reduceLeDiff, Nat.reduceLT, Int.reduceNeg, Int.reduceToNat, Int.reduceAdd, Int.reduceSub, Int.reduceMul, Int.reduceLT, Int.reduceLE, Int.reduceEq, rX, dg_cells, dg_fold, List.drop_succ_cons, ↓rF, rG]
    have e : saveB F = opB F.o ++ numB F.st ++ [if false = true then 1 else 0] := by rw [saveB, hk]; rfl
    rw [e]
    exact ⟨_, Hp.sub_refl, o4, h4.base (h3.sub n5), rfl⟩
  · obtain ⟨ha, hb⟩ := hFk a b hk
    have hla := Opn.lenC ha
    have hlb := Opn.lenC hb
    have hab : (a.C ++ b.C).length = 130 := by simp [hla, hlb]
    have hfb := Opn.fold hb
    have df : lf ≠ l5 := by rintro rfl; rw [n5] at hlf; cases hlf
    have la := opB_length ha
    simp (dsimp := false) (implicitDefEqProofs := false) (maxSteps := 1000000) (disch := first | omega | assumption | (simp only [rL, Nat.reduceAdd]; done) | (simp only [rL, Nat.reduceAdd]; omega)) only [↓rD, rU, ev, ofConst, ofCell, ↓reduceIte, Nat.reduceEqDiff, Nat.reduceAdd, Nat.reduceSub, Nat.reduceMul, Nat.reduceLeDiff, Nat.reduceLT, Int.reduceNeg, Int.reduceToNat, Int.reduceAdd, Int.reduceSub, Int.reduceMul, Int.reduceLT, Int.reduceLE, Int.reduceEq, rX, dg_cells, dg_fold, List.drop_succ_cons, ↓rF, rG, Hp.read_of g2, hw, fwC_66 hFo]
    refine call_intro (wtruth_spec s _ l5 _ true h2 (by simp [hlo, numB_length])) ?_
    intro r s3 h3
    have g3 := h3.get d5 hs
    have f3 := h3.get df hlf
    simp (dsimp := false) (implicitDefEqProofs := false) (maxSteps := 1000000) (disch := first | omega | assumption | (simp only [rL, Nat.reduceAdd]; done) | (simp only [rL, Nat.reduceAdd]; omega)) only [↓rD, rU, ev, ofConst, ofCell, ↓reduceIte, Nat.reduceEqDiff, Nat.reduceAdd, Nat.reduceSub, Nat.reduceMul, Nat.reduceLeDiff, Nat.reduceLT, Int.reduceNeg, Int.reduceToNat, Int.reduceAdd, Int.reduceSub, Int.reduceMul, Int.reduceLT, Int.reduceLE, Int.reduceEq, rX, dg_cells, dg_fold, List.drop_succ_cons, ↓rF, rG, Hp.read_of g3, hw, fwC_66 hFo, Hp.read_of f3, hab, fk_at0 ha, Opn.fold']
    refine call_intro (lput_spec s _ l5 _ a ha h3 (by simp [hlo, numB_length])) ?_
    intro r s4 h4
    have g4 := h4.get d5 hs
    have f4 := h4.get df hlf
    simp (dsimp := false) (implicitDefEqProofs := false) (maxSteps := 1000000) (disch := first | omega | assumption | (simp only [rL, Nat.reduceAdd]; done) | (simp only [rL, Nat.reduceAdd]; omega)) only [↓rD, rU, ev, ofConst, ofCell, ↓reduceIte, Nat.reduceEqDiff, Nat.reduceAdd, Nat.reduceSub, Nat.reduceMul, Nat.reduceLeDiff, Nat.reduceLT, Int.reduceNeg, Int.reduceToNat, Int.reduceAdd, Int.reduceSub, Int.reduceMul, Int.reduceLT, Int.reduceLE, Int.reduceEq, rX, dg_cells, dg_fold, List.drop_succ_cons, ↓rF, rG, Hp.read_of g4, hw, fwC_66 hFo, Hp.read_of f4, hab, fk_at1 ha, hfb]
    refine call_intro (lput_spec s _ l5 _ b hb h4 (by simp [hlo, la, numB_length])) ?_
    intro r s5 h5
    simp (dsimp := false) (implicitDefEqProofs := false) (maxSteps := 1000000) (disch := first | omega | assumption | (simp only [rL, Nat.reduceAdd]; done) | (simp only [rL, Nat.reduceAdd]; omega)) only [↓rD, rU, ev, ofConst, ofCell, ↓reduceIte, Nat.reduceEqDiff, Nat.reduceAdd, Nat.reduceSub, Nat.reduceMul, Nat.reduceLeDiff, Nat.reduceLT, Int.reduceNeg, Int.reduceToNat, Int.reduceAdd, Int.reduceSub, Int.reduceMul, Int.reduceLT, Int.reduceLE, Int.reduceEq, rX, dg_cells, dg_fold, List.drop_succ_cons, ↓rF, rG]
    have lb := opB_length hb
    refine call_intro (wbytes_spec s _ l5 _ h5 (by simp [hlo, la, lb, numB_length])) ?_
    rintro _ s6 ⟨o6, h6, rfl⟩
    simp (dsimp := false) (implicitDefEqProofs := false) (maxSteps := 1000000) (disch := first | omega | assumption | (simp only [rL, Nat.reduceAdd]; done) | (simp only [rL, Nat.reduceAdd]; omega)) only [↓rD, rU, ev, ofConst, ofCell, ↓reduceIte, Nat.reduceEqDiff, Nat.reduceAdd, Nat.reduceSub, Nat.reduceMul, Nat.reduceLeDiff, Nat.reduceLT, Int.reduceNeg, Int.reduceToNat, Int.reduceAdd, Int.reduceSub, Int.reduceMul, Int.reduceLT, Int.reduceLE, Int.reduceEq, rX, dg_cells, dg_fold, List.drop_succ_cons, ↓rF, rG]
    have e : saveB F = opB F.o ++ numB F.st ++ [if true = true then 1 else 0] ++ opB a ++ opB b := by rw [saveB, hk]; simp
    rw [e]
    exact ⟨_, Hp.sub_refl, o6, h6.base (h5.sub n5), rfl⟩
end Go.Proofs.Ytapjikladjoicaa
/-
  The document's answers: numbers and truths as bytes; a follower's bytes.
-/
set_option maxRecDepth 100000
namespace Go.Av
open Go
theorem quo_u64 (a b : Nat) (ha : a < 18446744073709551616) (hb : 0 < b) : binV .quo (.int .u64 a) (.int .u64 (b : Int)) = some (.int .u64 ((a / b : Nat) : Int)) := by
  have h : binV .quo (.int .u64 a) (.int .u64 (b : Int)) = (if (b : Int) = 0 then none else some (.int .u64 (IntKind.u64.wrap ((a : Int).tdiv (b : Int))))) := rfl
  have e : ((a : Int).tdiv (b : Int)) = ((a / b : Nat) : Int) := rfl
  have hlt : a / b ≤ a := Nat.div_le_self a b
  rw [h, if_neg (by omega), e]
  generalize a / b = q at *
  rw [wrap_u64 (by omega) (by omega)]
theorem rem_u64 (a b : Nat) (hb : 0 < b) : binV .rem (.int .u64 a) (.int .u64 (b : Int)) = some (.int .u64 ((a % b : Nat) : Int)) := by
  have h : binV .rem (.int .u64 a) (.int .u64 (b : Int)) = (if (b : Int) = 0 then none else some (.int .u64 ((a : Int).tmod (b : Int)))) := rfl
  rw [h, if_neg (by omega)]; rfl
theorem xor_top_nat (a : Nat) (ha : a < 18446744073709551616) : a ^^^ 9223372036854775808 = (a + 9223372036854775808) % 18446744073709551616 := by
  have e1 : (9223372036854775808 : Nat) = 2 ^ 63 := by decide
  have e2 : (18446744073709551616 : Nat) = 2 ^ 64 := by decide
  rw [e2] at ha
  rw [e1, e2]
  apply Nat.eq_of_testBit_eq
  intro j
  rw [Nat.testBit_xor, Nat.testBit_two_pow, Nat.testBit_mod_two_pow, Nat.add_comm]
  by_cases h1 : j < 63
  · rw [Nat.testBit_two_pow_add_gt h1]
    have : ¬ (63 = j) := by omega
    have h2 : j < 64 := by omega
    simp [this, h2]
  · by_cases h2 : j = 63
    · subst h2
      rw [Nat.testBit_two_pow_add_eq]
      simp
    · have h3 : ¬ j < 64 := by omega
      have h4 : a.testBit j = false := Nat.testBit_lt_two_pow (Nat.lt_of_lt_of_le ha (Nat.pow_le_pow_right (by omega) (by omega)))
      have : ¬ (63 = j) := by omega
      simp [this, h3, h4]
end Go.Av
namespace Go.Proofs.Ytapjikladjoicaa
open Go Go.Av

theorem numN_add (n : Int) : IntKind.u64.wrap (IntKind.u64.wrap n + 9223372036854775808) = (numN n : Int) := by
  have h1 := wrap_u64_mod (n := n)
  have hx : (BitVec.ofInt 64 n).toNat = (n % 18446744073709551616).toNat := by
    rw [BitVec.toNat_ofInt]; rfl
  have hlt : (BitVec.ofInt 64 n).toNat < 18446744073709551616 := (BitVec.ofInt 64 n).isLt
  have h2 : numN n = ((BitVec.ofInt 64 n).toNat + 9223372036854775808) % 18446744073709551616 := by
    rw [numN, BitVec.toNat_xor]
    have e : (BitVec.ofInt 64 9223372036854775808).toNat = 9223372036854775808 := by decide
    rw [e, xor_top_nat _ hlt]
  rw [wrap_u64_mod, h2, h1]
  omega

theorem rnumR_spec (n : Int) (s : Hp) :
    AC Try.prog 50 [.v (.int .i64 n)] s fun r s' => MO s s' 1 ((numB n).map byteAV) r := by
  refine AC_run hm prep50 (by simp) ?_
  simp (dsimp := false) (implicitDefEqProofs := false) (maxSteps := 1000000) (disch := first | omega | assumption | (simp only [rL, Nat.reduceAdd]; done) | (simp only [rL, Nat.reduceAdd]; omega)) only [↓rD, rU, ev, ofConst, ofCell, ↓reduceIte, Nat.reduceEqDiff, Nat.reduceAdd, Nat.reduceSub, Nat.reduceMul, Nat.reduceLeDiff, Nat.reduceLT, Int.reduceNeg, Int.reduceToNat, Int.reduceAdd, Int.reduceSub, Int.reduceMul, Int.reduceLT, Int.reduceLE, Int.reduceEq, rX, dg_cells, dg_fold, List.drop_succ_cons, ↓rF, rG, ne_eq, not_true_eq_false, not_false_eq_true, Int.reduceNe, List.getElem?_cons_zero, List.getElem?_cons_succ, numN_add]
  have hN : numN n < 18446744073709551616 := (BitVec.ofInt 64 n ^^^ BitVec.ofInt 64 9223372036854775808).isLt
  have hb : numB n = eightB (numN n) := rfl
  rw [hb]
  generalize numN n = U at *
  refine mks_intro (n := 8) (by omega) (by omega) fun l nl => ?_
  simp (dsimp := false) (implicitDefEqProofs := false) (maxSteps := 1000000) (disch := first | omega | assumption | (simp only [rL, Nat.reduceAdd]; done) | (simp only [rL, Nat.reduceAdd]; omega)) only [↓rD, rU, ev, ofConst, ofCell, ↓reduceIte, Nat.reduceEqDiff, Nat.reduceAdd, Nat.reduceSub, Nat.reduceMul, Nat.reduceLeDiff, Nat.reduceLT, Int.reduceNeg, Int.reduceToNat, Int.reduceAdd, Int.reduceSub, Int.reduceMul, Int.reduceLT, Int.reduceLE, Int.reduceEq, rX, dg_cells, dg_fold, List.drop_succ_cons, ↓rF, rG, ne_eq, not_true_eq_false, not_false_eq_true, Int.reduceNe, List.getElem?_cons_zero, List.getElem?_cons_succ]
  refine loop_intro (fun f s' => ∃ j : Nat, j ≤ 8 ∧ s' = s.set l (.cells (List.replicate (8 - j) (byteAV 0) ++ ((eightB U).drop (8 - j)).map byteAV)) ∧ f 4 = .mb l 8 8 1 ∧ f 3 = .v (.int .u64 ((U / 256 ^ j : Nat) : Int)) ∧ f 5 = .v (.int .i64 (7 - (j : Int))))
    (fun f _ => match f 5 with | .v (.int _ n) => (n + 8).toNat | _ => 0) ⟨0, by omega, ?_⟩ ?_
  · simp (dsimp := false) (implicitDefEqProofs := false) (maxSteps := 1000000) (disch := first | omega | assumption | (simp only [rL, Nat.reduceAdd]; done) | (simp only [rL, Nat.reduceAdd]; omega)) only [↓rD, rU, ev, ofConst, ofCell, ↓reduceIte, Nat.reduceEqDiff, Nat.reduceAdd, Nat.reduceSub, Nat.reduceMul, Nat.reduceLeDiff, Nat.reduceLT, Int.reduceNeg, Int.reduceToNat, Int.reduceAdd, Int.reduceSub, Int.reduceMul, Int.reduceLT, Int.reduceLE, Int.reduceEq, rX, dg_cells, dg_fold, List.drop_succ_cons, ↓rF, rG, ne_eq, not_true_eq_false, not_false_eq_true, Int.reduceNe, List.getElem?_cons_zero, List.getElem?_cons_succ]
    try (simp; try rfl)
  · rintro f s' ⟨j, hj, rfl, f4, f3, f5⟩
    by_cases hlt : (0 : Int) ≤ 7 - (j : Int)
    · have hdiv : U / 256 ^ j < 18446744073709551616 := Nat.lt_of_le_of_lt (Nat.div_le_self _ _) hN
      have hq := quo_u64 (U / 256 ^ j) 256 hdiv (by omega)
      have hr := rem_u64 (U / 256 ^ j) 256 (by omega)
      have e256 : ((256 : Nat) : Int) = 256 := rfl
      rw [e256] at hq hr
      have hlen : (List.replicate (8 - j) (byteAV 0) ++ ((eightB U).drop (8 - j)).map byteAV).length = 8 := by
        have : (eightB U).length = 8 := rfl
        simp [this]
        try omega
      simp (dsimp := false) (implicitDefEqProofs := false) (maxSteps := 1000000) (disch := first | omega | assumption | (simp only [rL, Nat.reduceAdd]; done) | (simp only [rL, Nat.reduceAdd]; omega)) only [↓rD, rU, ev, ofConst, ofCell, ↓reduceIte, Nat.reduceEqDiff, Nat.reduceAdd, Nat.reduceSub, Nat.reduceMul, Nat.reduceLeDiff, Nat.reduceLT, Int.reduceNeg, Int.reduceToNat, Int.reduceAdd, Int.reduceSub, Int.reduceMul, Int.reduceLT, Int.reduceLE, Int.reduceEq, rX, dg_cells, dg_fold, List.drop_succ_cons, ↓rF, rG, ne_eq, not_true_eq_false, not_false_eq_true, Int.reduceNe, List.getElem?_cons_zero, List.getElem?_cons_succ, f3, f4, f5, hlt, hq, hr, wrap_u8_nat, hlen]
      refine ⟨⟨j + 1, by omega, ?_, ?_, by (congr 2; try omega)⟩, by omega⟩
      · congr 2
        have hbyte : UInt8.ofNat (U / 256 ^ j % 256) = UInt8.ofNat (U >>> (8 * j)) := by
          apply UInt8.toNat_inj.1
          rw [UInt8.toNat_ofNat', UInt8.toNat_ofNat', Nat.shiftRight_eq_div_pow, Nat.pow_mul]
          show U / 256 ^ j % 256 % 256 = U / 256 ^ j % 256
          omega
        rw [hbyte]
        rcases (by omega : j = 0 ∨ j = 1 ∨ j = 2 ∨ j = 3 ∨ j = 4 ∨ j = 5 ∨ j = 6 ∨ j = 7) with rfl | rfl | rfl | rfl | rfl | rfl | rfl | rfl <;> rfl
      · rw [Nat.div_div_eq_div_mul, ← Nat.pow_succ]
    · obtain rfl : j = 8 := by omega
      simp (dsimp := false) (implicitDefEqProofs := false) (maxSteps := 1000000) (disch := first | omega | assumption | (simp only [rL, Nat.reduceAdd]; done) | (simp only [rL, Nat.reduceAdd]; omega)) only [↓rD, rU, ev, ofConst, ofCell, ↓reduceIte, Nat.reduceEqDiff, Nat.reduceAdd, Nat.reduceSub, Nat.reduceMul, Nat.reduceLeDiff, Nat.reduceLT, Int.reduceNeg, Int.reduceToNat, Int.reduceAdd, Int.reduceSub, Int.reduceMul, Int.reduceLT, Int.reduceLE, Int.reduceEq, rX, dg_cells, dg_fold, List.drop_succ_cons, ↓rF, rG, ne_eq, not_true_eq_false, not_false_eq_true, Int.reduceNe, List.getElem?_cons_zero, List.getElem?_cons_succ, f3, f4, f5, hlt]
      refine ⟨_, Hp.sub_refl, Hp.sub_new Hp.sub_refl nl, .inr ⟨l, 8, 8, _, rfl, nl, Hp.set_same _ _ _, rfl, rfl, rfl, by omega, by decide⟩⟩

theorem rtruthR_spec (b : Bool) (s : Hp) :
    AC Try.prog 51 [.v (.bool b)] s fun r s' => MO s s' 1 ([if b then (1 : UInt8) else 0].map byteAV) r := by
  refine AC_run hm prep51 (by simp) ?_
  cases b
  · simp (dsimp := false) (implicitDefEqProofs := false) (maxSteps := 1000000) (disch := first | omega | assumption | (simp only [rL, Nat.reduceAdd]; done) | (simp only [rL, Nat.reduceAdd]; omega)) only [↓rD, rU, ev, ofConst, ofCell, ↓reduceIte, Nat.reduceEqDiff, Nat.reduceAdd, Nat.reduceSub, Nat.reduceMul, Nat.reduceLeDiff, Nat.reduceLT, Int.reduceNeg, Int.reduceToNat, Int.reduceAdd, Int.reduceSub, Int.reduceMul, Int.reduceLT, Int.reduceLE, Int.reduceEq, rX, dg_cells, dg_fold, List.drop_succ_cons, ↓rF, rG, ne_eq, not_true_eq_false, not_false_eq_true, Int.reduceNe, List.getElem?_cons_zero, List.getElem?_cons_succ]
    refine bslM_intro (by simp [allLen, AV.cells]) (by simp) fun g hg => ?_
    simp (dsimp := false) (implicitDefEqProofs := false) (maxSteps := 1000000) (disch := first | omega | assumption | (simp only [rL, Nat.reduceAdd]; done) | (simp only [rL, Nat.reduceAdd]; omega)) only [↓rD, rU, ev, ofConst, ofCell, ↓reduceIte, Nat.reduceEqDiff, Nat.reduceAdd, Nat.reduceSub, Nat.reduceMul, Nat.reduceLeDiff, Nat.reduceLT, Int.reduceNeg, Int.reduceToNat, Int.reduceAdd, Int.reduceSub, Int.reduceMul, Int.reduceLT, Int.reduceLE, Int.reduceEq, rX, dg_cells, dg_fold, List.drop_succ_cons, ↓rF, rG, ne_eq, not_true_eq_false, not_false_eq_true, Int.reduceNe, List.getElem?_cons_zero, List.getElem?_cons_succ]
    exact ⟨_, Hp.sub_refl, Hp.sub_new Hp.sub_refl hg, .inr ⟨g, 1, 1, _, rfl, hg, Hp.set_same _ _ _, rfl, rfl, rfl, by omega, by decide⟩⟩
  · simp (dsimp := false) (implicitDefEqProofs := false) (maxSteps := 1000000) (disch := first | omega | assumption | (simp only [rL, Nat.reduceAdd]; done) | (simp only [rL, Nat.reduceAdd]; omega)) only [↓rD, rU, ev, ofConst, ofCell, ↓reduceIte, Nat.reduceEqDiff, Nat.reduceAdd, Nat.reduceSub, Nat.reduceMul, Nat.reduceLeDiff, Nat.reduceLT, Int.reduceNeg, Int.reduceToNat, Int.reduceAdd, Int.reduceSub, Int.reduceMul, Int.reduceLT, Int.reduceLE, Int.reduceEq, rX, dg_cells, dg_fold, List.drop_succ_cons, ↓rF, rG, ne_eq, not_true_eq_false, not_false_eq_true, Int.reduceNe, List.getElem?_cons_zero, List.getElem?_cons_succ]
    refine bslM_intro (by simp [allLen, AV.cells]) (by simp) fun g hg => ?_
    simp (dsimp := false) (implicitDefEqProofs := false) (maxSteps := 1000000) (disch := first | omega | assumption | (simp only [rL, Nat.reduceAdd]; done) | (simp only [rL, Nat.reduceAdd]; omega)) only [↓rD, rU, ev, ofConst, ofCell, ↓reduceIte, Nat.reduceEqDiff, Nat.reduceAdd, Nat.reduceSub, Nat.reduceMul, Nat.reduceLeDiff, Nat.reduceLT, Int.reduceNeg, Int.reduceToNat, Int.reduceAdd, Int.reduceSub, Int.reduceMul, Int.reduceLT, Int.reduceLE, Int.reduceEq, rX, dg_cells, dg_fold, List.drop_succ_cons, ↓rF, rG, ne_eq, not_true_eq_false, not_false_eq_true, Int.reduceNe, List.getElem?_cons_zero, List.getElem?_cons_succ]
    exact ⟨_, Hp.sub_refl, Hp.sub_new Hp.sub_refl hg, .inr ⟨g, 1, 1, _, rfl, hg, Hp.set_same _ _ _, rfl, rfl, rfl, by omega, by decide⟩⟩

theorem appB_own {s0 s : Hp} {bs cs : List UInt8} {x y : AV} {n : Nat} {C : AV → Hp → Prop} {d : Dep C} (h : MO s0 s 1 (bs.map byteAV) x) (hs : srcF s 1 y = some (n, cs.map byteAV)) (hb : bs.length + cs.length ≤ 70368744177664)
    (hC : ∀ a' s', MO s0 s' 1 ((bs ++ cs).map byteAV) a' → C a' s') : appMK 1 1 s x y (hid2 C d) := by
  have hn : cs.length = n := by
    unfold srcF at hs
    split at hs
    · split at hs
      · rename_i ys _ hall
        simp only [Option.some.injEq, Prod.mk.injEq] at hs
        have h2 := congrArg List.length hs.2
        rw [flat_length (k := 1) (by simpa only [List.all_eq_true, decide_eq_true_eq] using hall)] at h2
        simp at h2; omega
      · cases hs
    · split at hs
      · split at hs
        · rename_i cs' _ hc
          simp only [Option.some.injEq, Prod.mk.injEq] at hs
          have h2 := congrArg List.length hs.2
          simp at h2; omega
        · cases hs
      · cases hs
    · split at hs
      · split at hs
        · rename_i cs' _ hc
          simp only [Option.some.injEq, Prod.mk.injEq] at hs
          have h2 := congrArg List.length hs.2
          simp at h2; omega
        · cases hs
      · cases hs
    · cases hs
  refine appM_own h (by omega) hs (by simp [hn]) (by simp; omega) (by simp; omega) ?_
  rw [← List.map_append]; exact hC

theorem ropR_spec (o : Opn) (ho : o.ok) (s : Hp) :
    AC Try.prog 49 [o.V] s fun r s' => MO s s' 1 ((opB o).map byteAV) r := by
  refine AC_run hm prep49 (by simp) ?_
  have hc := Opn.cells (o := o)
  have hl := Opn.lenC ho
  simp (dsimp := false) (implicitDefEqProofs := false) (maxSteps := 1000000) (disch := first | omega | assumption | (simp only [rL, Nat.reduceAdd]; done) | (simp only [rL, Nat.reduceAdd]; omega)) only [↓rD, rU, ev, ofConst, ofCell, ↓reduceIte, Nat.reduceEqDiff, Nat.reduceAdd, Nat.reduceSub, Nat.reduceMul, Nat.reduceLeDiff, Nat.reduceLT, Int.reduceNeg, Int.reduceToNat, Int.reduceAdd, Int.reduceSub, Int.reduceMul, Int.reduceLT, Int.reduceLE, Int.reduceEq, rX, dg_cells, dg_fold, List.drop_succ_cons, ↓rF, rG, ne_eq, not_true_eq_false, not_false_eq_true, Int.reduceNe, List.getElem?_cons_zero, List.getElem?_cons_succ, hc, hl]
  refine newK_intro fun l1 n1 => ?_
  simp (dsimp := false) (implicitDefEqProofs := false) (maxSteps := 1000000) (disch := first | omega | assumption | (simp only [rL, Nat.reduceAdd]; done) | (simp only [rL, Nat.reduceAdd]; omega)) only [↓rD, rU, ev, ofConst, ofCell, ↓reduceIte, Nat.reduceEqDiff, Nat.reduceAdd, Nat.reduceSub, Nat.reduceMul, Nat.reduceLeDiff, Nat.reduceLT, Int.reduceNeg, Int.reduceToNat, Int.reduceAdd, Int.reduceSub, Int.reduceMul, Int.reduceLT, Int.reduceLE, Int.reduceEq, rX, dg_cells, dg_fold, List.drop_succ_cons, ↓rF, rG, ne_eq, not_true_eq_false, not_false_eq_true, Int.reduceNe, List.getElem?_cons_zero, List.getElem?_cons_succ, hc, hl, Opn.m0]
  refine call_intro (rnumR_spec o.n _) ?_
  rintro x1 s1 h1
  have g1 := h1.1 _ _ (Hp.set_same _ _ _)
  have k1 : slcRA 1 32 s1 (.ptr l1 1) = some (.sl (o.h.map byteAV) .any) := by rw [slcRA_at g1 (by omega)]; exact congrArg (fun z => some (AV.sl z .any)) (Opn.h32 ho)
  simp (dsimp := false) (implicitDefEqProofs := false) (maxSteps := 1000000) (disch := first | omega | assumption | (simp only [rL, Nat.reduceAdd]; done) | (simp only [rL, Nat.reduceAdd]; omega)) only [↓rD, rU, ev, ofConst, ofCell, ↓reduceIte, Nat.reduceEqDiff, Nat.reduceAdd, Nat.reduceSub, Nat.reduceMul, Nat.reduceLeDiff, Nat.reduceLT, Int.reduceNeg, Int.reduceToNat, Int.reduceAdd, Int.reduceSub, Int.reduceMul, Int.reduceLT, Int.reduceLE, Int.reduceEq, rX, dg_cells, dg_fold, List.drop_succ_cons, ↓rF, rG, ne_eq, not_true_eq_false, not_false_eq_true, Int.reduceNe, List.getElem?_cons_zero, List.getElem?_cons_succ, k1]
  refine appB_own h1 srcF_bytes (by simp [numB_length, ho.1]) fun x2 s2 h2 => ?_
  have g2 := h2.1 _ _ (Hp.set_same _ _ _)
  have k2 : slcRA 1 32 s2 (.ptr l1 33) = some (.sl (o.d.map byteAV) .any) := by rw [slcRA_at g2 (by omega)]; exact congrArg (fun z => some (AV.sl z .any)) (Opn.d32 ho)
  simp (dsimp := false) (implicitDefEqProofs := false) (maxSteps := 1000000) (disch := first | omega | assumption | (simp only [rL, Nat.reduceAdd]; done) | (simp only [rL, Nat.reduceAdd]; omega)) only [↓rD, rU, ev, ofConst, ofCell, ↓reduceIte, Nat.reduceEqDiff, Nat.reduceAdd, Nat.reduceSub, Nat.reduceMul, Nat.reduceLeDiff, Nat.reduceLT, Int.reduceNeg, Int.reduceToNat, Int.reduceAdd, Int.reduceSub, Int.reduceMul, Int.reduceLT, Int.reduceLE, Int.reduceEq, rX, dg_cells, dg_fold, List.drop_succ_cons, ↓rF, rG, ne_eq, not_true_eq_false, not_false_eq_true, Int.reduceNe, List.getElem?_cons_zero, List.getElem?_cons_succ, k2]
  refine appB_own h2 srcF_bytes (by simp [numB_length, ho.1, ho.2]) fun x3 s3 h3 => ?_
  simp (dsimp := false) (implicitDefEqProofs := false) (maxSteps := 1000000) (disch := first | omega | assumption | (simp only [rL, Nat.reduceAdd]; done) | (simp only [rL, Nat.reduceAdd]; omega)) only [↓rD, rU, ev, ofConst, ofCell, ↓reduceIte, Nat.reduceEqDiff, Nat.reduceAdd, Nat.reduceSub, Nat.reduceMul, Nat.reduceLeDiff, Nat.reduceLT, Int.reduceNeg, Int.reduceToNat, Int.reduceAdd, Int.reduceSub, Int.reduceMul, Int.reduceLT, Int.reduceLE, Int.reduceEq, rX, dg_cells, dg_fold, List.drop_succ_cons, ↓rF, rG, ne_eq, not_true_eq_false, not_false_eq_true, Int.reduceNe, List.getElem?_cons_zero, List.getElem?_cons_succ]
  exact ⟨_, Hp.sub_refl, h3.base (Hp.sub_new Hp.sub_refl n1)⟩

/-- a document's follower: its cells -/
structure RFw where
  o : Opn
  st : Int
  fk : Bool
  a : Opn
  b : Opn
def RFw.ok (F : RFw) : Prop := F.o.ok ∧ F.a.ok ∧ F.b.ok
def rfC (F : RFw) : List AV := F.o.C ++ ([.v (.int .i64 F.st), .v (.bool F.fk)] ++ (F.a.C ++ F.b.C))
def rsaveB (F : RFw) : List UInt8 := opB F.o ++ numB F.st ++ (if F.fk then 1 :: (opB F.a ++ opB F.b) else [0])
section
variable {F : RFw} (h : F.ok)
include h
theorem rfC_length : (rfC F).length = 197 := by simp [rfC, Opn.lenC h.1, Opn.lenC h.2.1, Opn.lenC h.2.2]
theorem rfC_op : (rfC F).take 65 = F.o.C := by rw [rfC, ← Opn.lenC h.1, List.take_left]
theorem rfC_65 : (rfC F).drop 65 = .v (.int .i64 F.st) :: .v (.bool F.fk) :: (F.a.C ++ F.b.C) := by rw [rfC, ← Opn.lenC h.1, List.drop_left]; rfl
theorem rfC_66 : (rfC F).drop 66 = .v (.bool F.fk) :: (F.a.C ++ F.b.C) := by
  rw [show (66 : Nat) = 65 + 1 from rfl, ← List.drop_drop, rfC_65 h]; rfl
theorem rfC_67 : (rfC F).drop 67 = F.a.C ++ F.b.C := by
  rw [show (67 : Nat) = 65 + 2 from rfl, ← List.drop_drop, rfC_65 h]; rfl
theorem rfC_132 : (rfC F).drop 132 = F.b.C := by
  rw [show (132 : Nat) = 67 + 65 from rfl, ← List.drop_drop, rfC_67 h, ← Opn.lenC h.2.1, List.drop_left]
theorem rfC_a : (F.a.C ++ F.b.C).take 65 = F.a.C := by rw [← Opn.lenC h.2.1, List.take_left]
end

theorem rBytes_spec (s : Hp) (l : Nat) (F : RFw) (hF : F.ok) (hs : s l = some (.cells (rfC F))) :
    AC Try.prog 23 [.ptr l 0] s fun r s' => MO s s' 1 ((rsaveB F).map byteAV) r := by
  have hw := rfC_length hF
  have fb := Opn.fold hF.2.2
  have lo := opB_length hF.1
  have la := opB_length hF.2.1
  have lb := opB_length hF.2.2
  refine AC_run hm prep23 (by simp) ?_
  simp (dsimp := false) (implicitDefEqProofs := false) (maxSteps := 1000000) (disch := first | omega | assumption | (simp only [rL, Nat.reduceAdd]; done) | (simp only [rL, Nat.reduceAdd]; omega)) only [↓rD, rU, ev, ofConst, ofCell, ↓reduceIte, Nat.reduceEqDiff, Nat.reduceAdd, Nat.reduceSub, Nat.reduceMul, Nat.reduceLeDiff, Nat.reduceLT, Int.reduceNeg, Int.reduceToNat, Int.reduceAdd, Int.reduceSub, Int.reduceMul, Int.reduceLT, Int.reduceLE, Int.reduceEq, rX, dg_cells, dg_fold, List.drop_succ_cons, ↓rF, rG, ne_eq, not_true_eq_false, not_false_eq_true, Int.reduceNe, List.getElem?_cons_zero, List.getElem?_cons_succ, Hp.read_of hs, hw, rfC_op hF, rfC_65 hF, Opn.fold']
  refine call_intro (ropR_spec F.o hF.1 s) ?_
  rintro x1 s1 h1
  have g1 := h1.1 _ _ hs
  simp (dsimp := false) (implicitDefEqProofs := false) (maxSteps := 1000000) (disch := first | omega | assumption | (simp only [rL, Nat.reduceAdd]; done) | (simp only [rL, Nat.reduceAdd]; omega)) only [↓rD, rU, ev, ofConst, ofCell, ↓reduceIte, Nat.reduceEqDiff, Nat.reduceAdd, Nat.reduceSub, Nat.reduceMul, Nat.reduceLeDiff, Nat.reduceLT, Int.reduceNeg, Int.reduceToNat, Int.reduceAdd, Int.reduceSub, Int.reduceMul, Int.reduceLT, Int.reduceLE, Int.reduceEq, rX, dg_cells, dg_fold, List.drop_succ_cons, ↓rF, rG, ne_eq, not_true_eq_false, not_false_eq_true, Int.reduceNe, List.getElem?_cons_zero, List.getElem?_cons_succ, Hp.read_of g1, hw, rfC_65 hF]
  refine call_intro (rnumR_spec F.st s1) ?_
  rintro x2 s2 h2
  have h1' := h1.mono h2.1
  obtain ⟨n2, _, e2, _⟩ := h2.src
  simp (dsimp := false) (implicitDefEqProofs := false) (maxSteps := 1000000) (disch := first | omega | assumption | (simp only [rL, Nat.reduceAdd]; done) | (simp only [rL, Nat.reduceAdd]; omega)) only [↓rD, rU, ev, ofConst, ofCell, ↓reduceIte, Nat.reduceEqDiff, Nat.reduceAdd, Nat.reduceSub, Nat.reduceMul, Nat.reduceLeDiff, Nat.reduceLT, Int.reduceNeg, Int.reduceToNat, Int.reduceAdd, Int.reduceSub, Int.reduceMul, Int.reduceLT, Int.reduceLE, Int.reduceEq, rX, dg_cells, dg_fold, List.drop_succ_cons, ↓rF, rG, ne_eq, not_true_eq_false, not_false_eq_true, Int.reduceNe, List.getElem?_cons_zero, List.getElem?_cons_succ]
  refine appB_own h1' e2 (by simp [lo, numB_length]) fun x3 s3 h3 => ?_
  have g3 := h3.1 _ _ hs
  simp (dsimp := false) (implicitDefEqProofs := false) (maxSteps := 1000000) (disch := first | omega | assumption | (simp only [rL, Nat.reduceAdd]; done) | (simp only [rL, Nat.reduceAdd]; omega)) only [↓rD, rU, ev, ofConst, ofCell, ↓reduceIte, Nat.reduceEqDiff, Nat.reduceAdd, Nat.reduceSub, Nat.reduceMul, Nat.reduceLeDiff, Nat.reduceLT, Int.reduceNeg, Int.reduceToNat, Int.reduceAdd, Int.reduceSub, Int.reduceMul, Int.reduceLT, Int.reduceLE, Int.reduceEq, rX, dg_cells, dg_fold, List.drop_succ_cons, ↓rF, rG, ne_eq, not_true_eq_false, not_false_eq_true, Int.reduceNe, List.getElem?_cons_zero, List.getElem?_cons_succ, Hp.read_of g3, hw, rfC_66 hF]
  refine call_intro (rtruthR_spec F.fk s3) ?_
  rintro x4 s4 h4
  have h3' := h3.mono h4.1
  obtain ⟨n4, _, e4, _⟩ := h4.src
  simp (dsimp := false) (implicitDefEqProofs := false) (maxSteps := 1000000) (disch := first | omega | assumption | (simp only [rL, Nat.reduceAdd]; done) | (simp only [rL, Nat.reduceAdd]; omega)) only [↓rD, rU, ev, ofConst, ofCell, ↓reduceIte, Nat.reduceEqDiff, Nat.reduceAdd, Nat.reduceSub, Nat.reduceMul, Nat.reduceLeDiff, Nat.reduceLT, Int.reduceNeg, Int.reduceToNat, Int.reduceAdd, Int.reduceSub, Int.reduceMul, Int.reduceLT, Int.reduceLE, Int.reduceEq, rX, dg_cells, dg_fold, List.drop_succ_cons, ↓rF, rG, ne_eq, not_true_eq_false, not_false_eq_true, Int.reduceNe, List.getElem?_cons_zero, List.getElem?_cons_succ]
  refine appB_own h3' e4 (by simp [lo, numB_length]) fun x5 s5 h5 => ?_
  have g5 := h5.1 _ _ hs
  cases hk : F.fk
  · rw [hk] at h5
    simp (dsimp := false) (implicitDefEqProofs := false) (maxSteps := 1000000) (disch := first | omega | assumption | (simp only [rL, Nat.reduceAdd]; done) | (simp only [rL, Nat.reduceAdd]; omega)) only [↓rD, rU, ev, ofConst, ofCell, ↓reduceIte, Nat.reduceEqDiff, Nat.reduceAdd, Nat.reduceSub, Nat.reduceMul, Nat.reduceLeDiff, Nat.reduceLT, Int.reduceNeg, Int.reduceToNat, Int.reduceAdd, Int.reduceSub, Int.reduceMul, Int.reduceLT, Int.reduceLE, Int.reduceEq, rX, dg_cells, dg_fold, List.drop_succ_cons, ↓rF, rG, ne_eq, not_true_eq_false, not_false_eq_true, Int.reduceNe, List.getElem?_cons_zero, List.getElem?_cons_succ, Hp.read_of g5, hw, rfC_66 hF, hk]
    have e : rsaveB F = opB F.o ++ numB F.st ++ [if false = true then 1 else 0] := by rw [rsaveB, hk]; rfl
    rw [e]
    exact ⟨_, Hp.sub_refl, h5⟩
  · rw [hk] at h5
    simp (dsimp := false) (implicitDefEqProofs := false) (maxSteps := 1000000) (disch := first | omega | assumption | (simp only [rL, Nat.reduceAdd]; done) | (simp only [rL, Nat.reduceAdd]; omega)) only [↓rD, rU, ev, ofConst, ofCell, ↓reduceIte, Nat.reduceEqDiff, Nat.reduceAdd, Nat.reduceSub, Nat.reduceMul, Nat.reduceLeDiff, Nat.reduceLT, Int.reduceNeg, Int.reduceToNat, Int.reduceAdd, Int.reduceSub, Int.reduceMul, Int.reduceLT, Int.reduceLE, Int.reduceEq, rX, dg_cells, dg_fold, List.drop_succ_cons, ↓rF, rG, ne_eq, not_true_eq_false, not_false_eq_true, Int.reduceNe, List.getElem?_cons_zero, List.getElem?_cons_succ, Hp.read_of g5, hw, rfC_66 hF, rfC_67 hF, rfC_a hF, Opn.fold', hk]
    refine call_intro (ropR_spec F.a hF.2.1 s5) ?_
    rintro x6 s6 h6
    have h5' := h5.mono h6.1
    obtain ⟨n6, _, e6, _⟩ := h6.src
    simp (dsimp := false) (implicitDefEqProofs := false) (maxSteps := 1000000) (disch := first | omega | assumption | (simp only [rL, Nat.reduceAdd]; done) | (simp only [rL, Nat.reduceAdd]; omega)) only [↓rD, rU, ev, ofConst, ofCell, ↓reduceIte, Nat.reduceEqDiff, Nat.reduceAdd, Nat.reduceSub, Nat.reduceMul, Nat.reduceLeDiff, Nat.reduceLT, Int.reduceNeg, Int.reduceToNat, Int.reduceAdd, Int.reduceSub, Int.reduceMul, Int.reduceLT, Int.reduceLE, Int.reduceEq, rX, dg_cells, dg_fold, List.drop_succ_cons, ↓rF, rG, ne_eq, not_true_eq_false, not_false_eq_true, Int.reduceNe, List.getElem?_cons_zero, List.getElem?_cons_succ]
    refine appB_own h5' e6 (by simp [lo, la, numB_length]) fun x7 s7 h7 => ?_
    have g7 := h7.1 _ _ hs
    simp (dsimp := false) (implicitDefEqProofs := false) (maxSteps := 1000000) (disch := first | omega | assumption | (simp only [rL, Nat.reduceAdd]; done) | (simp only [rL, Nat.reduceAdd]; omega)) only [↓rD, rU, ev, ofConst, ofCell, ↓reduceIte, Nat.reduceEqDiff, Nat.reduceAdd, Nat.reduceSub, Nat.reduceMul, Nat.reduceLeDiff, Nat.reduceLT, Int.reduceNeg, Int.reduceToNat, Int.reduceAdd, Int.reduceSub, Int.reduceMul, Int.reduceLT, Int.reduceLE, Int.reduceEq, rX, dg_cells, dg_fold, List.drop_succ_cons, ↓rF, rG, ne_eq, not_true_eq_false, not_false_eq_true, Int.reduceNe, List.getElem?_cons_zero, List.getElem?_cons_succ, Hp.read_of g7, hw, rfC_132 hF, fb]
    refine call_intro (ropR_spec F.b hF.2.2 s7) ?_
    rintro x8 s8 h8
    have h7' := h7.mono h8.1
    obtain ⟨n8, _, e8, _⟩ := h8.src
    simp (dsimp := false) (implicitDefEqProofs := false) (maxSteps := 1000000) (disch := first | omega | assumption | (simp only [rL, Nat.reduceAdd]; done) | (simp only [rL, Nat.reduceAdd]; omega)) only [↓rD, rU, ev, ofConst, ofCell, ↓reduceIte, Nat.reduceEqDiff, Nat.reduceAdd, Nat.reduceSub, Nat.reduceMul, Nat.reduceLeDiff, Nat.reduceLT, Int.reduceNeg, Int.reduceToNat, Int.reduceAdd, Int.reduceSub, Int.reduceMul, Int.reduceLT, Int.reduceLE, Int.reduceEq, rX, dg_cells, dg_fold, List.drop_succ_cons, ↓rF, rG, ne_eq, not_true_eq_false, not_false_eq_true, Int.reduceNe, List.getElem?_cons_zero, List.getElem?_cons_succ]
    refine appB_own h7' e8 (by simp [lo, la, lb, numB_length]) fun x9 s9 h9 => ?_
    simp (dsimp := false) (implicitDefEqProofs := false) (maxSteps := 1000000) (disch := first | omega | assumption | (simp only [rL, Nat.reduceAdd]; done) | (simp only [rL, Nat.reduceAdd]; omega)) only [↓rD, rU, ev, ofConst, ofCell, ↓reduceIte, Nat.reduceEqDiff, Nat.reduceAdd, Nat.reduceSub, Nat.reduceMul, Nat.reduceLeDiff, Nat.reduceLT, Int.reduceNeg, Int.reduceToNat, Int.reduceAdd, Int.reduceSub, Int.reduceMul, Int.reduceLT, Int.reduceLE, Int.reduceEq, rX, dg_cells, dg_fold, List.drop_succ_cons, ↓rF, rG, ne_eq, not_true_eq_false, not_false_eq_true, Int.reduceNe, List.getElem?_cons_zero, List.getElem?_cons_succ]
    have e : rsaveB F = opB F.o ++ numB F.st ++ [if true = true then 1 else 0] ++ opB F.a ++ opB F.b := by rw [rsaveB, hk]; simp
    rw [e]
    exact ⟨_, Hp.sub_refl, h9⟩
end Go.Proofs.Ytapjikladjoicaa
/-
  ref01: turned, Words; what one turn of the document's answer needs.
-/
set_option maxRecDepth 100000
namespace Go.Proofs.Ytapjikladjoicaa
open Go Go.Av

theorem mul256_u32 (x : UInt32) : binV .mul (.int .u32 256) (.int .u32 x.toNat) = some (.int .u32 (256 * x).toNat) := mul_u32 (x := 256) (y := x)
theorem com4_u32 (x : UInt32) : binV .sub (.int .u32 4294967295) (.int .u32 x.toNat) = some (.int .u32 (~~~x).toNat) := by
  have h := sub_u32 (x := 4294967295) (y := x)
  have e : (4294967295 : UInt32) - x = ~~~x := by
    apply UInt32.toNat_inj.1
    rw [UInt32.toNat_sub, UInt32.toNat_not]
    have := x.toNat_lt
    simp
    omega
  rw [e] at h; exact h
theorem quo8_u32 (x : UInt32) : binV .quo (.int .u32 x.toNat) (.int .u32 8) = some (.int .u32 (x >>> 3).toNat) := by
  have hx := x.toNat_lt
  have e : Int.tdiv (x.toNat : Int) 8 = ((x.toNat / 8 : Nat) : Int) := by rw [Int.tdiv_eq_ediv_of_nonneg (by omega)]; rfl
  have e2 : (x >>> 3).toNat = x.toNat / 8 := by
    rw [UInt32.toNat_shiftRight]; simp [Nat.shiftRight_eq_div_pow]
  have : binV .quo (.int .u32 x.toNat) (.int .u32 8) = some (.int .u32 (IntKind.u32.wrap (Int.tdiv (x.toNat : Int) 8))) := by simp [binV, isShift, binInt]
  rw [this, e, wrap_u32_nat _ (by omega), e2]
theorem quo1024_u32 (x : UInt32) : binV .quo (.int .u32 x.toNat) (.int .u32 1024) = some (.int .u32 (x >>> 10).toNat) := by
  have hx := x.toNat_lt
  have e : Int.tdiv (x.toNat : Int) 1024 = ((x.toNat / 1024 : Nat) : Int) := by rw [Int.tdiv_eq_ediv_of_nonneg (by omega)]; rfl
  have e2 : (x >>> 10).toNat = x.toNat / 1024 := by
    rw [UInt32.toNat_shiftRight]; simp [Nat.shiftRight_eq_div_pow]
  have : binV .quo (.int .u32 x.toNat) (.int .u32 1024) = some (.int .u32 (IntKind.u32.wrap (Int.tdiv (x.toNat : Int) 1024))) := by simp [binV, isShift, binInt]
  rw [this, e, wrap_u32_nat _ (by omega), e2]

theorem turned_spec (x : UInt32) (k : Int) (n : Nat) (h : 0 < n ∧ n < 32) (hk : k = ((32 - n : Nat) : Int)) (s : Hp) : AC Try.prog 94 [.v (.int .u32 x.toNat), .v (.int .u64 k)] s fun r s' => s' = s ∧ r = .v (.int .u32 (rotl x n).toNat) := by
  subst hk
  have hw : binV .sub (.int .u64 32) (.int .u64 ((32 - n : Nat) : Int)) = some (.int .u64 (n : Int)) := by
    have e : (32 : Int) - ((32 - n : Nat) : Int) = n := by omega
    simp only [binV, isShift, binInt, e]
    have : IntKind.u64.wrap (n : Int) = n := by rw [wrap_u64_mod]; omega
    simp [this]
  refine AC_run hm prep94 (by simp) ?_
  simp (dsimp := false) (implicitDefEqProofs := false) (maxSteps := 1000000) (disch := first | omega | assumption | (simp only [rL, Nat.reduceAdd]; done) | (simp only [rL, Nat.reduceAdd]; omega)) only [↓rD, rU, ev, ofConst, ofCell, ↓reduceIte, Nat.reduceEqDiff, Nat.reduceAdd, Nat.reduceSub, Nat.reduceMul, Nat.reduceLeDiff, Nat.reduceLT, Int.reduceNeg, Int.reduceToNat, Int.reduceAdd, Int.reduceSub, Int.reduceMul, Int.reduceLT, Int.reduceLE, Int.reduceEq, rX, dg_cells, dg_fold, List.drop_succ_cons, ↓rF, rG, ne_eq, not_true_eq_false, not_false_eq_true, Int.reduceNe, List.getElem?_cons_zero, List.getElem?_cons_succ, hw]
  refine ⟨s, Hp.sub_refl, rfl, ?_⟩
  simp only [Int.toNat_natCast, rotl]
  rw [UInt32.or_comm]

theorem words_spec (s : Hp) : AC Try.prog 81 [] s fun r s' => ∃ l, s l = none ∧ r = .mb l 64 64 1 ∧ s' = s.set l (.cells (wl K256)) := by
  refine AC_run hm prep81 (by simp) ?_
  simp (dsimp := false) (implicitDefEqProofs := false) (maxSteps := 1000000) (disch := first | omega | assumption | (simp only [rL, Nat.reduceAdd]; done) | (simp only [rL, Nat.reduceAdd]; omega)) only [↓rD, rU, ev, ofConst, ofCell, ↓reduceIte, Nat.reduceEqDiff, Nat.reduceAdd, Nat.reduceSub, Nat.reduceMul, Nat.reduceLeDiff, Nat.reduceLT, Int.reduceNeg, Int.reduceToNat, Int.reduceAdd, Int.reduceSub, Int.reduceMul, Int.reduceLT, Int.reduceLE, Int.reduceEq, rX, dg_cells, dg_fold, List.drop_succ_cons, ↓rF, rG, ne_eq, not_true_eq_false, not_false_eq_true, Int.reduceNe, List.getElem?_cons_zero, List.getElem?_cons_succ]
  refine bslM_intro (by simp [allLen, AV.cells]) (by simp) fun g hg => ?_
  simp (dsimp := false) (implicitDefEqProofs := false) (maxSteps := 1000000) (disch := first | omega | assumption | (simp only [rL, Nat.reduceAdd]; done) | (simp only [rL, Nat.reduceAdd]; omega)) only [↓rD, rU, ev, ofConst, ofCell, ↓reduceIte, Nat.reduceEqDiff, Nat.reduceAdd, Nat.reduceSub, Nat.reduceMul, Nat.reduceLeDiff, Nat.reduceLT, Int.reduceNeg, Int.reduceToNat, Int.reduceAdd, Int.reduceSub, Int.reduceMul, Int.reduceLT, Int.reduceLE, Int.reduceEq, rX, dg_cells, dg_fold, List.drop_succ_cons, ↓rF, rG, ne_eq, not_true_eq_false, not_false_eq_true, Int.reduceNe, List.getElem?_cons_zero, List.getElem?_cons_succ]
  refine ⟨_, Hp.sub_refl, g, hg, rfl, ?_⟩
  rfl

/-! words and spare places -/
theorem wlx_length {w : List UInt32} {sp : List AV} : (wl w ++ sp).length = w.length + sp.length := by simp [wl]
theorem wlx_at {w : List UInt32} {sp : List AV} {i : Nat} (h : i < w.length) : mkv false 1 ((wl w ++ sp).drop i) = .v (.int .u32 (w.getD i 0).toNat) := by
  rw [List.drop_append_of_le_length (by simp [wl]; omega)]
  simp only [mkv, wl]
  rw [← List.map_drop, List.drop_eq_getElem_cons h]
  simp [List.getD, h]
theorem wlx_at0 {w : List UInt32} {sp : List AV} (h : 0 < w.length) : mkv false 1 (wl w ++ sp) = .v (.int .u32 (w.getD 0 0).toNat) := wlx_at (i := 0) h
theorem wlx_put {w : List UInt32} {sp : List AV} {i : Nat} (x : UInt32) (h : i < w.length) : putAt (wl w ++ sp) i [.v (.int .u32 x.toNat)] = wl (w.set i x) ++ sp := by
  rw [← wl_put x h, putAt, putAt]
  have h1 : i ≤ (wl w).length := by rw [wl_length]; omega
  have h2 : i + 1 ≤ (wl w).length := by rw [wl_length]; omega
  rw [List.take_append_of_le_length h1, List.length_singleton, List.drop_append_of_le_length h2]
  simp

/-- a block's word, byte by byte -/
def wacc (bs : List UInt8) (i : Nat) : Nat → UInt32
  | 0 => 0
  | n + 1 => 256 * wacc bs i n + (bs.getD (4 * i + n) 0).toUInt32
theorem or_nat (x y k : Nat) (h : y < 2 ^ k) : x * 2 ^ k ||| y = x * 2 ^ k + y := by
  have := Nat.shiftLeft_add_eq_or_of_lt (a := x) (i := k) (b := y) h
  rw [Nat.shiftLeft_eq] at this; exact this.symm
theorem four_nat (a b c d : Nat) (hb : b < 256) (hc : c < 256) (hd : d < 256) : a * 2 ^ 24 ||| b * 2 ^ 16 ||| c * 2 ^ 8 ||| d = ((a * 256 + b) * 256 + c) * 256 + d := by
  rw [or_nat a (b * 2 ^ 16) 24 (by omega), show a * 2 ^ 24 + b * 2 ^ 16 = (a * 256 + b) * 2 ^ 16 by omega, or_nat (a * 256 + b) (c * 2 ^ 8) 16 (by omega),
    show (a * 256 + b) * 2 ^ 16 + c * 2 ^ 8 = ((a * 256 + b) * 256 + c) * 2 ^ 8 by omega, or_nat _ d 8 (by omega)]
  all_goals omega
theorem four_word (a b c d : UInt8) : (256 : UInt32) * ((256 : UInt32) * ((256 : UInt32) * ((256 : UInt32) * (0 : UInt32) + a.toUInt32) + b.toUInt32) + c.toUInt32) + d.toUInt32 = a.toUInt32 <<< 24 ||| b.toUInt32 <<< 16 ||| c.toUInt32 <<< 8 ||| d.toUInt32 := by
  have ha := a.toNat_lt; have hb := b.toNat_lt; have hc := c.toNat_lt; have hd := d.toNat_lt
  apply UInt32.toNat_inj.1
  have e1 : (a.toUInt32 <<< 24).toNat = a.toNat * 2 ^ 24 := by
    rw [UInt32.toNat_shiftLeft]; simp [Nat.shiftLeft_eq]; omega
  have e2 : (b.toUInt32 <<< 16).toNat = b.toNat * 2 ^ 16 := by
    rw [UInt32.toNat_shiftLeft]; simp [Nat.shiftLeft_eq]; omega
  have e3 : (c.toUInt32 <<< 8).toNat = c.toNat * 2 ^ 8 := by
    rw [UInt32.toNat_shiftLeft]; simp [Nat.shiftLeft_eq]; omega
  have ed : d.toUInt32.toNat = d.toNat := by simp
  rw [UInt32.toNat_or, UInt32.toNat_or, UInt32.toNat_or, e1, e2, e3, ed, four_nat _ _ _ _ hb hc hd]
  simp only [UInt32.toNat_add, UInt32.toNat_mul, UInt8.toNat_toUInt32, UInt32.reduceToNat]
  omega
theorem wacc_word (bs : List UInt8) (i : Nat) : wacc bs i 4 = word bs i := four_word _ _ _ _
theorem cellsW_zero {w : List UInt32} (h : w.length < 64) : cellsW (w ++ [0]) = cellsW w := by
  have e : 64 - w.length = (64 - (w.length + 1)) + 1 := by omega
  simp only [cellsW, e, List.replicate_succ]
  simp
theorem cellsW_last {w : List UInt32} {i : Nat} {x : UInt32} (y : UInt32) (h : i = w.length) (h2 : w.length < 64) : putAt (cellsW (w ++ [x])) i [.v (.int .u32 y.toNat)] = cellsW (w ++ [y]) := by
  subst h
  simp [putAt, cellsW, List.take_append, List.drop_append]
end Go.Proofs.Ytapjikladjoicaa
/-
  ref01.turn.
-/
set_option maxRecDepth 100000
namespace Go.Proofs.Ytapjikladjoicaa
open Go Go.Av

theorem MO_words {s0 s : Hp} {v : List UInt32} {a : AV} (h : MO s0 s 1 (wl v) a) (h0 : v ≠ []) : ∃ l cap sp, a = .mb l v.length cap 1 ∧ s0 l = none ∧ s l = some (.cells (wl v ++ sp)) ∧ v.length + sp.length = cap ∧ cap ≤ maxLen := by
  obtain ⟨_, h | ⟨l, n, cap, cs, rfl, h1, h2, h3, h4, h5, h6, h7⟩⟩ := h
  · exact absurd (by simpa [wl] using h.1) h0
  · simp only [Nat.mul_one, wl_length] at h3 h4 h5
    subst h5
    refine ⟨l, cap, cs.drop v.length, rfl, h1, ?_, ?_, h7⟩
    · rw [← h4, List.take_append_drop]; exact h2
    · simp; omega

theorem rturn_aux (h K : List UInt32) (bs : List UInt8) (hh : h.length = 8) (hK64 : K.length = 64) (lh ch : Nat) (sph : List AV) (lb off : Nat) (csb : List AV) (lk : Nat) (s : Hp)
    (h1 : s lh = some (.cells (wl h ++ sph))) (h2 : s lb = some (.cells csb)) (h3 : off + 64 ≤ csb.length) (h4 : ∀ j, j < 64 → mkv false 1 (csb.drop (off + j)) = .v (.int .u8 (bs.getD j 0).toNat)) (h5 : s lk = some (.cells (wl K))) :
    AC Try.prog 92 [.mb lh 8 ch 1, .msl lb off 64 1, .mb lk 64 64 1] s fun r s' => MO s s' 1 (wl (List.zipWith (· + ·) (goR K (sched bs) h) h)) r := by
  refine AC_run hm prep92 (by simp) ?_
  simp (dsimp := false) (implicitDefEqProofs := false) (maxSteps := 1000000) (disch := first | omega | assumption | (simp only [rL, Nat.reduceAdd]; done) | (simp only [rL, Nat.reduceAdd]; omega)) only [↓rD, rU, ev, ofConst, ofCell, ↓reduceIte, Nat.reduceEqDiff, Nat.reduceAdd, Nat.reduceSub, Nat.reduceMul, Nat.reduceLeDiff, Nat.reduceLT, Int.reduceNeg, Int.reduceToNat, Int.reduceAdd, Int.reduceSub, Int.reduceMul, Int.reduceLT, Int.reduceLE, Int.reduceEq, rX, dg_cells, dg_fold, List.drop_succ_cons, ↓rF, rG, ne_eq, not_true_eq_false, not_false_eq_true, Int.reduceNe, List.getElem?_cons_zero, List.getElem?_cons_succ]
  refine mks_intro (n := 64) (by omega) (by omega) fun lw nw => ?_
  have dhw : lh ≠ lw := by rintro rfl; rw [nw] at h1; cases h1
  have dbw : lb ≠ lw := by rintro rfl; rw [nw] at h2; cases h2
  have dkw : lk ≠ lw := by rintro rfl; rw [nw] at h5; cases h5
  have ez : (List.replicate 64 [AV.v (.int .u32 0)]).flatten = cellsW (first bs 0) := rfl
  rw [ez]
  simp (dsimp := false) (implicitDefEqProofs := false) (maxSteps := 1000000) (disch := first | omega | assumption | (simp only [rL, Nat.reduceAdd]; done) | (simp only [rL, Nat.reduceAdd]; omega)) only [↓rD, rU, ev, ofConst, ofCell, ↓reduceIte, Nat.reduceEqDiff, Nat.reduceAdd, Nat.reduceSub, Nat.reduceMul, Nat.reduceLeDiff, Nat.reduceLT, Int.reduceNeg, Int.reduceToNat, Int.reduceAdd, Int.reduceSub, Int.reduceMul, Int.reduceLT, Int.reduceLE, Int.reduceEq, rX, dg_cells, dg_fold, List.drop_succ_cons, ↓rF, rG, ne_eq, not_true_eq_false, not_false_eq_true, Int.reduceNe, List.getElem?_cons_zero, List.getElem?_cons_succ]
  refine loop_intro (fun f s' => ∃ i : Nat, i ≤ 16 ∧ s' = s.set lw (.cells (cellsW (first bs i))) ∧ f 0 = .mb lh 8 ch 1 ∧ f 1 = .msl lb off 64 1 ∧ f 2 = .mb lk 64 64 1 ∧ f 7 = .mb lw 64 64 1 ∧ f 8 = .v (.int .i64 i))
    (fun f _ => match f 8 with | .v (.int _ n) => (16 - n).toNat | _ => 0) ⟨0, by omega, ?_⟩ ?_
  · simp (dsimp := false) (implicitDefEqProofs := false) (maxSteps := 1000000) (disch := first | omega | assumption | (simp only [rL, Nat.reduceAdd]; done) | (simp only [rL, Nat.reduceAdd]; omega)) only [↓rD, rU, ev, ofConst, ofCell, ↓reduceIte, Nat.reduceEqDiff, Nat.reduceAdd, Nat.reduceSub, Nat.reduceMul, Nat.reduceLeDiff, Nat.reduceLT, Int.reduceNeg, Int.reduceToNat, Int.reduceAdd, Int.reduceSub, Int.reduceMul, Int.reduceLT, Int.reduceLE, Int.reduceEq, rX, dg_cells, dg_fold, List.drop_succ_cons, ↓rF, rG, ne_eq, not_true_eq_false, not_false_eq_true, Int.reduceNe, List.getElem?_cons_zero, List.getElem?_cons_succ]
  · rintro f _ ⟨i, hi, rfl, f0, f1, f2, f7, f8⟩
    have hlen : (first bs i).length = i := by simp [first]
    by_cases hlt : (i : Int) < 16
    · rw [← cellsW_zero (w := first bs i) (by omega)]
      simp (dsimp := false) (implicitDefEqProofs := false) (maxSteps := 1000000) (disch := first | omega | assumption | (simp only [rL, Nat.reduceAdd]; done) | (simp only [rL, Nat.reduceAdd]; omega)) only [↓rD, rU, ev, ofConst, ofCell, ↓reduceIte, Nat.reduceEqDiff, Nat.reduceAdd, Nat.reduceSub, Nat.reduceMul, Nat.reduceLeDiff, Nat.reduceLT, Int.reduceNeg, Int.reduceToNat, Int.reduceAdd, Int.reduceSub, Int.reduceMul, Int.reduceLT, Int.reduceLE, Int.reduceEq, rX, dg_cells, dg_fold, List.drop_succ_cons, ↓rF, rG, ne_eq, not_true_eq_false, not_false_eq_true, Int.reduceNe, List.getElem?_cons_zero, List.getElem?_cons_succ, f0, f1, f2, f7, f8, hlt]
      refine loop_intro (fun f s' => ∃ n : Nat, n ≤ 4 ∧ s' = s.set lw (.cells (cellsW (first bs i ++ [wacc bs i n]))) ∧ f 0 = .mb lh 8 ch 1 ∧ f 1 = .msl lb off 64 1 ∧ f 2 = .mb lk 64 64 1 ∧ f 7 = .mb lw 64 64 1 ∧ f 8 = .v (.int .i64 i) ∧ f 9 = .v (.int .i64 n))
        (fun f _ => match f 9 with | .v (.int _ n) => (4 - n).toNat | _ => 0) ⟨0, by omega, ?_⟩ ?_
      · simp (dsimp := false) (implicitDefEqProofs := false) (maxSteps := 1000000) (disch := first | omega | assumption | (simp only [rL, Nat.reduceAdd]; done) | (simp only [rL, Nat.reduceAdd]; omega)) only [↓rD, rU, ev, ofConst, ofCell, ↓reduceIte, Nat.reduceEqDiff, Nat.reduceAdd, Nat.reduceSub, Nat.reduceMul, Nat.reduceLeDiff, Nat.reduceLT, Int.reduceNeg, Int.reduceToNat, Int.reduceAdd, Int.reduceSub, Int.reduceMul, Int.reduceLT, Int.reduceLE, Int.reduceEq, rX, dg_cells, dg_fold, List.drop_succ_cons, ↓rF, rG, ne_eq, not_true_eq_false, not_false_eq_true, Int.reduceNe, List.getElem?_cons_zero, List.getElem?_cons_succ, f0, f1, f2, f7, f8]
        rfl
      · rintro g _ ⟨n, hn, rfl, i0, i1, i2, i7, i8, i9⟩
        by_cases hn4 : (n : Int) < 4
        · have hl : (cellsW (first bs i ++ [wacc bs i n])).length = 64 := cellsW_length (by simp [hlen]; omega)
          have hat : mkv false 1 ((cellsW (first bs i ++ [wacc bs i n])).drop i) = .v (.int .u32 (wacc bs i n).toNat) := by
            rw [cellsW_at (by simp [hlen])]
            simp [List.getD, hlen]
          have e0 : (4 * (i : Int) + (n : Int)).toNat = 4 * i + n := by omega
          have hbt := h4 (4 * i + n) (by omega)
          simp (dsimp := false) (implicitDefEqProofs := false) (maxSteps := 1000000) (disch := first | omega | assumption | (simp only [rL, Nat.reduceAdd]; done) | (simp only [rL, Nat.reduceAdd]; omega)) only [↓rD, rU, ev, ofConst, ofCell, ↓reduceIte, Nat.reduceEqDiff, Nat.reduceAdd, Nat.reduceSub, Nat.reduceMul, Nat.reduceLeDiff, Nat.reduceLT, Int.reduceNeg, Int.reduceToNat, Int.reduceAdd, Int.reduceSub, Int.reduceMul, Int.reduceLT, Int.reduceLE, Int.reduceEq, rX, dg_cells, dg_fold, List.drop_succ_cons, ↓rF, rG, ne_eq, not_true_eq_false, not_false_eq_true, Int.reduceNe, List.getElem?_cons_zero, List.getElem?_cons_succ, i0, i1, i2, i7, i8, i9, hn4, hl, hat, iaSA_msl, e0, Hp.read_of h2, Ne.symm dbw, dbw, hbt, mul256_u32]
          rw [cellsW_last _ hlen.symm (by omega)]
          exact ⟨⟨n + 1, by omega, rfl, by simp⟩, by omega⟩
        · obtain rfl : n = 4 := by omega
          simp (dsimp := false) (implicitDefEqProofs := false) (maxSteps := 1000000) (disch := first | omega | assumption | (simp only [rL, Nat.reduceAdd]; done) | (simp only [rL, Nat.reduceAdd]; omega)) only [↓rD, rU, ev, ofConst, ofCell, ↓reduceIte, Nat.reduceEqDiff, Nat.reduceAdd, Nat.reduceSub, Nat.reduceMul, Nat.reduceLeDiff, Nat.reduceLT, Int.reduceNeg, Int.reduceToNat, Int.reduceAdd, Int.reduceSub, Int.reduceMul, Int.reduceLT, Int.reduceLE, Int.reduceEq, rX, dg_cells, dg_fold, List.drop_succ_cons, ↓rF, rG, ne_eq, not_true_eq_false, not_false_eq_true, Int.reduceNe, List.getElem?_cons_zero, List.getElem?_cons_succ, i0, i1, i2, i7, i8, i9, f8, hn4]
          refine ⟨⟨i + 1, by omega, ?_, by simp⟩, by omega⟩
          rw [wacc_word]
          simp only [first, List.range_succ, List.map_append, List.map_cons, List.map_nil]
    · obtain rfl : i = 16 := by omega
      simp (dsimp := false) (implicitDefEqProofs := false) (maxSteps := 1000000) (disch := first | omega | assumption | (simp only [rL, Nat.reduceAdd]; done) | (simp only [rL, Nat.reduceAdd]; omega)) only [↓rD, rU, ev, ofConst, ofCell, ↓reduceIte, Nat.reduceEqDiff, Nat.reduceAdd, Nat.reduceSub, Nat.reduceMul, Nat.reduceLeDiff, Nat.reduceLT, Int.reduceNeg, Int.reduceToNat, Int.reduceAdd, Int.reduceSub, Int.reduceMul, Int.reduceLT, Int.reduceLE, Int.reduceEq, rX, dg_cells, dg_fold, List.drop_succ_cons, ↓rF, rG, ne_eq, not_true_eq_false, not_false_eq_true, Int.reduceNe, List.getElem?_cons_zero, List.getElem?_cons_succ, f0, f1, f2, f7, f8, hlt]
      refine loop_intro (fun f s' => ∃ (w : List UInt32) (i : Nat), i ≤ 48 ∧ w.length = 16 + i ∧ grow (48 - i) w = sched bs ∧ f 0 = .mb lh 8 ch 1 ∧ f 2 = .mb lk 64 64 1 ∧ f 7 = .mb lw 64 64 1 ∧ f 10 = .v (.int .i64 ((16 + i : Nat) : Int)) ∧ s' = s.set lw (.cells (cellsW w)))
        (fun f _ => match f 10 with | .v (.int _ n) => (64 - n).toNat | _ => 0) ⟨first bs 16, 0, by omega, hlen, rfl, ?_⟩ ?_
      · simp (dsimp := false) (implicitDefEqProofs := false) (maxSteps := 1000000) (disch := first | omega | assumption | (simp only [rL, Nat.reduceAdd]; done) | (simp only [rL, Nat.reduceAdd]; omega)) only [↓rD, rU, ev, ofConst, ofCell, ↓reduceIte, Nat.reduceEqDiff, Nat.reduceAdd, Nat.reduceSub, Nat.reduceMul, Nat.reduceLeDiff, Nat.reduceLT, Int.reduceNeg, Int.reduceToNat, Int.reduceAdd, Int.reduceSub, Int.reduceMul, Int.reduceLT, Int.reduceLE, Int.reduceEq, rX, dg_cells, dg_fold, List.drop_succ_cons, ↓rF, rG, ne_eq, not_true_eq_false, not_false_eq_true, Int.reduceNe, List.getElem?_cons_zero, List.getElem?_cons_succ, f0, f1, f2, f7]
        rfl
      · rintro f _ ⟨w, i, hi, hw, hg, f0, f2, f7, f10, rfl⟩
        by_cases hlt : ((16 + i : Nat) : Int) < 64
        · have hl : (cellsW w).length = 64 := cellsW_length (by omega)
          have e1 : (((16 + i : Nat) : Int) - 15).toNat = i + 1 := by omega
          have e2 : (((16 + i : Nat) : Int) - 2).toNat = i + 14 := by omega
          have e3 : (((16 + i : Nat) : Int) - 16).toNat = i := by omega
          have e4 : (((16 + i : Nat) : Int) - 7).toNat = i + 9 := by omega
          simp (dsimp := false) (implicitDefEqProofs := false) (maxSteps := 1000000) (disch := first | omega | assumption | (simp only [rL, Nat.reduceAdd]; done) | (simp only [rL, Nat.reduceAdd]; omega)) only [↓rD, rU, ev, ofConst, ofCell, ↓reduceIte, Nat.reduceEqDiff, Nat.reduceAdd, Nat.reduceSub, Nat.reduceMul, Nat.reduceLeDiff, Nat.reduceLT, Int.reduceNeg, Int.reduceToNat, Int.reduceAdd, Int.reduceSub, Int.reduceMul, Int.reduceLT, Int.reduceLE, Int.reduceEq, rX, dg_cells, dg_fold, List.drop_succ_cons, ↓rF, rG, ne_eq, not_true_eq_false, not_false_eq_true, Int.reduceNe, List.getElem?_cons_zero, List.getElem?_cons_succ, f0, f2, f7, f10, hlt, e1, e2, e3, e4, hl, cellsW_at, quo8_u32, quo1024_u32]
          refine call_intro (turned_spec _ _ 25 (by decide) (by decide) _) ?_
          rintro _ _ ⟨rfl, rfl⟩
          simp (dsimp := false) (implicitDefEqProofs := false) (maxSteps := 1000000) (disch := first | omega | assumption | (simp only [rL, Nat.reduceAdd]; done) | (simp only [rL, Nat.reduceAdd]; omega)) only [↓rD, rU, ev, ofConst, ofCell, ↓reduceIte, Nat.reduceEqDiff, Nat.reduceAdd, Nat.reduceSub, Nat.reduceMul, Nat.reduceLeDiff, Nat.reduceLT, Int.reduceNeg, Int.reduceToNat, Int.reduceAdd, Int.reduceSub, Int.reduceMul, Int.reduceLT, Int.reduceLE, Int.reduceEq, rX, dg_cells, dg_fold, List.drop_succ_cons, ↓rF, rG, ne_eq, not_true_eq_false, not_false_eq_true, Int.reduceNe, List.getElem?_cons_zero, List.getElem?_cons_succ, f0, f2, f7, f10, hlt, e1, e2, e3, e4, hl, cellsW_at, quo8_u32, quo1024_u32]
          refine call_intro (turned_spec _ _ 14 (by decide) (by decide) _) ?_
          rintro _ _ ⟨rfl, rfl⟩
          simp (dsimp := false) (implicitDefEqProofs := false) (maxSteps := 1000000) (disch := first | omega | assumption | (simp only [rL, Nat.reduceAdd]; done) | (simp only [rL, Nat.reduceAdd]; omega)) only [↓rD, rU, ev, ofConst, ofCell, ↓reduceIte, Nat.reduceEqDiff, Nat.reduceAdd, Nat.reduceSub, Nat.reduceMul, Nat.reduceLeDiff, Nat.reduceLT, Int.reduceNeg, Int.reduceToNat, Int.reduceAdd, Int.reduceSub, Int.reduceMul, Int.reduceLT, Int.reduceLE, Int.reduceEq, rX, dg_cells, dg_fold, List.drop_succ_cons, ↓rF, rG, ne_eq, not_true_eq_false, not_false_eq_true, Int.reduceNe, List.getElem?_cons_zero, List.getElem?_cons_succ, f0, f2, f7, f10, hlt, e1, e2, e3, e4, hl, cellsW_at, quo8_u32, quo1024_u32]
          refine call_intro (turned_spec _ _ 15 (by decide) (by decide) _) ?_
          rintro _ _ ⟨rfl, rfl⟩
          simp (dsimp := false) (implicitDefEqProofs := false) (maxSteps := 1000000) (disch := first | omega | assumption | (simp only [rL, Nat.reduceAdd]; done) | (simp only [rL, Nat.reduceAdd]; omega)) only [↓rD, rU, ev, ofConst, ofCell, ↓reduceIte, Nat.reduceEqDiff, Nat.reduceAdd, Nat.reduceSub, Nat.reduceMul, Nat.reduceLeDiff, Nat.reduceLT, Int.reduceNeg, Int.reduceToNat, Int.reduceAdd, Int.reduceSub, Int.reduceMul, Int.reduceLT, Int.reduceLE, Int.reduceEq, rX, dg_cells, dg_fold, List.drop_succ_cons, ↓rF, rG, ne_eq, not_true_eq_false, not_false_eq_true, Int.reduceNe, List.getElem?_cons_zero, List.getElem?_cons_succ, f0, f2, f7, f10, hlt, e1, e2, e3, e4, hl, cellsW_at, quo8_u32, quo1024_u32]
          refine call_intro (turned_spec _ _ 13 (by decide) (by decide) _) ?_
          rintro _ _ ⟨rfl, rfl⟩
          simp (dsimp := false) (implicitDefEqProofs := false) (maxSteps := 1000000) (disch := first | omega | assumption | (simp only [rL, Nat.reduceAdd]; done) | (simp only [rL, Nat.reduceAdd]; omega)) only [↓rD, rU, ev, ofConst, ofCell, ↓reduceIte, Nat.reduceEqDiff, Nat.reduceAdd, Nat.reduceSub, Nat.reduceMul, Nat.reduceLeDiff, Nat.reduceLT, Int.reduceNeg, Int.reduceToNat, Int.reduceAdd, Int.reduceSub, Int.reduceMul, Int.reduceLT, Int.reduceLE, Int.reduceEq, rX, dg_cells, dg_fold, List.drop_succ_cons, ↓rF, rG, ne_eq, not_true_eq_false, not_false_eq_true, Int.reduceNe, List.getElem?_cons_zero, List.getElem?_cons_succ, f0, f2, f7, f10, hlt, e1, e2, e3, e4, hl, cellsW_at, quo8_u32, quo1024_u32]
          rw [cellsW_put _ hw.symm (by omega)]
          refine ⟨⟨_, i + 1, by omega, by simp [hw]; omega, ?_, ?_, rfl⟩, by omega⟩
          · rw [← hg, show 48 - i = (48 - (i + 1)) + 1 by omega, grow, more, hw]
            rw [show 16 + i - 16 = i by omega, show 16 + i - 15 = i + 1 by omega, show 16 + i - 7 = i + 9 by omega, show 16 + i - 2 = i + 14 by omega]
            rfl
          · simp; omega
        · obtain rfl : i = 48 := by omega
          have hw' : w = sched bs := hg
          have hcw : cellsW w = wl w := by simp [cellsW, hw, wl]
          rw [hcw]
          clear hg
          generalize sched bs = S at *
          subst hw'
          have srch : srcF (s.set lw (.cells (wl w))) 1 (.mb lh 8 ch 1) = some (8, wl h) := by
            have : (s.set lw (.cells (wl w))) lh = some (.cells (wl h ++ sph)) := by rw [Hp.set_ne _ _ dhw]; exact h1
            have e : (wl h).length = 8 := by rw [wl_length, hh]
            simp [srcF, Hp.read_of this, e]
          simp (dsimp := false) (implicitDefEqProofs := false) (maxSteps := 1000000) (disch := first | omega | assumption | (simp only [rL, Nat.reduceAdd]; done) | (simp only [rL, Nat.reduceAdd]; omega)) only [↓rD, rU, ev, ofConst, ofCell, ↓reduceIte, Nat.reduceEqDiff, Nat.reduceAdd, Nat.reduceSub, Nat.reduceMul, Nat.reduceLeDiff, Nat.reduceLT, Int.reduceNeg, Int.reduceToNat, Int.reduceAdd, Int.reduceSub, Int.reduceMul, Int.reduceLT, Int.reduceLE, Int.reduceEq, rX, dg_cells, dg_fold, List.drop_succ_cons, ↓rF, rG, ne_eq, not_true_eq_false, not_false_eq_true, Int.reduceNe, List.getElem?_cons_zero, List.getElem?_cons_succ, f0, f2, f7, f10, hlt, bslM_nil]
          refine appM_own (s0 := s.set lw (.cells (wl w))) (MO.zero Hp.sub_refl) (by omega) srch (by rw [wl_length, hh]) (by rw [wl_length, hh]; simp) (by rw [wl_length, hh]; simp) fun x s2 m2 => ?_
          rw [List.nil_append] at m2
          simp (dsimp := false) (implicitDefEqProofs := false) (maxSteps := 1000000) (disch := first | omega | assumption | (simp only [rL, Nat.reduceAdd]; done) | (simp only [rL, Nat.reduceAdd]; omega)) only [↓rD, rU, ev, ofConst, ofCell, ↓reduceIte, Nat.reduceEqDiff, Nat.reduceAdd, Nat.reduceSub, Nat.reduceMul, Nat.reduceLeDiff, Nat.reduceLT, Int.reduceNeg, Int.reduceToNat, Int.reduceAdd, Int.reduceSub, Int.reduceMul, Int.reduceLT, Int.reduceLE, Int.reduceEq, rX, dg_cells, dg_fold, List.drop_succ_cons, ↓rF, rG, ne_eq, not_true_eq_false, not_false_eq_true, Int.reduceNe, List.getElem?_cons_zero, List.getElem?_cons_succ, f0, f2, f7]
          have wKl : (wl K).length = 64 := by rw [wl_length, hK64]
          have wWl : (wl w).length = 64 := by rw [wl_length, hw]
          have k5 : (s.set lw (.cells (wl w))) lk = some (.cells (wl K)) := by rw [Hp.set_ne _ _ dkw]; exact h5
          have k7 : (s.set lw (.cells (wl w))) lw = some (.cells (wl w)) := Hp.set_same _ _ _
          have k0 : (s.set lw (.cells (wl w))) lh = some (.cells (wl h ++ sph)) := by rw [Hp.set_ne _ _ dhw]; exact h1
          have hsub : s.sub (s.set lw (.cells (wl w))) := Hp.sub_new Hp.sub_refl nw
          generalize s.set lw (.cells (wl w)) = S0 at *
          refine loop_intro (fun f s' => ∃ (i : Nat) (v : List UInt32), i ≤ 64 ∧ v.length = 8 ∧ goR (K.drop i) (w.drop i) v = goR K w h ∧ MO S0 s' 1 (wl v) (f 13) ∧ f 0 = .mb lh 8 ch 1 ∧ f 2 = .mb lk 64 64 1 ∧ f 7 = .mb lw 64 64 1 ∧ f 14 = .v (.int .i64 i))
            (fun f _ => match f 14 with | .v (.int _ n) => (64 - n).toNat | _ => 0) ⟨0, h, by omega, hh, rfl, ?_⟩ ?_
          · simp (dsimp := false) (implicitDefEqProofs := false) (maxSteps := 1000000) (disch := first | omega | assumption | (simp only [rL, Nat.reduceAdd]; done) | (simp only [rL, Nat.reduceAdd]; omega)) only [↓rD, rU, ev, ofConst, ofCell, ↓reduceIte, Nat.reduceEqDiff, Nat.reduceAdd, Nat.reduceSub, Nat.reduceMul, Nat.reduceLeDiff, Nat.reduceLT, Int.reduceNeg, Int.reduceToNat, Int.reduceAdd, Int.reduceSub, Int.reduceMul, Int.reduceLT, Int.reduceLE, Int.reduceEq, rX, dg_cells, dg_fold, List.drop_succ_cons, ↓rF, rG, ne_eq, not_true_eq_false, not_false_eq_true, Int.reduceNe, List.getElem?_cons_zero, List.getElem?_cons_succ, f0, f2, f7]
            exact m2
          clear m2
          rintro f s2 ⟨i, v, hi, hv, hg, m2, f0, f2, f7, f14⟩
          have m2s := m2.1
          obtain ⟨lv, cap, sp, f13, nv, gv, hcap, hmax⟩ := MO_words m2 (by intro e; rw [e] at hv; cases hv)
          rw [hv] at f13 hcap
          by_cases hlt : (i : Int) < 64
          · obtain ⟨a, b, c, d, e, f', g, k', rfl⟩ : ∃ a b c d e f' g k', v = [a, b, c, d, e, f', g, k'] := by
              match v, hv with
              | [a, b, c, d, e, f', g, k'], _ => exact ⟨a, b, c, d, e, f', g, k', rfl⟩
            have hvl : (wl [a, b, c, d, e, f', g, k'] ++ sp).length = 8 + sp.length := by rw [wlx_length, hv]
            have rv := Hp.read_of gv
            have rw' := Hp.read_of (m2s _ _ k7)
            have rk := Hp.read_of (m2s _ _ k5)
            simp (dsimp := false) (implicitDefEqProofs := false) (maxSteps := 1000000) (disch := first | omega | assumption | (simp only [rL, Nat.reduceAdd]; done) | (simp only [rL, Nat.reduceAdd]; omega)) only [↓rD, rU, ev, ofConst, ofCell, ↓reduceIte, Nat.reduceEqDiff, Nat.reduceAdd, Nat.reduceSub, Nat.reduceMul, Nat.reduceLeDiff, Nat.reduceLT, Int.reduceNeg, Int.reduceToNat, Int.reduceAdd, Int.reduceSub, Int.reduceMul, Int.reduceLT, Int.reduceLE, Int.reduceEq, rX, dg_cells, dg_fold, List.drop_succ_cons, ↓rF, rG, ne_eq, not_true_eq_false, not_false_eq_true, Int.reduceNe, List.getElem?_cons_zero, List.getElem?_cons_succ, f0, f2, f7, f13, f14, hlt, hvl, rv, rw', rk, wlx_at, wlx_at0, wl_at, wKl, wWl, com4_u32, List.getD_cons_zero, List.getD_cons_succ]
            refine call_intro (turned_spec _ _ 26 (by decide) (by decide) _) ?_
            rintro _ s2 ⟨rfl, rfl⟩
            simp (dsimp := false) (implicitDefEqProofs := false) (maxSteps := 1000000) (disch := first | omega | assumption | (simp only [rL, Nat.reduceAdd]; done) | (simp only [rL, Nat.reduceAdd]; omega)) only [↓rD, rU, ev, ofConst, ofCell, ↓reduceIte, Nat.reduceEqDiff, Nat.reduceAdd, Nat.reduceSub, Nat.reduceMul, Nat.reduceLeDiff, Nat.reduceLT, Int.reduceNeg, Int.reduceToNat, Int.reduceAdd, Int.reduceSub, Int.reduceMul, Int.reduceLT, Int.reduceLE, Int.reduceEq, rX, dg_cells, dg_fold, List.drop_succ_cons, ↓rF, rG, ne_eq, not_true_eq_false, not_false_eq_true, Int.reduceNe, List.getElem?_cons_zero, List.getElem?_cons_succ, f0, f2, f7, f13, f14, hlt, hvl, rv, rw', rk, wlx_at, wlx_at0, wl_at, wKl, wWl, com4_u32, List.getD_cons_zero, List.getD_cons_succ]
            refine call_intro (turned_spec _ _ 21 (by decide) (by decide) _) ?_
            rintro _ s2 ⟨rfl, rfl⟩
            simp (dsimp := false) (implicitDefEqProofs := false) (maxSteps := 1000000) (disch := first | omega | assumption | (simp only [rL, Nat.reduceAdd]; done) | (simp only [rL, Nat.reduceAdd]; omega)) only [↓rD, rU, ev, ofConst, ofCell, ↓reduceIte, Nat.reduceEqDiff, Nat.reduceAdd, Nat.reduceSub, Nat.reduceMul, Nat.reduceLeDiff, Nat.reduceLT, Int.reduceNeg, Int.reduceToNat, Int.reduceAdd, Int.reduceSub, Int.reduceMul, Int.reduceLT, Int.reduceLE, Int.reduceEq, rX, dg_cells, dg_fold, List.drop_succ_cons, ↓rF, rG, ne_eq, not_true_eq_false, not_false_eq_true, Int.reduceNe, List.getElem?_cons_zero, List.getElem?_cons_succ, f0, f2, f7, f13, f14, hlt, hvl, rv, rw', rk, wlx_at, wlx_at0, wl_at, wKl, wWl, com4_u32, List.getD_cons_zero, List.getD_cons_succ]
            refine call_intro (turned_spec _ _ 7 (by decide) (by decide) _) ?_
            rintro _ s2 ⟨rfl, rfl⟩
            simp (dsimp := false) (implicitDefEqProofs := false) (maxSteps := 1000000) (disch := first | omega | assumption | (simp only [rL, Nat.reduceAdd]; done) | (simp only [rL, Nat.reduceAdd]; omega)) only [↓rD, rU, ev, ofConst, ofCell, ↓reduceIte, Nat.reduceEqDiff, Nat.reduceAdd, Nat.reduceSub, Nat.reduceMul, Nat.reduceLeDiff, Nat.reduceLT, Int.reduceNeg, Int.reduceToNat, Int.reduceAdd, Int.reduceSub, Int.reduceMul, Int.reduceLT, Int.reduceLE, Int.reduceEq, rX, dg_cells, dg_fold, List.drop_succ_cons, ↓rF, rG, ne_eq, not_true_eq_false, not_false_eq_true, Int.reduceNe, List.getElem?_cons_zero, List.getElem?_cons_succ, f0, f2, f7, f13, f14, hlt, hvl, rv, rw', rk, wlx_at, wlx_at0, wl_at, wKl, wWl, com4_u32, List.getD_cons_zero, List.getD_cons_succ]
            refine call_intro (turned_spec _ _ 30 (by decide) (by decide) _) ?_
            rintro _ s2 ⟨rfl, rfl⟩
            simp (dsimp := false) (implicitDefEqProofs := false) (maxSteps := 1000000) (disch := first | omega | assumption | (simp only [rL, Nat.reduceAdd]; done) | (simp only [rL, Nat.reduceAdd]; omega)) only [↓rD, rU, ev, ofConst, ofCell, ↓reduceIte, Nat.reduceEqDiff, Nat.reduceAdd, Nat.reduceSub, Nat.reduceMul, Nat.reduceLeDiff, Nat.reduceLT, Int.reduceNeg, Int.reduceToNat, Int.reduceAdd, Int.reduceSub, Int.reduceMul, Int.reduceLT, Int.reduceLE, Int.reduceEq, rX, dg_cells, dg_fold, List.drop_succ_cons, ↓rF, rG, ne_eq, not_true_eq_false, not_false_eq_true, Int.reduceNe, List.getElem?_cons_zero, List.getElem?_cons_succ, f0, f2, f7, f13, f14, hlt, hvl, rv, rw', rk, wlx_at, wlx_at0, wl_at, wKl, wWl, com4_u32, List.getD_cons_zero, List.getD_cons_succ]
            refine call_intro (turned_spec _ _ 19 (by decide) (by decide) _) ?_
            rintro _ s2 ⟨rfl, rfl⟩
            simp (dsimp := false) (implicitDefEqProofs := false) (maxSteps := 1000000) (disch := first | omega | assumption | (simp only [rL, Nat.reduceAdd]; done) | (simp only [rL, Nat.reduceAdd]; omega)) only [↓rD, rU, ev, ofConst, ofCell, ↓reduceIte, Nat.reduceEqDiff, Nat.reduceAdd, Nat.reduceSub, Nat.reduceMul, Nat.reduceLeDiff, Nat.reduceLT, Int.reduceNeg, Int.reduceToNat, Int.reduceAdd, Int.reduceSub, Int.reduceMul, Int.reduceLT, Int.reduceLE, Int.reduceEq, rX, dg_cells, dg_fold, List.drop_succ_cons, ↓rF, rG, ne_eq, not_true_eq_false, not_false_eq_true, Int.reduceNe, List.getElem?_cons_zero, List.getElem?_cons_succ, f0, f2, f7, f13, f14, hlt, hvl, rv, rw', rk, wlx_at, wlx_at0, wl_at, wKl, wWl, com4_u32, List.getD_cons_zero, List.getD_cons_succ]
            refine call_intro (turned_spec _ _ 10 (by decide) (by decide) _) ?_
            rintro _ s2 ⟨rfl, rfl⟩
            simp (dsimp := false) (implicitDefEqProofs := false) (maxSteps := 1000000) (disch := first | omega | assumption | (simp only [rL, Nat.reduceAdd]; done) | (simp only [rL, Nat.reduceAdd]; omega)) only [↓rD, rU, ev, ofConst, ofCell, ↓reduceIte, Nat.reduceEqDiff, Nat.reduceAdd, Nat.reduceSub, Nat.reduceMul, Nat.reduceLeDiff, Nat.reduceLT, Int.reduceNeg, Int.reduceToNat, Int.reduceAdd, Int.reduceSub, Int.reduceMul, Int.reduceLT, Int.reduceLE, Int.reduceEq, rX, dg_cells, dg_fold, List.drop_succ_cons, ↓rF, rG, ne_eq, not_true_eq_false, not_false_eq_true, Int.reduceNe, List.getElem?_cons_zero, List.getElem?_cons_succ, f0, f2, f7, f13, f14, hlt, hvl, rv, rw', rk, wlx_at, wlx_at0, wl_at, wKl, wWl, com4_u32, List.getD_cons_zero, List.getD_cons_succ]
            refine bslM_intro (by simp [allLen, AV.cells]) (by simp) fun lg ng => ?_
            simp (dsimp := false) (implicitDefEqProofs := false) (maxSteps := 1000000) (disch := first | omega | assumption | (simp only [rL, Nat.reduceAdd]; done) | (simp only [rL, Nat.reduceAdd]; omega)) only [↓rD, rU, ev, ofConst, ofCell, ↓reduceIte, Nat.reduceEqDiff, Nat.reduceAdd, Nat.reduceSub, Nat.reduceMul, Nat.reduceLeDiff, Nat.reduceLT, Int.reduceNeg, Int.reduceToNat, Int.reduceAdd, Int.reduceSub, Int.reduceMul, Int.reduceLT, Int.reduceLE, Int.reduceEq, rX, dg_cells, dg_fold, List.drop_succ_cons, ↓rF, rG, ne_eq, not_true_eq_false, not_false_eq_true, Int.reduceNe, List.getElem?_cons_zero, List.getElem?_cons_succ, f0, f2, f7, f14]
            refine ⟨⟨i + 1, rnd (K.getD i 0) (w.getD i 0) [a, b, c, d, e, f', g, k'], by omega, rfl, ?_, ?_, by simp⟩, by omega⟩
            · rw [← hg, goR_drop K w _ i (by omega) (by omega)]
            · exact ⟨Hp.sub_new m2s (Hp.sub_none m2s ng), .inr ⟨lg, 8, 8, _, rfl, Hp.sub_none m2s ng, Hp.set_same _ _ _, rfl, rfl, rfl, by omega, by decide⟩⟩
          · obtain rfl : i = 64 := by omega
            have hv' : goR K w h = v := by
              rw [← hg, List.drop_of_length_le (by omega)]; rfl
            simp (dsimp := false) (implicitDefEqProofs := false) (maxSteps := 1000000) (disch := first | omega | assumption | (simp only [rL, Nat.reduceAdd]; done) | (simp only [rL, Nat.reduceAdd]; omega)) only [↓rD, rU, ev, ofConst, ofCell, ↓reduceIte, Nat.reduceEqDiff, Nat.reduceAdd, Nat.reduceSub, Nat.reduceMul, Nat.reduceLeDiff, Nat.reduceLT, Int.reduceNeg, Int.reduceToNat, Int.reduceAdd, Int.reduceSub, Int.reduceMul, Int.reduceLT, Int.reduceLE, Int.reduceEq, rX, dg_cells, dg_fold, List.drop_succ_cons, ↓rF, rG, ne_eq, not_true_eq_false, not_false_eq_true, Int.reduceNe, List.getElem?_cons_zero, List.getElem?_cons_succ, f0, f2, f7, f13, f14, hlt]
            have dhv : lh ≠ lv := by rintro rfl; rw [nv] at k0; cases k0
            have nsv := Hp.sub_none hsub nv
            have g0 := m2s _ _ k0
            refine loop_intro (fun f s' => ∃ i : Nat, i ≤ 8 ∧ f 0 = .mb lh 8 ch 1 ∧ f 13 = .mb lv 8 cap 1 ∧ f 19 = .v (.int .i64 i) ∧ s' = s2.set lv (.cells (wl (addTo i v h) ++ sp)))
              (fun f _ => match f 19 with | .v (.int _ n) => (8 - n).toNat | _ => 0) ⟨0, by omega, ?_⟩ ?_
            · have e0 : addTo 0 v h = v := rfl
              rw [e0, Hp.set_eq gv]
              simp (dsimp := false) (implicitDefEqProofs := false) (maxSteps := 1000000) (disch := first | omega | assumption | (simp only [rL, Nat.reduceAdd]; done) | (simp only [rL, Nat.reduceAdd]; omega)) only [↓rD, rU, ev, ofConst, ofCell, ↓reduceIte, Nat.reduceEqDiff, Nat.reduceAdd, Nat.reduceSub, Nat.reduceMul, Nat.reduceLeDiff, Nat.reduceLT, Int.reduceNeg, Int.reduceToNat, Int.reduceAdd, Int.reduceSub, Int.reduceMul, Int.reduceLT, Int.reduceLE, Int.reduceEq, rX, dg_cells, dg_fold, List.drop_succ_cons, ↓rF, rG, ne_eq, not_true_eq_false, not_false_eq_true, Int.reduceNe, List.getElem?_cons_zero, List.getElem?_cons_succ, f0, f13]
            · rintro f _ ⟨i, hi, f0, f13, f19, rfl⟩
              by_cases hlt : (i : Int) < 8
              · obtain ⟨ha, hb⟩ := addTo_put v h hv hh i (by omega)
                have hal : (wl (addTo i v h) ++ sp).length = 8 + sp.length := by rw [wlx_length, ha]
                have hhl : (wl h ++ sph).length = 8 + sph.length := by rw [wlx_length, hh]
                simp (dsimp := false) (implicitDefEqProofs := false) (maxSteps := 1000000) (disch := first | omega | assumption | (simp only [rL, Nat.reduceAdd]; done) | (simp only [rL, Nat.reduceAdd]; omega)) only [↓rD, rU, ev, ofConst, ofCell, ↓reduceIte, Nat.reduceEqDiff, Nat.reduceAdd, Nat.reduceSub, Nat.reduceMul, Nat.reduceLeDiff, Nat.reduceLT, Int.reduceNeg, Int.reduceToNat, Int.reduceAdd, Int.reduceSub, Int.reduceMul, Int.reduceLT, Int.reduceLE, Int.reduceEq, rX, dg_cells, dg_fold, List.drop_succ_cons, ↓rF, rG, ne_eq, not_true_eq_false, not_false_eq_true, Int.reduceNe, List.getElem?_cons_zero, List.getElem?_cons_succ, f0, f13, f19, hlt, hal, hhl, wlx_at, wlx_put, hb, Hp.read_of g0, dhv, Ne.symm dhv]
                exact ⟨⟨i + 1, by omega, by simp, rfl⟩, by omega⟩
              · obtain rfl : i = 8 := by omega
                have hz : addTo 8 v h = List.zipWith (· + ·) v h := by
                  simp only [addTo]; rw [List.take_of_length_le (by omega), List.take_of_length_le (by omega), List.drop_of_length_le (by omega), List.append_nil]
                have hzl : (wl (List.zipWith (· + ·) v h)).length = 8 := by rw [wl_length]; simp; omega
                rw [hz]
                simp (dsimp := false) (implicitDefEqProofs := false) (maxSteps := 1000000) (disch := first | omega | assumption | (simp only [rL, Nat.reduceAdd]; done) | (simp only [rL, Nat.reduceAdd]; omega)) only [↓rD, rU, ev, ofConst, ofCell, ↓reduceIte, Nat.reduceEqDiff, Nat.reduceAdd, Nat.reduceSub, Nat.reduceMul, Nat.reduceLeDiff, Nat.reduceLT, Int.reduceNeg, Int.reduceToNat, Int.reduceAdd, Int.reduceSub, Int.reduceMul, Int.reduceLT, Int.reduceLE, Int.reduceEq, rX, dg_cells, dg_fold, List.drop_succ_cons, ↓rF, rG, ne_eq, not_true_eq_false, not_false_eq_true, Int.reduceNe, List.getElem?_cons_zero, List.getElem?_cons_succ, f0, f13, f19, hlt]
                rw [hv']
                refine ⟨_, Hp.sub_refl, Hp.sub_new (Hp.sub_trans hsub m2s) nsv, .inr ⟨lv, 8, cap, _, rfl, nsv, Hp.set_same _ _ _, ?_, ?_, by rw [hzl], by omega, hmax⟩⟩
                · rw [List.length_append, hzl]; omega
                · rw [Nat.mul_one, ← hzl, List.take_left]
theorem rturn_spec (h : List UInt32) (bs : List UInt8) (hh : h.length = 8) (lh ch : Nat) (sph : List AV) (lb off : Nat) (csb : List AV) (lk : Nat) (s : Hp)
    (h1 : s lh = some (.cells (wl h ++ sph))) (h2 : s lb = some (.cells csb)) (h3 : off + 64 ≤ csb.length) (h4 : ∀ j, j < 64 → mkv false 1 (csb.drop (off + j)) = .v (.int .u8 (bs.getD j 0).toNat)) (h5 : s lk = some (.cells (wl K256))) :
    AC Try.prog 92 [.mb lh 8 ch 1, .msl lb off 64 1, .mb lk 64 64 1] s fun r s' => MO s s' 1 (wl (comp h bs)) r :=
  rturn_aux h K256 bs hh rfl lh ch sph lb off csb lk s h1 h2 h3 h4 h5
end Go.Proofs.Ytapjikladjoicaa
/-
  ref01.With, Sum, Preimage.
-/
set_option maxRecDepth 100000
namespace Go.Av
open Go
theorem srcF_mono {s s' : Hp} {k : Nat} {a : AV} {r : Nat × List AV} (hs : s.sub s') (h : srcF s k a = some r) : srcF s' k a = some r := by
  have hr : ∀ l cs, s.read l = some cs → s'.read l = some cs := by
    intro l cs hl
    unfold Hp.read at hl ⊢
    cases ho : s l with
    | none => rw [ho] at hl; cases hl
    | some o => rw [hs _ _ ho]; rw [ho] at hl; exact hl
  unfold srcF at h ⊢
  split at h
  · exact h
  · split at h
    · rename_i cs hc; rw [hr _ _ hc]; exact h
    · cases h
  · split at h
    · rename_i cs hc; rw [hr _ _ hc]; exact h
    · cases h
  · cases h
end Go.Av
namespace Go.Proofs.Ytapjikladjoicaa
open Go Go.Av

def padded (bs : List UInt8) : List UInt8 := bs ++ 128 :: List.replicate (zeros bs.length) 0 ++ eightB (8 * bs.length)
theorem padded_length (bs : List UInt8) : (padded bs).length = bs.length + 9 + zeros bs.length := by simp [padded, eightB]; omega
theorem padded_mod (bs : List UInt8) : (padded bs).length % 64 = 0 := by rw [padded_length]; unfold zeros; omega
theorem sha256_padded (bs : List UInt8) : sha256 bs = quads (blocks ((padded bs).length / 64) H256 (padded bs)) := by
  have hl := padded_length bs
  have hz : zeros bs.length < 64 := by unfold zeros; omega
  have e1 : padded bs = bs ++ (128 :: List.replicate (zeros bs.length) 0 ++ eightB (8 * bs.length)) := by simp [padded]
  have e2 : padB bs.length (bs.drop (64 * (bs.length / 64))) = (padded bs).drop (64 * (bs.length / 64)) := by
    rw [e1, List.drop_append_of_le_length (by omega)]; simp [padB]
  have hd : (padded bs).length / 64 = bs.length / 64 + ((padded bs).drop (64 * (bs.length / 64))).length / 64 := by
    rw [List.length_drop]; omega
  rw [sha256, e2, hd, blocks_add]
  congr 2
  rw [e1, blocks_append _ _ _ _ (by omega)]
theorem eightB_take (N j : Nat) (h : j < 8) : (eightB N).take j ++ [UInt8.ofNat (N >>> (56 - 8 * j) % 256)] = (eightB N).take (j + 1) := by
  have e : UInt8.ofNat (N >>> (56 - 8 * j) % 256) = UInt8.ofNat (N >>> (56 - 8 * j)) := by
    apply UInt8.toNat_inj.1
    rw [UInt8.toNat_ofNat', UInt8.toNat_ofNat']; omega
  rw [e]
  rcases (by omega : j = 0 ∨ j = 1 ∨ j = 2 ∨ j = 3 ∨ j = 4 ∨ j = 5 ∨ j = 6 ∨ j = 7) with rfl | rfl | rfl | rfl | rfl | rfl | rfl | rfl <;> rfl
theorem hbyte (x : UInt32) (k : Nat) : UInt8.ofNat ((x >>> UInt32.ofNat k).toNat % 256) = (x >>> UInt32.ofNat k).toUInt8 := by
  apply UInt8.toNat_inj.1
  rw [UInt8.toNat_ofNat']; simp
theorem quads_take (h : List UInt32) (hh : h.length = 8) (i : Nat) (hi : i < 32) : (quads h).take i ++ [UInt8.ofNat ((h.getD (i / 4) 0 >>> UInt32.ofNat (24 - 8 * (i % 4))).toNat % 256)] = (quads h).take (i + 1) := by
  rw [hbyte]
  have e0 : ∀ x : UInt32, (x >>> UInt32.ofNat 0).toUInt8 = x.toUInt8 := by intro x; simp
  have main : ∀ q : Nat, q < 8 → ∀ r : Nat, r < 4 → (quads h).take (4 * q + r) ++ [(h.getD q 0 >>> UInt32.ofNat (24 - 8 * r)).toUInt8] = (quads h).take (4 * q + r + 1) := by
    match h, hh with
    | [a, b, c, d, e, f, g, k], _ =>
      intro q hq r hr
      rcases (by omega : q = 0 ∨ q = 1 ∨ q = 2 ∨ q = 3 ∨ q = 4 ∨ q = 5 ∨ q = 6 ∨ q = 7) with rfl | rfl | rfl | rfl | rfl | rfl | rfl | rfl <;>
        rcases (by omega : r = 0 ∨ r = 1 ∨ r = 2 ∨ r = 3) with rfl | rfl | rfl | rfl <;> first | rfl | (simp only [List.getD_cons_zero, List.getD_cons_succ, Nat.reduceMul, Nat.reduceSub, e0]; rfl)
  have := main (i / 4) (by omega) (i % 4) (by omega)
  rwa [show 4 * (i / 4) + i % 4 = i by omega] at this
end Go.Proofs.Ytapjikladjoicaa
/-
  ref01.With, Sum.
-/
set_option maxRecDepth 100000
namespace Go.Proofs.Ytapjikladjoicaa
open Go Go.Av

theorem srcF_one {s : Hp} {g : Nat} {b : UInt8} : srcF (s.set g (.cells (flat [.v (.int .u8 (b.toNat : Int))]))) 1 (.mb g 1 1 1) = some ([b].length, [b].map byteAV) := by
  simp [srcF, Hp.read_of (Hp.set_same _ _ _), flat, AV.cells, byteAV]
theorem take_bytes_at {cs : List AV} {full : List UInt8} {j : Nat} (h : cs.take full.length = full.map byteAV) (hj : j < full.length) : mkv false 1 (cs.drop j) = .v (.int .u8 (full.getD j 0).toNat) := by
  have e : cs = full.map byteAV ++ cs.drop full.length := by rw [← h, List.take_append_drop]
  rw [e, List.drop_append_of_le_length (by simp; omega), List.drop_eq_getElem_cons (by simpa using hj)]
  rw [List.getElem_map]
  simp [mkv, byteAV, List.getD, hj]
theorem rem256_u32 (x : UInt32) : binV .rem (.int .u32 (x.toNat : Int)) (.int .u32 256) = some (.int .u32 ((x.toNat % 256 : Nat) : Int)) := by
  have h : binV .rem (.int .u32 (x.toNat : Int)) (.int .u32 256) = (if (256 : Int) = 0 then none else some (.int .u32 ((x.toNat : Int).tmod 256))) := rfl
  rw [h, if_neg (by decide)]; rfl
theorem shr_cvt (N j : Nat) (h : j < 8) : ((56 : Int) - 8 * (j : Int)).toNat = 56 - 8 * j := by omega

theorem MO_bytes {s0 s : Hp} {v : List UInt8} {a : AV} (h : MO s0 s 1 (v.map byteAV) a) (h0 : v ≠ []) : ∃ l cap cs, a = .mb l v.length cap 1 ∧ s0 l = none ∧ s l = some (.cells cs) ∧ cs.length = cap ∧ cs.take v.length = v.map byteAV ∧ v.length ≤ cap := by
  obtain ⟨_, h | ⟨l, n, cap, cs, rfl, h1, h2, h3, h4, h5, h6, h7⟩⟩ := h
  · exact absurd (by simpa using h.1) h0
  · simp only [Nat.mul_one, List.length_map] at h3 h4 h5
    subst h5
    exact ⟨l, cap, cs, rfl, h1, h2, h3, h4, h6⟩

theorem rwith_aux (H : List UInt32) (hH : H = H256) (bs : List UInt8) (hb : bs.length ≤ 1000000000) (x : AV) (lk : Nat) (s : Hp) (hx : srcF s 1 x = some (bs.length, bs.map byteAV)) (hl : lenAA x = some (.v (.int .i64 bs.length))) (hk : s lk = some (.cells (wl K256))) :
    AC Try.prog 80 [x, .mb lk 64 64 1] s fun r s' => s' = s ∧ r = dg (sha256 bs) := by
  refine AC_run hm prep80 (by simp) ?_
  simp (dsimp := false) (implicitDefEqProofs := false) (maxSteps := 1000000) (disch := first | omega | assumption | (simp only [rL, Nat.reduceAdd]; done) | (simp only [rL, Nat.reduceAdd]; omega)) only [↓rD, rU, ev, ofConst, ofCell, ↓reduceIte, Nat.reduceEqDiff, Nat.reduceAdd, Nat.reduceSub, Nat.reduceMul, Nat.reduceLeDiff, Nat.reduceLT, Int.reduceNeg, Int.reduceToNat, Int.reduceAdd, Int.reduceSub, Int.reduceMul, Int.reduceLT, Int.reduceLE, Int.reduceEq, rX, dg_cells, dg_fold, List.drop_succ_cons, ↓rF, rG, ne_eq, not_true_eq_false, not_false_eq_true, Int.reduceNe, List.getElem?_cons_zero, List.getElem?_cons_succ]
  refine newK_intro fun l4 n4 => ?_
  have hx4 := srcF_mono (Hp.sub_new (Hp.sub_refl (s := s)) n4) hx (s' := s.set l4 (.cells (List.replicate 32 (.v (.int .u8 0)))))
  have hk4 := Hp.sub_new (Hp.sub_refl (s := s)) n4 (o := .cells (List.replicate 32 (.v (.int .u8 0)))) _ _ hk
  have hs4 := Hp.sub_new (Hp.sub_refl (s := s)) n4 (o := .cells (List.replicate 32 (.v (.int .u8 0))))
  have g4 : (s.set l4 (.cells (List.replicate 32 (.v (.int .u8 0))))) l4 = some (.cells (List.replicate 32 (.v (.int .u8 0)))) := Hp.set_same _ _ _
  simp (dsimp := false) (implicitDefEqProofs := false) (maxSteps := 1000000) (disch := first | omega | assumption | (simp only [rL, Nat.reduceAdd]; done) | (simp only [rL, Nat.reduceAdd]; omega)) only [↓rD, rU, ev, ofConst, ofCell, ↓reduceIte, Nat.reduceEqDiff, Nat.reduceAdd, Nat.reduceSub, Nat.reduceMul, Nat.reduceLeDiff, Nat.reduceLT, Int.reduceNeg, Int.reduceToNat, Int.reduceAdd, Int.reduceSub, Int.reduceMul, Int.reduceLT, Int.reduceLE, Int.reduceEq, rX, dg_cells, dg_fold, List.drop_succ_cons, ↓rF, rG, ne_eq, not_true_eq_false, not_false_eq_true, Int.reduceNe, List.getElem?_cons_zero, List.getElem?_cons_succ, bslM_nil]
  generalize s.set l4 (.cells (List.replicate 32 (.v (.int .u8 0)))) = S0 at *
  refine appB_own (bs := []) (MO.zero Hp.sub_refl) hx4 (by simp; omega) fun x1 s1 m1 => ?_
  rw [List.nil_append] at m1
  simp (dsimp := false) (implicitDefEqProofs := false) (maxSteps := 1000000) (disch := first | omega | assumption | (simp only [rL, Nat.reduceAdd]; done) | (simp only [rL, Nat.reduceAdd]; omega)) only [↓rD, rU, ev, ofConst, ofCell, ↓reduceIte, Nat.reduceEqDiff, Nat.reduceAdd, Nat.reduceSub, Nat.reduceMul, Nat.reduceLeDiff, Nat.reduceLT, Int.reduceNeg, Int.reduceToNat, Int.reduceAdd, Int.reduceSub, Int.reduceMul, Int.reduceLT, Int.reduceLE, Int.reduceEq, rX, dg_cells, dg_fold, List.drop_succ_cons, ↓rF, rG, ne_eq, not_true_eq_false, not_false_eq_true, Int.reduceNe, List.getElem?_cons_zero, List.getElem?_cons_succ]
  refine bslM_intro (by simp [allLen, AV.cells]) (by simp) fun g1 ng1 => ?_
  simp (dsimp := false) (implicitDefEqProofs := false) (maxSteps := 1000000) (disch := first | omega | assumption | (simp only [rL, Nat.reduceAdd]; done) | (simp only [rL, Nat.reduceAdd]; omega)) only [↓rD, rU, ev, ofConst, ofCell, ↓reduceIte, Nat.reduceEqDiff, Nat.reduceAdd, Nat.reduceSub, Nat.reduceMul, Nat.reduceLeDiff, Nat.reduceLT, Int.reduceNeg, Int.reduceToNat, Int.reduceAdd, Int.reduceSub, Int.reduceMul, Int.reduceLT, Int.reduceLE, Int.reduceEq, rX, dg_cells, dg_fold, List.drop_succ_cons, ↓rF, rG, ne_eq, not_true_eq_false, not_false_eq_true, Int.reduceNe, List.getElem?_cons_zero, List.getElem?_cons_succ]
  refine appB_own (m1.mono (Hp.sub_new Hp.sub_refl ng1)) (srcF_one (b := 128)) (by simp; omega) fun x2 s2 m2 => ?_
  simp (dsimp := false) (implicitDefEqProofs := false) (maxSteps := 1000000) (disch := first | omega | assumption | (simp only [rL, Nat.reduceAdd]; done) | (simp only [rL, Nat.reduceAdd]; omega)) only [↓rD, rU, ev, ofConst, ofCell, ↓reduceIte, Nat.reduceEqDiff, Nat.reduceAdd, Nat.reduceSub, Nat.reduceMul, Nat.reduceLeDiff, Nat.reduceLT, Int.reduceNeg, Int.reduceToNat, Int.reduceAdd, Int.reduceSub, Int.reduceMul, Int.reduceLT, Int.reduceLE, Int.reduceEq, rX, dg_cells, dg_fold, List.drop_succ_cons, ↓rF, rG, ne_eq, not_true_eq_false, not_false_eq_true, Int.reduceNe, List.getElem?_cons_zero, List.getElem?_cons_succ]
  have hz : zeros bs.length < 64 := by unfold zeros; omega
  refine loop_intro (fun f s' => ∃ j : Nat, j ≤ zeros bs.length ∧ MO S0 s' 1 ((bs ++ 128 :: List.replicate j 0).map byteAV) (f 5) ∧ f 0 = x ∧ f 1 = .mb lk 64 64 1 ∧ f 4 = .ptr l4 0)
    (fun f _ => match f 5 with | .mb _ n _ _ => zeros bs.length + bs.length + 1 - n | _ => 0) ⟨0, by omega, ?_⟩ ?_
  · simp (dsimp := false) (implicitDefEqProofs := false) (maxSteps := 1000000) (disch := first | omega | assumption | (simp only [rL, Nat.reduceAdd]; done) | (simp only [rL, Nat.reduceAdd]; omega)) only [↓rD, rU, ev, ofConst, ofCell, ↓reduceIte, Nat.reduceEqDiff, Nat.reduceAdd, Nat.reduceSub, Nat.reduceMul, Nat.reduceLeDiff, Nat.reduceLT, Int.reduceNeg, Int.reduceToNat, Int.reduceAdd, Int.reduceSub, Int.reduceMul, Int.reduceLT, Int.reduceLE, Int.reduceEq, rX, dg_cells, dg_fold, List.drop_succ_cons, ↓rF, rG, ne_eq, not_true_eq_false, not_false_eq_true, Int.reduceNe, List.getElem?_cons_zero, List.getElem?_cons_succ]
    exact m2
  · clear m2 m1
    rintro f s2 ⟨j, hj, m2, f0, f1, f4⟩
    obtain ⟨lb, cap, cs, f5, q1, q2, q3, q4, q5⟩ := MO_bytes m2 (by simp)
    have hn : (bs ++ 128 :: List.replicate j 0).length = bs.length + 1 + j := by simp; omega
    rw [hn] at f5
    by_cases hlt : j < zeros bs.length
    · have hc : ¬ (Int.tmod ((bs.length + 1 + j : Nat) : Int) 64 = 56) := by
        have : Int.tmod ((bs.length + 1 + j : Nat) : Int) 64 = (((bs.length + 1 + j) % 64 : Nat) : Int) := rfl
        rw [this]; unfold zeros at hlt; omega
      simp (dsimp := false) (implicitDefEqProofs := false) (maxSteps := 1000000) (disch := first | omega | assumption | (simp only [rL, Nat.reduceAdd]; done) | (simp only [rL, Nat.reduceAdd]; omega)) only [↓rD, rU, ev, ofConst, ofCell, ↓reduceIte, Nat.reduceEqDiff, Nat.reduceAdd, Nat.reduceSub, Nat.reduceMul, Nat.reduceLeDiff, Nat.reduceLT, Int.reduceNeg, Int.reduceToNat, Int.reduceAdd, Int.reduceSub, Int.reduceMul, Int.reduceLT, Int.reduceLE, Int.reduceEq, rX, dg_cells, dg_fold, List.drop_succ_cons, ↓rF, rG, ne_eq, not_true_eq_false, not_false_eq_true, Int.reduceNe, List.getElem?_cons_zero, List.getElem?_cons_succ, f0, f1, f4, f5, hc]
      refine bslM_intro (by simp [allLen, AV.cells]) (by simp) fun g1 ng1 => ?_
      simp (dsimp := false) (implicitDefEqProofs := false) (maxSteps := 1000000) (disch := first | omega | assumption | (simp only [rL, Nat.reduceAdd]; done) | (simp only [rL, Nat.reduceAdd]; omega)) only [↓rD, rU, ev, ofConst, ofCell, ↓reduceIte, Nat.reduceEqDiff, Nat.reduceAdd, Nat.reduceSub, Nat.reduceMul, Nat.reduceLeDiff, Nat.reduceLT, Int.reduceNeg, Int.reduceToNat, Int.reduceAdd, Int.reduceSub, Int.reduceMul, Int.reduceLT, Int.reduceLE, Int.reduceEq, rX, dg_cells, dg_fold, List.drop_succ_cons, ↓rF, rG, ne_eq, not_true_eq_false, not_false_eq_true, Int.reduceNe, List.getElem?_cons_zero, List.getElem?_cons_succ, f0, f1, f4, f5, hc]
      rw [← f5]
      refine appB_own (m2.mono (Hp.sub_new Hp.sub_refl ng1)) (srcF_one (b := 0)) (by simp; omega) fun x3 s3 m3 => ?_
      simp (dsimp := false) (implicitDefEqProofs := false) (maxSteps := 1000000) (disch := first | omega | assumption | (simp only [rL, Nat.reduceAdd]; done) | (simp only [rL, Nat.reduceAdd]; omega)) only [↓rD, rU, ev, ofConst, ofCell, ↓reduceIte, Nat.reduceEqDiff, Nat.reduceAdd, Nat.reduceSub, Nat.reduceMul, Nat.reduceLeDiff, Nat.reduceLT, Int.reduceNeg, Int.reduceToNat, Int.reduceAdd, Int.reduceSub, Int.reduceMul, Int.reduceLT, Int.reduceLE, Int.reduceEq, rX, dg_cells, dg_fold, List.drop_succ_cons, ↓rF, rG, ne_eq, not_true_eq_false, not_false_eq_true, Int.reduceNe, List.getElem?_cons_zero, List.getElem?_cons_succ, f0, f1, f4, f5]
      have e : bs ++ 128 :: List.replicate j 0 ++ [0] = bs ++ 128 :: List.replicate (j + 1) 0 := by
        rw [List.replicate_succ']; simp
      rw [e] at m3
      obtain ⟨lb', cap', cs', rfl, _⟩ := MO_bytes m3 (by simp)
      have hn' : (bs ++ 128 :: List.replicate (j + 1) 0).length = bs.length + 1 + (j + 1) := by simp; omega
      exact ⟨⟨j + 1, by omega, m3⟩, by rw [hn']; show _ - _ < _; omega⟩
    · obtain rfl : j = zeros bs.length := by omega
      have hc : (Int.tmod ((bs.length + 1 + zeros bs.length : Nat) : Int) 64 = 56) := by
        have : Int.tmod ((bs.length + 1 + zeros bs.length : Nat) : Int) 64 = (((bs.length + 1 + zeros bs.length) % 64 : Nat) : Int) := rfl
        rw [this]; unfold zeros; omega
      have hN : IntKind.u64.wrap (8 * IntKind.u64.wrap (bs.length : Int)) = ((8 * bs.length : Nat) : Int) := by
        rw [wrap_u64_mod, wrap_u64_mod]; omega
      rw [← hn] at f5
      simp (dsimp := false) (implicitDefEqProofs := false) (maxSteps := 1000000) (disch := first | omega | assumption | (simp only [rL, Nat.reduceAdd]; done) | (simp only [rL, Nat.reduceAdd]; omega)) only [↓rD, rU, ev, ofConst, ofCell, ↓reduceIte, Nat.reduceEqDiff, Nat.reduceAdd, Nat.reduceSub, Nat.reduceMul, Nat.reduceLeDiff, Nat.reduceLT, Int.reduceNeg, Int.reduceToNat, Int.reduceAdd, Int.reduceSub, Int.reduceMul, Int.reduceLT, Int.reduceLE, Int.reduceEq, rX, dg_cells, dg_fold, List.drop_succ_cons, ↓rF, rG, ne_eq, not_true_eq_false, not_false_eq_true, Int.reduceNe, List.getElem?_cons_zero, List.getElem?_cons_succ, f0, f1, f4, f5, hn, hc, hl, hN]
      rw [← f5] at *
      refine loop_intro (fun f s' => ∃ j : Nat, j ≤ 8 ∧ MO S0 s' 1 ((bs ++ 128 :: List.replicate (zeros bs.length) 0 ++ (eightB (8 * bs.length)).take j).map byteAV) (f 5) ∧ f 0 = x ∧ f 1 = .mb lk 64 64 1 ∧ f 4 = .ptr l4 0 ∧ f 6 = .v (.int .u64 ((8 * bs.length : Nat) : Int)) ∧ f 7 = .v (.int .i64 j))
        (fun f _ => match f 7 with | .v (.int _ n) => (8 - n).toNat | _ => 0) ⟨0, by omega, ?_⟩ ?_
      · simp (dsimp := false) (implicitDefEqProofs := false) (maxSteps := 1000000) (disch := first | omega | assumption | (simp only [rL, Nat.reduceAdd]; done) | (simp only [rL, Nat.reduceAdd]; omega)) only [↓rD, rU, ev, ofConst, ofCell, ↓reduceIte, Nat.reduceEqDiff, Nat.reduceAdd, Nat.reduceSub, Nat.reduceMul, Nat.reduceLeDiff, Nat.reduceLT, Int.reduceNeg, Int.reduceToNat, Int.reduceAdd, Int.reduceSub, Int.reduceMul, Int.reduceLT, Int.reduceLE, Int.reduceEq, rX, dg_cells, dg_fold, List.drop_succ_cons, ↓rF, rG, ne_eq, not_true_eq_false, not_false_eq_true, Int.reduceNe, List.getElem?_cons_zero, List.getElem?_cons_succ, f0, f1, f4]
        simp only [List.take_zero, List.append_nil]
        exact ⟨m2, by simp⟩
      · clear q1 q2 q3 q4 q5 f0 f1 f4 f5 m2
        rintro f s2 ⟨j, hj, m2, f0, f1, f4, f6, f7⟩
        have hpre := eightB_take (8 * bs.length) j
        by_cases hlt : (j : Int) < 8
        · have hsh : IntKind.u64.wrap (56 - 8 * (j : Int)) = ((56 - 8 * j : Nat) : Int) := by rw [wrap_u64_mod]; omega
          have hr := rem_u64 ((8 * bs.length) >>> (56 - 8 * j)) 256 (by omega)
          have e256 : ((256 : Nat) : Int) = 256 := rfl
          rw [e256] at hr
          simp (dsimp := false) (implicitDefEqProofs := false) (maxSteps := 1000000) (disch := first | omega | assumption | (simp only [rL, Nat.reduceAdd]; done) | (simp only [rL, Nat.reduceAdd]; omega)) only [↓rD, rU, ev, ofConst, ofCell, ↓reduceIte, Nat.reduceEqDiff, Nat.reduceAdd, Nat.reduceSub, Nat.reduceMul, Nat.reduceLeDiff, Nat.reduceLT, Int.reduceNeg, Int.reduceToNat, Int.reduceAdd, Int.reduceSub, Int.reduceMul, Int.reduceLT, Int.reduceLE, Int.reduceEq, rX, dg_cells, dg_fold, List.drop_succ_cons, ↓rF, rG, ne_eq, not_true_eq_false, not_false_eq_true, Int.reduceNe, List.getElem?_cons_zero, List.getElem?_cons_succ, f0, f1, f4, f6, f7, hlt, hsh, hr, wrap_u8_nat]
          refine bslM_intro (by simp [allLen, AV.cells]) (by simp) fun g1 ng1 => ?_
          simp (dsimp := false) (implicitDefEqProofs := false) (maxSteps := 1000000) (disch := first | omega | assumption | (simp only [rL, Nat.reduceAdd]; done) | (simp only [rL, Nat.reduceAdd]; omega)) only [↓rD, rU, ev, ofConst, ofCell, ↓reduceIte, Nat.reduceEqDiff, Nat.reduceAdd, Nat.reduceSub, Nat.reduceMul, Nat.reduceLeDiff, Nat.reduceLT, Int.reduceNeg, Int.reduceToNat, Int.reduceAdd, Int.reduceSub, Int.reduceMul, Int.reduceLT, Int.reduceLE, Int.reduceEq, rX, dg_cells, dg_fold, List.drop_succ_cons, ↓rF, rG, ne_eq, not_true_eq_false, not_false_eq_true, Int.reduceNe, List.getElem?_cons_zero, List.getElem?_cons_succ, f0, f1, f4, f6, f7]
          refine appB_own (m2.mono (Hp.sub_new Hp.sub_refl ng1)) srcF_one (by simp [eightB]; omega) fun x3 s3 m3 => ?_
          simp (dsimp := false) (implicitDefEqProofs := false) (maxSteps := 1000000) (disch := first | omega | assumption | (simp only [rL, Nat.reduceAdd]; done) | (simp only [rL, Nat.reduceAdd]; omega)) only [↓rD, rU, ev, ofConst, ofCell, ↓reduceIte, Nat.reduceEqDiff, Nat.reduceAdd, Nat.reduceSub, Nat.reduceMul, Nat.reduceLeDiff, Nat.reduceLT, Int.reduceNeg, Int.reduceToNat, Int.reduceAdd, Int.reduceSub, Int.reduceMul, Int.reduceLT, Int.reduceLE, Int.reduceEq, rX, dg_cells, dg_fold, List.drop_succ_cons, ↓rF, rG, ne_eq, not_true_eq_false, not_false_eq_true, Int.reduceNe, List.getElem?_cons_zero, List.getElem?_cons_succ, f0, f1, f4, f6, f7]
          rw [List.append_assoc _ _ [_], hpre (by omega)] at m3
          exact ⟨⟨j + 1, by omega, m3, by simp⟩, by omega⟩
        · obtain rfl : j = 8 := by omega
          have h8 : (eightB (8 * bs.length)).take 8 = eightB (8 * bs.length) := rfl
          rw [h8] at m2
          simp (dsimp := false) (implicitDefEqProofs := false) (maxSteps := 1000000) (disch := first | omega | assumption | (simp only [rL, Nat.reduceAdd]; done) | (simp only [rL, Nat.reduceAdd]; omega)) only [↓rD, rU, ev, ofConst, ofCell, ↓reduceIte, Nat.reduceEqDiff, Nat.reduceAdd, Nat.reduceSub, Nat.reduceMul, Nat.reduceLeDiff, Nat.reduceLT, Int.reduceNeg, Int.reduceToNat, Int.reduceAdd, Int.reduceSub, Int.reduceMul, Int.reduceLT, Int.reduceLE, Int.reduceEq, rX, dg_cells, dg_fold, List.drop_succ_cons, ↓rF, rG, ne_eq, not_true_eq_false, not_false_eq_true, Int.reduceNe, List.getElem?_cons_zero, List.getElem?_cons_succ, f0, f1, f4, f6, f7, hlt]
          refine bslM_intro (by simp [allLen, AV.cells]) (by simp) fun gh ngh => ?_
          have ewl : flat [AV.v (Value.int IntKind.u32 1779033703), AV.v (Value.int IntKind.u32 3144134277), AV.v (Value.int IntKind.u32 1013904242), AV.v (Value.int IntKind.u32 2773480762), AV.v (Value.int IntKind.u32 1359893119), AV.v (Value.int IntKind.u32 2600822924), AV.v (Value.int IntKind.u32 528734635), AV.v (Value.int IntKind.u32 1541459225)] = wl H256 := rfl
          rw [ewl]
          have hpl := padded_length bs
          have hpm := padded_mod bs
          have m2' : MO S0 s2 1 ((padded bs).map byteAV) (f 5) := m2
          obtain ⟨lb, cap, cs, f5, q1, q2, q3, q4, q5⟩ := MO_bytes m2' (by intro e; rw [e] at hpl; simp at hpl; omega)
          have m2s := m2.1
          have hsha := sha256_padded bs
          have mh : MO s2 (s2.set gh (.cells (wl H256))) 1 (wl H256) (.mb gh 8 8 1) := ⟨Hp.sub_new Hp.sub_refl ngh, .inr ⟨gh, 8, 8, _, rfl, ngh, Hp.set_same _ _ _, rfl, rfl, rfl, by omega, by decide⟩⟩
          have hH8 : H256.length = 8 := rfl
          generalize s2.set gh (.cells (wl H256)) = s3 at *
          rw [← hH] at mh hsha hH8
          clear hH ewl
          generalize hfull : padded bs = full at *
          clear m2 m2' hfull
          simp (dsimp := false) (implicitDefEqProofs := false) (maxSteps := 1000000) (disch := first | omega | assumption | (simp only [rL, Nat.reduceAdd]; done) | (simp only [rL, Nat.reduceAdd]; omega)) only [↓rD, rU, ev, ofConst, ofCell, ↓reduceIte, Nat.reduceEqDiff, Nat.reduceAdd, Nat.reduceSub, Nat.reduceMul, Nat.reduceLeDiff, Nat.reduceLT, Int.reduceNeg, Int.reduceToNat, Int.reduceAdd, Int.reduceSub, Int.reduceMul, Int.reduceLT, Int.reduceLE, Int.reduceEq, rX, dg_cells, dg_fold, List.drop_succ_cons, ↓rF, rG, ne_eq, not_true_eq_false, not_false_eq_true, Int.reduceNe, List.getElem?_cons_zero, List.getElem?_cons_succ, f0, f1, f4, f5]
          refine loop_intro (fun f s' => ∃ m : Nat, m ≤ full.length / 64 ∧ MO s2 s' 1 (wl (blocks m H full)) (f 8) ∧ f 1 = .mb lk 64 64 1 ∧ f 4 = .ptr l4 0 ∧ f 5 = .mb lb full.length cap 1 ∧ f 9 = .v (.int .i64 ((64 * m : Nat) : Int)))
            (fun f _ => match f 9 with | .v (.int _ n) => (full.length - n).toNat | _ => 0) ⟨0, by omega, ?_⟩ ?_
          · simp (dsimp := false) (implicitDefEqProofs := false) (maxSteps := 1000000) (disch := first | omega | assumption | (simp only [rL, Nat.reduceAdd]; done) | (simp only [rL, Nat.reduceAdd]; omega)) only [↓rD, rU, ev, ofConst, ofCell, ↓reduceIte, Nat.reduceEqDiff, Nat.reduceAdd, Nat.reduceSub, Nat.reduceMul, Nat.reduceLeDiff, Nat.reduceLT, Int.reduceNeg, Int.reduceToNat, Int.reduceAdd, Int.reduceSub, Int.reduceMul, Int.reduceLT, Int.reduceLE, Int.reduceEq, rX, dg_cells, dg_fold, List.drop_succ_cons, ↓rF, rG, ne_eq, not_true_eq_false, not_false_eq_true, Int.reduceNe, List.getElem?_cons_zero, List.getElem?_cons_succ, f1, f4, f5]
            exact mh
          · clear f0 f1 f4 f5 f6 f7
            rintro f s4 ⟨m, hm4, m4, f1, f4, f5, f9⟩
            have hB : (blocks m H full).length = 8 := blocks_length _ _ _ hH8
            obtain ⟨lh, ch, sph, f8, nh, gh4, hch, hmx⟩ := MO_words m4 (by intro e; rw [e] at hB; cases hB)
            rw [hB] at f8
            have m4s := m4.1
            by_cases hlt : m < full.length / 64
            · have c1 : ((64 * m : Nat) : Int) < (full.length : Int) := by omega
              have hsl : slcAA 1 (.mb lb full.length cap 1) (some (.v (.int .i64 ((64 * m : Nat) : Int)))) (some (.v (.int .i64 (((64 * m : Nat) : Int) + 64)))) = some (.msl lb (64 * m) 64 1) := by
                have e1 : (((64 * m : Nat) : Int) + 64).toNat = 64 * m + 64 := by omega
                simp only [slcAA, bO, intOf, mbCut]
                rw [if_pos ⟨trivial, by omega, by omega, by omega, fun _ => c1⟩]
                simp only [Option.isSome_some, if_true, e1, Int.toNat_natCast, Nat.mul_one]
                congr 2
                omega
              simp (dsimp := false) (implicitDefEqProofs := false) (maxSteps := 1000000) (disch := first | omega | assumption | (simp only [rL, Nat.reduceAdd]; done) | (simp only [rL, Nat.reduceAdd]; omega)) only [↓rD, rU, ev, ofConst, ofCell, ↓reduceIte, Nat.reduceEqDiff, Nat.reduceAdd, Nat.reduceSub, Nat.reduceMul, Nat.reduceLeDiff, Nat.reduceLT, Int.reduceNeg, Int.reduceToNat, Int.reduceAdd, Int.reduceSub, Int.reduceMul, Int.reduceLT, Int.reduceLE, Int.reduceEq, rX, dg_cells, dg_fold, List.drop_succ_cons, ↓rF, rG, ne_eq, not_true_eq_false, not_false_eq_true, Int.reduceNe, List.getElem?_cons_zero, List.getElem?_cons_succ, f1, f4, f5, f8, f9, c1, hsl]
              have hbl := blocks_succ m H full
              refine call_intro (rturn_spec (blocks m H full) ((full.drop (64 * m)).take 64) hB lh ch sph lb (64 * m) cs lk s4 gh4 (m4s _ _ q2) (by omega) ?_ (m4s _ _ (m2s _ _ hk4))) ?_
              · intro j hj
                rw [take_bytes_at q4 (by omega)]
                congr 3
                simp only [List.getD, List.getElem?_take, List.getElem?_drop, if_pos hj]
              rintro x5 s5 m5
              simp (dsimp := false) (implicitDefEqProofs := false) (maxSteps := 1000000) (disch := first | omega | assumption | (simp only [rL, Nat.reduceAdd]; done) | (simp only [rL, Nat.reduceAdd]; omega)) only [↓rD, rU, ev, ofConst, ofCell, ↓reduceIte, Nat.reduceEqDiff, Nat.reduceAdd, Nat.reduceSub, Nat.reduceMul, Nat.reduceLeDiff, Nat.reduceLT, Int.reduceNeg, Int.reduceToNat, Int.reduceAdd, Int.reduceSub, Int.reduceMul, Int.reduceLT, Int.reduceLE, Int.reduceEq, rX, dg_cells, dg_fold, List.drop_succ_cons, ↓rF, rG, ne_eq, not_true_eq_false, not_false_eq_true, Int.reduceNe, List.getElem?_cons_zero, List.getElem?_cons_succ, f1, f4, f5, f8, f9]
              rw [← hbl] at m5
              exact ⟨⟨m + 1, by omega, m5.base m4s, by simp; omega⟩, by omega⟩
            · have c1 : ¬ ((64 * m : Nat) : Int) < (full.length : Int) := by omega
              obtain rfl : m = full.length / 64 := by omega
              simp (dsimp := false) (implicitDefEqProofs := false) (maxSteps := 1000000) (disch := first | omega | assumption | (simp only [rL, Nat.reduceAdd]; done) | (simp only [rL, Nat.reduceAdd]; omega)) only [↓rD, rU, ev, ofConst, ofCell, ↓reduceIte, Nat.reduceEqDiff, Nat.reduceAdd, Nat.reduceSub, Nat.reduceMul, Nat.reduceLeDiff, Nat.reduceLT, Int.reduceNeg, Int.reduceToNat, Int.reduceAdd, Int.reduceSub, Int.reduceMul, Int.reduceLT, Int.reduceLE, Int.reduceEq, rX, dg_cells, dg_fold, List.drop_succ_cons, ↓rF, rG, ne_eq, not_true_eq_false, not_false_eq_true, Int.reduceNe, List.getElem?_cons_zero, List.getElem?_cons_succ, f1, f4, f5, f8, f9, c1]
              refine newK_intro fun l10 n10 => ?_
              have d10 : lh ≠ l10 := by rintro rfl; rw [n10] at gh4; cases gh4
              have g4' := m4s _ _ (m2s _ _ g4)
              have d104 : l4 ≠ l10 := by rintro rfl; rw [n10] at g4'; cases g4'
              have hq := quads_take (blocks (full.length / 64) H full) hB
              have hql : (quads (blocks (full.length / 64) H full)).length = 32 := by rw [quads_length, hB]
              rw [hsha]
              clear hsha m4
              generalize blocks (full.length / 64) H full = B at *
              have hhl : (wl B ++ sph).length = 8 + sph.length := by rw [wlx_length, hB]
              simp (dsimp := false) (implicitDefEqProofs := false) (maxSteps := 1000000) (disch := first | omega | assumption | (simp only [rL, Nat.reduceAdd]; done) | (simp only [rL, Nat.reduceAdd]; omega)) only [↓rD, rU, ev, ofConst, ofCell, ↓reduceIte, Nat.reduceEqDiff, Nat.reduceAdd, Nat.reduceSub, Nat.reduceMul, Nat.reduceLeDiff, Nat.reduceLT, Int.reduceNeg, Int.reduceToNat, Int.reduceAdd, Int.reduceSub, Int.reduceMul, Int.reduceLT, Int.reduceLE, Int.reduceEq, rX, dg_cells, dg_fold, List.drop_succ_cons, ↓rF, rG, ne_eq, not_true_eq_false, not_false_eq_true, Int.reduceNe, List.getElem?_cons_zero, List.getElem?_cons_succ, f1, f4, f5, f8, f9]
              refine loop_intro (fun f s' => ∃ i : Nat, i ≤ 32 ∧ s' = s4.set l10 (.cells (cellsB ((quads B).take i))) ∧ f 8 = .mb lh 8 ch 1 ∧ f 10 = .ptr l10 0 ∧ f 4 = .ptr l4 0 ∧ f 11 = .v (.int .i64 i))
                (fun f _ => match f 11 with | .v (.int _ n) => (32 - n).toNat | _ => 0) ⟨0, by omega, ?_⟩ ?_
              · simp (dsimp := false) (implicitDefEqProofs := false) (maxSteps := 1000000) (disch := first | omega | assumption | (simp only [rL, Nat.reduceAdd]; done) | (simp only [rL, Nat.reduceAdd]; omega)) only [↓rD, rU, ev, ofConst, ofCell, ↓reduceIte, Nat.reduceEqDiff, Nat.reduceAdd, Nat.reduceSub, Nat.reduceMul, Nat.reduceLeDiff, Nat.reduceLT, Int.reduceNeg, Int.reduceToNat, Int.reduceAdd, Int.reduceSub, Int.reduceMul, Int.reduceLT, Int.reduceLE, Int.reduceEq, rX, dg_cells, dg_fold, List.drop_succ_cons, ↓rF, rG, ne_eq, not_true_eq_false, not_false_eq_true, Int.reduceNe, List.getElem?_cons_zero, List.getElem?_cons_succ, f4, f8]
                rfl
              · clear f1 f4 f5 f8 f9
                rintro f _ ⟨i, hi, rfl, f8, f10, f4, f11⟩
                have htl : ((quads B).take i).length = i := by simp; omega
                have hcl : (cellsB ((quads B).take i)).length = 32 := cellsB_length (by omega)
                by_cases hlt : (i : Int) < 32
                · have e1 : IntKind.i64.wrap ((i : Int).tdiv 4) = ((i / 4 : Nat) : Int) := by
                    have : (i : Int).tdiv 4 = ((i / 4 : Nat) : Int) := rfl
                    rw [this, wrap_i64 (by omega) (by omega)]
                  have e2 : (i : Int).tmod 4 = ((i % 4 : Nat) : Int) := rfl
                  have e3 : IntKind.u64.wrap (24 - 8 * ((i % 4 : Nat) : Int)) = ((24 - 8 * (i % 4) : Nat) : Int) := by rw [wrap_u64_mod]; omega
                  have hi4 : i / 4 < 8 := by omega
                  have e4 : ((i / 4 : Nat) : Int) < ((8 : Nat) : Int) := by omega
                  simp (dsimp := false) (implicitDefEqProofs := false) (maxSteps := 1000000) (disch := first | omega | assumption | (simp only [rL, Nat.reduceAdd]; done) | (simp only [rL, Nat.reduceAdd]; omega)) only [↓rD, rU, ev, ofConst, ofCell, ↓reduceIte, Nat.reduceEqDiff, Nat.reduceAdd, Nat.reduceSub, Nat.reduceMul, Nat.reduceLeDiff, Nat.reduceLT, Int.reduceNeg, Int.reduceToNat, Int.reduceAdd, Int.reduceSub, Int.reduceMul, Int.reduceLT, Int.reduceLE, Int.reduceEq, rX, dg_cells, dg_fold, List.drop_succ_cons, ↓rF, rG, ne_eq, not_true_eq_false, not_false_eq_true, Int.reduceNe, List.getElem?_cons_zero, List.getElem?_cons_succ, f8, f10, f4, f11, hlt, e1, e2, e3, e4, hi4, hhl, hcl, Hp.read_of gh4, d10, Ne.symm d10, wlx_at, rem256_u32, wrap_u8_nat]
                  rw [cellsB_put _ htl.symm (by omega), hq i (by omega)]
                  exact ⟨⟨i + 1, by omega, rfl, by simp⟩, by omega⟩
                · obtain rfl : i = 32 := by omega
                  simp (dsimp := false) (implicitDefEqProofs := false) (maxSteps := 1000000) (disch := first | omega | assumption | (simp only [rL, Nat.reduceAdd]; done) | (simp only [rL, Nat.reduceAdd]; omega)) only [↓rD, rU, ev, ofConst, ofCell, ↓reduceIte, Nat.reduceEqDiff, Nat.reduceAdd, Nat.reduceSub, Nat.reduceMul, Nat.reduceLeDiff, Nat.reduceLT, Int.reduceNeg, Int.reduceToNat, Int.reduceAdd, Int.reduceSub, Int.reduceMul, Int.reduceLT, Int.reduceLE, Int.reduceEq, rX, dg_cells, dg_fold, List.drop_succ_cons, ↓rF, rG, ne_eq, not_true_eq_false, not_false_eq_true, Int.reduceNe, List.getElem?_cons_zero, List.getElem?_cons_succ, f8, f10, f4, f11, hlt, hcl, d104, Ne.symm d104, Hp.read_of g4', Hp.stA_of g4']
                  have ht : (quads B).take 32 = quads B := List.take_of_length_le (by omega)
                  have hcb : cellsB (quads B) = (quads B).map byteAV := by simp [cellsB, hql]
                  have ht2 : ((quads B).map byteAV).take 32 = (quads B).map byteAV := List.take_of_length_le (by simp; omega)
                  rw [ht, hcb, ht2, ht2]
                  refine ⟨s, ?_, rfl, rfl⟩
                  have hsub : s.sub s4 := Hp.sub_trans hs4 (Hp.sub_trans m2s m4s)
                  exact Hp.sub_new (Hp.sub_new hsub (Hp.sub_none hsub n10)) n4
theorem rwith_spec (bs : List UInt8) (hb : bs.length ≤ 1000000000) (x : AV) (lk : Nat) (s : Hp) (hx : srcF s 1 x = some (bs.length, bs.map byteAV)) (hl : lenAA x = some (.v (.int .i64 bs.length))) (hk : s lk = some (.cells (wl K256))) :
    AC Try.prog 80 [x, .mb lk 64 64 1] s fun r s' => s' = s ∧ r = dg (sha256 bs) := rwith_aux H256 rfl bs hb x lk s hx hl hk
theorem rsum_spec (bs : List UInt8) (hb : bs.length ≤ 1000000000) (x : AV) (s : Hp) (hx : srcF s 1 x = some (bs.length, bs.map byteAV)) (hl : lenAA x = some (.v (.int .i64 bs.length))) :
    AC Try.prog 63 [x] s fun r s' => s' = s ∧ r = dg (sha256 bs) := by
  refine AC_run hm prep63 (by simp) ?_
  simp (dsimp := false) (implicitDefEqProofs := false) (maxSteps := 1000000) (disch := first | omega | assumption | (simp only [rL, Nat.reduceAdd]; done) | (simp only [rL, Nat.reduceAdd]; omega)) only [↓rD, rU, ev, ofConst, ofCell, ↓reduceIte, Nat.reduceEqDiff, Nat.reduceAdd, Nat.reduceSub, Nat.reduceMul, Nat.reduceLeDiff, Nat.reduceLT, Int.reduceNeg, Int.reduceToNat, Int.reduceAdd, Int.reduceSub, Int.reduceMul, Int.reduceLT, Int.reduceLE, Int.reduceEq, rX, dg_cells, dg_fold, List.drop_succ_cons, ↓rF, rG, ne_eq, not_true_eq_false, not_false_eq_true, Int.reduceNe, List.getElem?_cons_zero, List.getElem?_cons_succ]
  refine newK_intro fun l2 n2 => ?_
  simp (dsimp := false) (implicitDefEqProofs := false) (maxSteps := 1000000) (disch := first | omega | assumption | (simp only [rL, Nat.reduceAdd]; done) | (simp only [rL, Nat.reduceAdd]; omega)) only [↓rD, rU, ev, ofConst, ofCell, ↓reduceIte, Nat.reduceEqDiff, Nat.reduceAdd, Nat.reduceSub, Nat.reduceMul, Nat.reduceLeDiff, Nat.reduceLT, Int.reduceNeg, Int.reduceToNat, Int.reduceAdd, Int.reduceSub, Int.reduceMul, Int.reduceLT, Int.reduceLE, Int.reduceEq, rX, dg_cells, dg_fold, List.drop_succ_cons, ↓rF, rG, ne_eq, not_true_eq_false, not_false_eq_true, Int.reduceNe, List.getElem?_cons_zero, List.getElem?_cons_succ]
  refine call_intro (words_spec _) ?_
  rintro _ _ ⟨lk, nk, rfl, rfl⟩
  obtain ⟨d2, nk'⟩ := Hp.set_none nk
  simp (dsimp := false) (implicitDefEqProofs := false) (maxSteps := 1000000) (disch := first | omega | assumption | (simp only [rL, Nat.reduceAdd]; done) | (simp only [rL, Nat.reduceAdd]; omega)) only [↓rD, rU, ev, ofConst, ofCell, ↓reduceIte, Nat.reduceEqDiff, Nat.reduceAdd, Nat.reduceSub, Nat.reduceMul, Nat.reduceLeDiff, Nat.reduceLT, Int.reduceNeg, Int.reduceToNat, Int.reduceAdd, Int.reduceSub, Int.reduceMul, Int.reduceLT, Int.reduceLE, Int.reduceEq, rX, dg_cells, dg_fold, List.drop_succ_cons, ↓rF, rG, ne_eq, not_true_eq_false, not_false_eq_true, Int.reduceNe, List.getElem?_cons_zero, List.getElem?_cons_succ]
  have hsub : s.sub ((s.set l2 (.cells (List.replicate 32 (.v (.int .u8 0))))).set lk (.cells (wl K256))) := Hp.sub_new (Hp.sub_new Hp.sub_refl n2) nk'
  refine call_intro (rwith_spec bs hb x lk _ (srcF_mono hsub hx) hl (Hp.set_same _ _ _)) ?_
  rintro _ _ ⟨rfl, rfl⟩
  have hq : ((sha256 bs).map byteAV).length = 32 := by rw [List.length_map, sha256_length]
  have hdg : dg (sha256 bs) = .agg ((sha256 bs).map byteAV) := rfl
  have ht : ((sha256 bs).map byteAV).take 32 = (sha256 bs).map byteAV := List.take_of_length_le (by omega)
  rw [hdg]
  have hp : putAt (List.replicate 32 (AV.v (.int .u8 0))) 0 ((sha256 bs).map byteAV) = (sha256 bs).map byteAV := by
    rw [putAt, hq]; simp
  simp (dsimp := false) (implicitDefEqProofs := false) (maxSteps := 1000000) (disch := first | omega | assumption | (simp only [rL, Nat.reduceAdd]; done) | (simp only [rL, Nat.reduceAdd]; omega)) only [↓rD, rU, ev, ofConst, ofCell, ↓reduceIte, Nat.reduceEqDiff, Nat.reduceAdd, Nat.reduceSub, Nat.reduceMul, Nat.reduceLeDiff, Nat.reduceLT, Int.reduceNeg, Int.reduceToNat, Int.reduceAdd, Int.reduceSub, Int.reduceMul, Int.reduceLT, Int.reduceLE, Int.reduceEq, rX, dg_cells, dg_fold, List.drop_succ_cons, ↓rF, rG, ne_eq, not_true_eq_false, not_false_eq_true, Int.reduceNe, List.getElem?_cons_zero, List.getElem?_cons_succ, hq, ht, hp, d2, Ne.symm d2]
  exact ⟨s, Hp.sub_new (Hp.sub_new Hp.sub_refl n2) nk', rfl⟩
end Go.Proofs.Ytapjikladjoicaa
