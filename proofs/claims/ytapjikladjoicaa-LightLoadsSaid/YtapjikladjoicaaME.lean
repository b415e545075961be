/- Merged by program from smaller texts; what is proved stands in the last text of the claim. -/
import Derived.Test.YtapjikladjoicaaMD
import Derived.Test.YtapjikladjoicaaMC
set_option linter.all false
set_option maxRecDepth 100000
namespace Go.Av
open Go
variable {P : Program} {f : Fr} {s s0 : Hp} {Kv : AV → Hp → Prop}
def eqnK (neg : Bool) (a : AV) (C : AV → Prop) : Prop :=
  match a with
  | .sl xs o => match o with
    | .nil => C (.v (.bool (!neg)))
    | .buf _ _ => C (.v (.bool neg))
    | _ => (xs = [] → C (.v (.bool (!neg)))) ∧ C (.v (.bool neg))
  | .mb _ _ _ _ => C (.v (.bool neg))
  | _ => False
theorem G_eqn {neg : Bool} {x : Operand} : G P (.eqn neg x) f s Kv = eqnK neg (ev f x) (hid1 (fun r => Kv r s) ()) := rfl
theorem eqn_intro {neg : Bool} {xs : List AV} {o : Own} {C : AV → Prop} {d : Dep C} (hn : o = .nil → xs = []) (h1 : xs = [] → C (.v (.bool (!neg)))) (h2 : C (.v (.bool neg))) : eqnK neg (.sl xs o) (hid1 C d) := by
  cases o with
  | nil => exact h1 (hn rfl)
  | buf g c => exact h2
  | any => exact ⟨h1, h2⟩
  | zero => exact ⟨h1, h2⟩
end Go.Av
namespace Go.Proofs.Ytapjikladjoicaa
open Go Go.Av

theorem clone_spec (bs : List UInt8) (o : Own) (s : Hp) (ho : o = .nil → bs = []) (hb : bs.length ≤ 70368744177664) :
    AC Try.prog 68 [.sl (bs.map byteAV) o] s fun r s' => ∃ o', Owned s s' 1 (bs.map byteAV) o' ∧ r = .sl (bs.map byteAV) o' := by
  refine AC_run hm prep68 (by simp) ?_
  simp (dsimp := false) (implicitDefEqProofs := false) (maxSteps := 1000000) (disch := first | omega | assumption | (simp only [rL, Nat.reduceAdd]; done) | (simp only [rL, Nat.reduceAdd]; omega)) only [↓rD, rU, ev, ofConst, ofCell, ↓reduceIte, Nat.reduceEqDiff, Nat.reduceAdd, Nat.reduceSub, Nat.reduceMul, Nat.reduceLeDiff, Nat.reduceLT, Int.reduceNeg, Int.reduceToNat, Int.reduceAdd, Int.reduceSub, Int.reduceMul, Int.reduceLT, Int.reduceLE, Int.reduceEq, rX, dg_cells, dg_fold, List.drop_succ_cons, ↓G_eqn]
  refine eqn_intro (fun h => by rw [ho h]; rfl) (fun h => ?_) ?_
  · have hb0 : bs = [] := by simpa using h
    subst hb0
    simp (dsimp := false) (implicitDefEqProofs := false) (maxSteps := 1000000) (disch := first | omega | assumption | (simp only [rL, Nat.reduceAdd]; done) | (simp only [rL, Nat.reduceAdd]; omega)) only [↓rD, rU, ev, ofConst, ofCell, ↓reduceIte, Nat.reduceEqDiff, Nat.reduceAdd, Nat.reduceSub, Nat.reduceMul, Nat.reduceLeDiff, Nat.reduceLT, Int.reduceNeg, Int.reduceToNat, Int.reduceAdd, Int.reduceSub, Int.reduceMul, Int.reduceLT, Int.reduceLE, Int.reduceEq, rX, dg_cells, dg_fold, List.drop_succ_cons, Bool.not_false]
    exact ⟨s, Hp.sub_refl, .nil, Owned.nil Hp.sub_refl, rfl⟩
  · simp (dsimp := false) (implicitDefEqProofs := false) (maxSteps := 1000000) (disch := first | omega | assumption | (simp only [rL, Nat.reduceAdd]; done) | (simp only [rL, Nat.reduceAdd]; omega)) only [↓rD, rU, ev, ofConst, ofCell, ↓reduceIte, Nat.reduceEqDiff, Nat.reduceAdd, Nat.reduceSub, Nat.reduceMul, Nat.reduceLeDiff, Nat.reduceLT, Int.reduceNeg, Int.reduceToNat, Int.reduceAdd, Int.reduceSub, Int.reduceMul, Int.reduceLT, Int.reduceLE, Int.reduceEq, rX, dg_cells, dg_fold, List.drop_succ_cons]
    refine bsl_own Hp.sub_refl (by simp [allLen]) fun o1 s1 h1 => ?_
    simp (dsimp := false) (implicitDefEqProofs := false) (maxSteps := 1000000) (disch := first | omega | assumption | (simp only [rL, Nat.reduceAdd]; done) | (simp only [rL, Nat.reduceAdd]; omega)) only [↓rD, rU, ev, ofConst, ofCell, ↓reduceIte, Nat.reduceEqDiff, Nat.reduceAdd, Nat.reduceSub, Nat.reduceMul, Nat.reduceLeDiff, Nat.reduceLT, Int.reduceNeg, Int.reduceToNat, Int.reduceAdd, Int.reduceSub, Int.reduceMul, Int.reduceLT, Int.reduceLE, Int.reduceEq, rX, dg_cells, dg_fold, List.drop_succ_cons]
    refine app_bytes (xs := []) h1 (by simp; omega) fun o2 s2 h2 => ?_
    simp (dsimp := false) (implicitDefEqProofs := false) (maxSteps := 1000000) (disch := first | omega | assumption | (simp only [rL, Nat.reduceAdd]; done) | (simp only [rL, Nat.reduceAdd]; omega)) only [↓rD, rU, ev, ofConst, ofCell, ↓reduceIte, Nat.reduceEqDiff, Nat.reduceAdd, Nat.reduceSub, Nat.reduceMul, Nat.reduceLeDiff, Nat.reduceLT, Int.reduceNeg, Int.reduceToNat, Int.reduceAdd, Int.reduceSub, Int.reduceMul, Int.reduceLT, Int.reduceLE, Int.reduceEq, rX, dg_cells, dg_fold, List.drop_succ_cons, List.nil_append]
    exact ⟨s2, Hp.sub_refl, o2, by simpa using h2, rfl⟩

theorem wbytes_spec (s0 s : Hp) (l : Nat) (bs : List UInt8) (h : WS s0 l bs s) (hb : bs.length ≤ 70368744177664) :
    AC Try.prog 48 [.ptr l 0] s fun r s' => ∃ o', Owned s s' 1 (bs.map byteAV) o' ∧ r = .sl (bs.map byteAV) o' := by
  obtain ⟨ow, h⟩ := h
  have g := h.sub _ _ (Hp.set_same _ _ _)
  refine AC_run hm prep48 (by simp) ?_
  simp (dsimp := false) (implicitDefEqProofs := false) (maxSteps := 1000000) (disch := first | omega | assumption | (simp only [rL, Nat.reduceAdd]; done) | (simp only [rL, Nat.reduceAdd]; omega)) only [↓rD, rU, ev, ofConst, ofCell, ↓reduceIte, Nat.reduceEqDiff, Nat.reduceAdd, Nat.reduceSub, Nat.reduceMul, Nat.reduceLeDiff, Nat.reduceLT, Int.reduceNeg, Int.reduceToNat, Int.reduceAdd, Int.reduceSub, Int.reduceMul, Int.reduceLT, Int.reduceLE, Int.reduceEq, rX, dg_cells, dg_fold, List.drop_succ_cons, Hp.read_of g, ne_eq, not_true_eq_false]
  refine call_intro (clone_spec bs ow s (fun hn => ?_) hb) ?_
  · subst hn; have := h.2; simpa using this
  rintro _ s1 ⟨o1, h1, rfl⟩
  simp (dsimp := false) (implicitDefEqProofs := false) (maxSteps := 1000000) (disch := first | omega | assumption | (simp only [rL, Nat.reduceAdd]; done) | (simp only [rL, Nat.reduceAdd]; omega)) only [↓rD, rU, ev, ofConst, ofCell, ↓reduceIte, Nat.reduceEqDiff, Nat.reduceAdd, Nat.reduceSub, Nat.reduceMul, Nat.reduceLeDiff, Nat.reduceLT, Int.reduceNeg, Int.reduceToNat, Int.reduceAdd, Int.reduceSub, Int.reduceMul, Int.reduceLT, Int.reduceLE, Int.reduceEq, rX, dg_cells, dg_fold, List.drop_succ_cons]
  exact ⟨s1, Hp.sub_refl, o1, h1, rfl⟩
end Go.Proofs.Ytapjikladjoicaa
set_option maxRecDepth 100000
namespace Go.Av
open Go
theorem slcRA_at {s : Hp} {n l off : Nat} {cs : List AV} (h : s l = some (.ro cs)) (h2 : off + n ≤ cs.length) : slcRA 1 n s (.ptr l off) = some (.sl ((cs.drop off).take n) .any) := by
  simp [slcRA, h, h2, elemsOf]
end Go.Av
namespace Go.Proofs.Ytapjikladjoicaa
open Go Go.Av

def opC (n : Int) (h d : List UInt8) : List AV := .v (.int .i64 n) :: (h.map byteAV ++ d.map byteAV)
/-- an opening -/
def OPV (n : Int) (h d : List UInt8) : AV := .agg (opC n h d)
def digPre (n : Int) (h d : List UInt8) : List UInt8 := preB 68 [numB n, h, d]
theorem digPre_length (n : Int) (h d : List UInt8) (hh : h.length = 32) (hd : d.length = 32) : (digPre n h d).length = 97 := by simp [digPre, preB, chunk, eightB, numB, hh, hd]
theorem opC_length {n : Int} {h d : List UInt8} (hh : h.length = 32) (hd : d.length = 32) : (opC n h d).length = 65 := by simp [opC, hh, hd]
theorem opC_h {n : Int} {h d : List UInt8} (hh : h.length = 32) : ((opC n h d).drop 1).take 32 = h.map byteAV := by
  simp only [opC, List.drop_succ_cons, List.drop_zero]
  rw [show (32 : Nat) = (h.map byteAV).length by simp [hh], List.take_left]
theorem opC_d {n : Int} {h d : List UInt8} (hh : h.length = 32) (hd : d.length = 32) : ((opC n h d).drop 33).take 32 = d.map byteAV := by
  simp only [opC, List.drop_succ_cons]
  rw [show (32 : Nat) = (h.map byteAV).length by simp [hh], List.drop_left, List.take_of_length_le (by simp [hd, hh])]

theorem digPre_spec (n : Int) (h d : List UInt8) (hh : h.length = 32) (hd : d.length = 32) (s : Hp) :
    AC Try.prog 56 [OPV n h d] s fun r s' => ∃ o, Owned s s' 1 ((digPre n h d).map byteAV) o ∧ r = .sl ((digPre n h d).map byteAV) o := by
  refine AC_run hm prep56 (by simp) ?_
  have hc : (OPV n h d).cells = opC n h d := rfl
  have hl := opC_length (n := n) hh hd
  simp (dsimp := false) (implicitDefEqProofs := false) (maxSteps := 1000000) (disch := first | omega | assumption | (simp only [rL, Nat.reduceAdd]; done) | (simp only [rL, Nat.reduceAdd]; omega)) only [↓rD, rU, ev, ofConst, ofCell, ↓reduceIte, Nat.reduceEqDiff, Nat.reduceAdd, Nat.reduceSub, Nat.reduceMul, Nat.reduceLeDiff, Nat.reduceLT, Int.reduceNeg, Int.reduceToNat, Int.reduceAdd, Int.reduceSub, Int.reduceMul, Int.reduceLT, Int.reduceLE, Int.reduceEq, rX, dg_cells, dg_fold, List.drop_succ_cons, hc, hl]
  refine newK_intro fun l1 n1 => ?_
  simp (dsimp := false) (implicitDefEqProofs := false) (maxSteps := 1000000) (disch := first | omega | assumption | (simp only [rL, Nat.reduceAdd]; done) | (simp only [rL, Nat.reduceAdd]; omega)) only [↓rD, rU, ev, ofConst, ofCell, ↓reduceIte, Nat.reduceEqDiff, Nat.reduceAdd, Nat.reduceSub, Nat.reduceMul, Nat.reduceLeDiff, Nat.reduceLT, Int.reduceNeg, Int.reduceToNat, Int.reduceAdd, Int.reduceSub, Int.reduceMul, Int.reduceLT, Int.reduceLE, Int.reduceEq, rX, dg_cells, dg_fold, List.drop_succ_cons, hc, hl]
  refine newK_intro fun l3 n3 => ?_
  obtain ⟨d31, e3⟩ := Hp.set_none n3
  have hm0 : mkv false 1 (opC n h d) = .v (.int .i64 n) := rfl
  simp (dsimp := false) (implicitDefEqProofs := false) (maxSteps := 1000000) (disch := first | omega | assumption | (simp only [rL, Nat.reduceAdd]; done) | (simp only [rL, Nat.reduceAdd]; omega)) only [↓rD, rU, ev, ofConst, ofCell, ↓reduceIte, Nat.reduceEqDiff, Nat.reduceAdd, Nat.reduceSub, Nat.reduceMul, Nat.reduceLeDiff, Nat.reduceLT, Int.reduceNeg, Int.reduceToNat, Int.reduceAdd, Int.reduceSub, Int.reduceMul, Int.reduceLT, Int.reduceLE, Int.reduceEq, rX, dg_cells, dg_fold, List.drop_succ_cons, hc, hl, hm0, Ne.symm d31]
  have hW : WS (s.set l1 (.ro (opC n h d))) l3 [] ((s.set l1 (.ro (opC n h d))).set l3 (.cells [.sl [] .nil, .v (.int .i64 0)])) := ⟨.nil, Owned.nil Hp.sub_refl⟩
  refine call_intro (num_spec _ _ l3 [] n hW (by simp)) ?_
  intro r s1 hW
  rw [List.nil_append] at hW
  have g1 : s1 l1 = some (.ro (opC n h d)) := by
    obtain ⟨ow, hO⟩ := hW
    exact hO.sub _ _ (by rw [Hp.set_ne _ _ (Ne.symm d31)]; exact Hp.set_same _ _ _)
  have hs1 : s.sub s1 := by
    obtain ⟨ow, hO⟩ := hW
    exact Hp.sub_trans (Hp.sub_new (Hp.sub_new Hp.sub_refl n1) e3) hO.sub
  have k1 : slcRA 1 32 s1 (.ptr l1 1) = some (.sl (h.map byteAV) .any) := by rw [slcRA_at g1 (by omega), opC_h hh]
  have k2 : slcRA 1 32 s1 (.ptr l1 33) = some (.sl (d.map byteAV) .any) := by rw [slcRA_at g1 (by omega), opC_d hh hd]
  simp (dsimp := false) (implicitDefEqProofs := false) (maxSteps := 1000000) (disch := first | omega | assumption | (simp only [rL, Nat.reduceAdd]; done) | (simp only [rL, Nat.reduceAdd]; omega)) only [↓rD, rU, ev, ofConst, ofCell, ↓reduceIte, Nat.reduceEqDiff, Nat.reduceAdd, Nat.reduceSub, Nat.reduceMul, Nat.reduceLeDiff, Nat.reduceLT, Int.reduceNeg, Int.reduceToNat, Int.reduceAdd, Int.reduceSub, Int.reduceMul, Int.reduceLT, Int.reduceLE, Int.reduceEq, rX, dg_cells, dg_fold, List.drop_succ_cons, k1, k2]
  refine call_intro (wbytes_spec _ s1 l3 (numB n) hW (by simp [numB, eightB])) ?_
  rintro _ s2 ⟨o2, h2, rfl⟩
  have g2 := h2.sub _ _ g1
  have k3 : slcRA 1 32 s2 (.ptr l1 1) = some (.sl (h.map byteAV) .any) := by rw [slcRA_at g2 (by omega), opC_h hh]
  have k4 : slcRA 1 32 s2 (.ptr l1 33) = some (.sl (d.map byteAV) .any) := by rw [slcRA_at g2 (by omega), opC_d hh hd]
  simp (dsimp := false) (implicitDefEqProofs := false) (maxSteps := 1000000) (disch := first | omega | assumption | (simp only [rL, Nat.reduceAdd]; done) | (simp only [rL, Nat.reduceAdd]; omega)) only [↓rD, rU, ev, ofConst, ofCell, ↓reduceIte, Nat.reduceEqDiff, Nat.reduceAdd, Nat.reduceSub, Nat.reduceMul, Nat.reduceLeDiff, Nat.reduceLT, Int.reduceNeg, Int.reduceToNat, Int.reduceAdd, Int.reduceSub, Int.reduceMul, Int.reduceLT, Int.reduceLE, Int.reduceEq, rX, dg_cells, dg_fold, List.drop_succ_cons, k3, k4]
  refine bsl_own Hp.sub_refl (by simp [allLen, AV.cells]) fun o3 s3 h3 => ?_
  simp (dsimp := false) (implicitDefEqProofs := false) (maxSteps := 1000000) (disch := first | omega | assumption | (simp only [rL, Nat.reduceAdd]; done) | (simp only [rL, Nat.reduceAdd]; omega)) only [↓rD, rU, ev, ofConst, ofCell, ↓reduceIte, Nat.reduceEqDiff, Nat.reduceAdd, Nat.reduceSub, Nat.reduceMul, Nat.reduceLeDiff, Nat.reduceLT, Int.reduceNeg, Int.reduceToNat, Int.reduceAdd, Int.reduceSub, Int.reduceMul, Int.reduceLT, Int.reduceLE, Int.reduceEq, rX, dg_cells, dg_fold, List.drop_succ_cons]
  have hlen := digPre_length n h d hh hd
  refine call_intro (pre_spec 68 [(numB n, o2), (h, .any), (d, .any)] o3 (by simp only [digPre] at hlen; simp only [List.map_cons, List.map_nil, hlen]; omega) _) ?_
  rintro _ s4 ⟨o4, h4, rfl⟩
  simp (dsimp := false) (implicitDefEqProofs := false) (maxSteps := 1000000) (disch := first | omega | assumption | (simp only [rL, Nat.reduceAdd]; done) | (simp only [rL, Nat.reduceAdd]; omega)) only [↓rD, rU, ev, ofConst, ofCell, ↓reduceIte, Nat.reduceEqDiff, Nat.reduceAdd, Nat.reduceSub, Nat.reduceMul, Nat.reduceLeDiff, Nat.reduceLT, Int.reduceNeg, Int.reduceToNat, Int.reduceAdd, Int.reduceSub, Int.reduceMul, Int.reduceLT, Int.reduceLE, Int.reduceEq, rX, dg_cells, dg_fold, List.drop_succ_cons]
  exact ⟨s4, Hp.sub_refl, o4, h4.base (Hp.sub_trans hs1 (Hp.sub_trans h2.sub h3.sub)), rfl⟩
end Go.Proofs.Ytapjikladjoicaa
set_option maxRecDepth 100000
namespace Go.Proofs.Ytapjikladjoicaa
open Go Go.Av

theorem op_fold {n : Int} {h d : List UInt8} (hh : h.length = 32) (hd : d.length = 32) : (.agg ((opC n h d).take 65) : AV) = OPV n h d := by
  rw [List.take_of_length_le (by rw [opC_length hh hd]; omega)]; rfl

theorem bdigest_spec (n : Int) (h d : List UInt8) (hh : h.length = 32) (hd : d.length = 32) (s : Hp) :
    AC Try.prog 26 [OPV n h d] s fun r s' => s' = s ∧ r = dg (sha256 (digPre n h d)) := by
  refine AC_run hm prep26 (by simp) ?_
  have hc : (OPV n h d).cells = opC n h d := rfl
  have hl := opC_length (n := n) hh hd
  have hf := op_fold (n := n) hh hd
  simp (dsimp := false) (implicitDefEqProofs := false) (maxSteps := 1000000) (disch := first | omega | assumption | (simp only [rL, Nat.reduceAdd]; done) | (simp only [rL, Nat.reduceAdd]; omega)) only [↓rD, rU, ev, ofConst, ofCell, ↓reduceIte, Nat.reduceEqDiff, Nat.reduceAdd, Nat.reduceSub, Nat.reduceMul, Nat.reduceLeDiff, Nat.reduceLT, Int.reduceNeg, Int.reduceToNat, Int.reduceAdd, Int.reduceSub, Int.reduceMul, Int.reduceLT, Int.reduceLE, Int.reduceEq, rX, dg_cells, dg_fold, List.drop_succ_cons, hc, hl]
  refine newK_intro fun l1 n1 => ?_
  simp (dsimp := false) (implicitDefEqProofs := false) (maxSteps := 1000000) (disch := first | omega | assumption | (simp only [rL, Nat.reduceAdd]; done) | (simp only [rL, Nat.reduceAdd]; omega)) only [↓rD, rU, ev, ofConst, ofCell, ↓reduceIte, Nat.reduceEqDiff, Nat.reduceAdd, Nat.reduceSub, Nat.reduceMul, Nat.reduceLeDiff, Nat.reduceLT, Int.reduceNeg, Int.reduceToNat, Int.reduceAdd, Int.reduceSub, Int.reduceMul, Int.reduceLT, Int.reduceLE, Int.reduceEq, rX, dg_cells, dg_fold, List.drop_succ_cons, hc, hl]
  refine newK_intro fun l2 n2 => ?_
  obtain ⟨d21, e2⟩ := Hp.set_none n2
  simp (dsimp := false) (implicitDefEqProofs := false) (maxSteps := 1000000) (disch := first | omega | assumption | (simp only [rL, Nat.reduceAdd]; done) | (simp only [rL, Nat.reduceAdd]; omega)) only [↓rD, rU, ev, ofConst, ofCell, ↓reduceIte, Nat.reduceEqDiff, Nat.reduceAdd, Nat.reduceSub, Nat.reduceMul, Nat.reduceLeDiff, Nat.reduceLT, Int.reduceNeg, Int.reduceToNat, Int.reduceAdd, Int.reduceSub, Int.reduceMul, Int.reduceLT, Int.reduceLE, Int.reduceEq, rX, dg_cells, dg_fold, List.drop_succ_cons, hc, hl, Ne.symm d21, hf]
  refine call_intro (digPre_spec n h d hh hd _) ?_
  rintro _ s1 ⟨o1, h1, rfl⟩
  simp (dsimp := false) (implicitDefEqProofs := false) (maxSteps := 1000000) (disch := first | omega | assumption | (simp only [rL, Nat.reduceAdd]; done) | (simp only [rL, Nat.reduceAdd]; omega)) only [↓rD, rU, ev, ofConst, ofCell, ↓reduceIte, Nat.reduceEqDiff, Nat.reduceAdd, Nat.reduceSub, Nat.reduceMul, Nat.reduceLeDiff, Nat.reduceLT, Int.reduceNeg, Int.reduceToNat, Int.reduceAdd, Int.reduceSub, Int.reduceMul, Int.reduceLT, Int.reduceLE, Int.reduceEq, rX, dg_cells, dg_fold, List.drop_succ_cons]
  refine call_intro (sum_spec (digPre n h d) o1 (by rw [digPre_length n h d hh hd]; omega) _) ?_
  rintro _ _ ⟨rfl, rfl⟩
  have g2 := h1.sub _ _ (Hp.set_same _ _ _)
  have hq := sha256_length (digPre n h d)
  generalize sha256 (digPre n h d) = e at *
  simp (dsimp := false) (implicitDefEqProofs := false) (maxSteps := 1000000) (disch := first | omega | assumption | (simp only [rL, Nat.reduceAdd]; done) | (simp only [rL, Nat.reduceAdd]; omega)) only [↓rD, rU, ev, ofConst, ofCell, ↓reduceIte, Nat.reduceEqDiff, Nat.reduceAdd, Nat.reduceSub, Nat.reduceMul, Nat.reduceLeDiff, Nat.reduceLT, Int.reduceNeg, Int.reduceToNat, Int.reduceAdd, Int.reduceSub, Int.reduceMul, Int.reduceLT, Int.reduceLE, Int.reduceEq, rX, dg_cells, dg_fold, List.drop_succ_cons, hq, Hp.stA_of g2, Hp.read_of g2]
  exact ⟨s, Hp.sub_new (Hp.sub_trans (Hp.sub_new (Hp.sub_new Hp.sub_refl n1) e2) h1.sub) e2, rfl⟩

theorem lsum_spec (n : Int) (h d : List UInt8) (hh : h.length = 32) (hd : d.length = 32) (s : Hp) :
    AC Try.prog 9 [OPV n h d] s fun r s' => s' = s ∧ r = dg (sha256 (digPre n h d)) := by
  refine AC_run hm prep9 (by simp) ?_
  have hc : (OPV n h d).cells = opC n h d := rfl
  have hl := opC_length (n := n) hh hd
  have hf := op_fold (n := n) hh hd
  simp (dsimp := false) (implicitDefEqProofs := false) (maxSteps := 1000000) (disch := first | omega | assumption | (simp only [rL, Nat.reduceAdd]; done) | (simp only [rL, Nat.reduceAdd]; omega)) only [↓rD, rU, ev, ofConst, ofCell, ↓reduceIte, Nat.reduceEqDiff, Nat.reduceAdd, Nat.reduceSub, Nat.reduceMul, Nat.reduceLeDiff, Nat.reduceLT, Int.reduceNeg, Int.reduceToNat, Int.reduceAdd, Int.reduceSub, Int.reduceMul, Int.reduceLT, Int.reduceLE, Int.reduceEq, rX, dg_cells, dg_fold, List.drop_succ_cons, hc, hl]
  refine newK_intro fun l1 n1 => ?_
  simp (dsimp := false) (implicitDefEqProofs := false) (maxSteps := 1000000) (disch := first | omega | assumption | (simp only [rL, Nat.reduceAdd]; done) | (simp only [rL, Nat.reduceAdd]; omega)) only [↓rD, rU, ev, ofConst, ofCell, ↓reduceIte, Nat.reduceEqDiff, Nat.reduceAdd, Nat.reduceSub, Nat.reduceMul, Nat.reduceLeDiff, Nat.reduceLT, Int.reduceNeg, Int.reduceToNat, Int.reduceAdd, Int.reduceSub, Int.reduceMul, Int.reduceLT, Int.reduceLE, Int.reduceEq, rX, dg_cells, dg_fold, List.drop_succ_cons, hc, hl]
  refine newK_intro fun l2 n2 => ?_
  obtain ⟨d21, e2⟩ := Hp.set_none n2
  simp (dsimp := false) (implicitDefEqProofs := false) (maxSteps := 1000000) (disch := first | omega | assumption | (simp only [rL, Nat.reduceAdd]; done) | (simp only [rL, Nat.reduceAdd]; omega)) only [↓rD, rU, ev, ofConst, ofCell, ↓reduceIte, Nat.reduceEqDiff, Nat.reduceAdd, Nat.reduceSub, Nat.reduceMul, Nat.reduceLeDiff, Nat.reduceLT, Int.reduceNeg, Int.reduceToNat, Int.reduceAdd, Int.reduceSub, Int.reduceMul, Int.reduceLT, Int.reduceLE, Int.reduceEq, rX, dg_cells, dg_fold, List.drop_succ_cons, hc, hl, Ne.symm d21, hf]
  refine call_intro (bdigest_spec n h d hh hd _) ?_
  rintro _ _ ⟨rfl, rfl⟩
  have hq := sha256_length (digPre n h d)
  generalize sha256 (digPre n h d) = e at *
  simp (dsimp := false) (implicitDefEqProofs := false) (maxSteps := 1000000) (disch := first | omega | assumption | (simp only [rL, Nat.reduceAdd]; done) | (simp only [rL, Nat.reduceAdd]; omega)) only [↓rD, rU, ev, ofConst, ofCell, ↓reduceIte, Nat.reduceEqDiff, Nat.reduceAdd, Nat.reduceSub, Nat.reduceMul, Nat.reduceLeDiff, Nat.reduceLT, Int.reduceNeg, Int.reduceToNat, Int.reduceAdd, Int.reduceSub, Int.reduceMul, Int.reduceLT, Int.reduceLE, Int.reduceEq, rX, dg_cells, dg_fold, List.drop_succ_cons, hq]
  exact ⟨s, Hp.sub_new (Hp.sub_new Hp.sub_refl n1) e2, rfl⟩
end Go.Proofs.Ytapjikladjoicaa
set_option maxRecDepth 100000
namespace Go.Proofs.Ytapjikladjoicaa
open Go Go.Av

def rightN (n : Int) : Bool := decide (0 ≤ n) && decide (n ≤ 1099511627776)
theorem opc0 {n : Int} {h d : List UInt8} : mkv false 1 (opC n h d) = .v (.int .i64 n) := rfl

theorem right_spec (n : Int) (h d : List UInt8) (hh : h.length = 32) (hd : d.length = 32) (s : Hp) :
    AC Try.prog 27 [OPV n h d] s fun r s' => s' = s ∧ r = .v (.bool (rightN n)) := by
  refine AC_run hm prep27 (by simp) ?_
  have hc : (OPV n h d).cells = opC n h d := rfl
  have hl := opC_length (n := n) hh hd
  simp (dsimp := false) (implicitDefEqProofs := false) (maxSteps := 1000000) (disch := first | omega | assumption | (simp only [rL, Nat.reduceAdd]; done) | (simp only [rL, Nat.reduceAdd]; omega)) only [↓rD, rU, ev, ofConst, ofCell, ↓reduceIte, Nat.reduceEqDiff, Nat.reduceAdd, Nat.reduceSub, Nat.reduceMul, Nat.reduceLeDiff, Nat.reduceLT, Int.reduceNeg, Int.reduceToNat, Int.reduceAdd, Int.reduceSub, Int.reduceMul, Int.reduceLT, Int.reduceLE, Int.reduceEq, rX, dg_cells, dg_fold, List.drop_succ_cons, hc, hl]
  refine newK_intro fun l1 n1 => ?_
  simp (dsimp := false) (implicitDefEqProofs := false) (maxSteps := 1000000) (disch := first | omega | assumption | (simp only [rL, Nat.reduceAdd]; done) | (simp only [rL, Nat.reduceAdd]; omega)) only [↓rD, rU, ev, ofConst, ofCell, ↓reduceIte, Nat.reduceEqDiff, Nat.reduceAdd, Nat.reduceSub, Nat.reduceMul, Nat.reduceLeDiff, Nat.reduceLT, Int.reduceNeg, Int.reduceToNat, Int.reduceAdd, Int.reduceSub, Int.reduceMul, Int.reduceLT, Int.reduceLE, Int.reduceEq, rX, dg_cells, dg_fold, List.drop_succ_cons, hc, hl, opc0]
  by_cases c : 0 ≤ n
  · simp (dsimp := false) (implicitDefEqProofs := false) (maxSteps := 1000000) (disch := first | omega | assumption | (simp only [rL, Nat.reduceAdd]; done) | (simp only [rL, Nat.reduceAdd]; omega)) only [↓rD, rU, ev, ofConst, ofCell, ↓reduceIte, Nat.reduceEqDiff, Nat.reduceAdd, Nat.reduceSub, Nat.reduceMul, Nat.reduceLeDiff, Nat.reduceLT, Int.reduceNeg, Int.reduceToNat, Int.reduceAdd, Int.reduceSub, Int.reduceMul, Int.reduceLT, Int.reduceLE, Int.reduceEq, rX, dg_cells, dg_fold, List.drop_succ_cons, hc, hl, opc0, c]
    exact ⟨s, Hp.sub_new Hp.sub_refl n1, rfl, by simp [rightN, c]⟩
  · simp (dsimp := false) (implicitDefEqProofs := false) (maxSteps := 1000000) (disch := first | omega | assumption | (simp only [rL, Nat.reduceAdd]; done) | (simp only [rL, Nat.reduceAdd]; omega)) only [↓rD, rU, ev, ofConst, ofCell, ↓reduceIte, Nat.reduceEqDiff, Nat.reduceAdd, Nat.reduceSub, Nat.reduceMul, Nat.reduceLeDiff, Nat.reduceLT, Int.reduceNeg, Int.reduceToNat, Int.reduceAdd, Int.reduceSub, Int.reduceMul, Int.reduceLT, Int.reduceLE, Int.reduceEq, rX, dg_cells, dg_fold, List.drop_succ_cons, hc, hl, opc0, c]
    exact ⟨s, Hp.sub_new Hp.sub_refl n1, rfl, by simp [rightN, c]⟩
end Go.Proofs.Ytapjikladjoicaa
set_option maxRecDepth 100000
namespace Go.Proofs.Ytapjikladjoicaa
open Go Go.Av

theorem op_zero : [AV.v (.int .i64 0)] ++ List.replicate 64 (.v (.int .u8 0)) = opC 0 zd zd := rfl
theorem opC_put0 {m n : Int} {h d : List UInt8} : putAt (opC m h d) 0 [.v (.int .i64 n)] = opC n h d := by simp [putAt, opC]
theorem opC_put1 {n : Int} {h d e : List UInt8} (hh : h.length = 32) (he : e.length = 32) : putAt (opC n h d) 1 (e.map byteAV) = opC n e d := by
  have h1 : (h.map byteAV).length = 32 := by simp [hh]
  simp [putAt, opC, he, List.drop_append, h1, List.drop_of_length_le]
theorem opC_put33 {n : Int} {h d e : List UInt8} (hh : h.length = 32) (hd : d.length = 32) (he : e.length = 32) : putAt (opC n h d) 33 (e.map byteAV) = opC n h e := by
  have h1 : (h.map byteAV).length = 32 := by simp [hh]
  simp [putAt, opC, he, hh, hd, h1, List.take_append, List.take_of_length_le, List.drop_of_length_le]

def headD (l : List (List UInt8)) (n : Nat) : List UInt8 := if n = 0 then zd else l.getD (n - 1) zd
theorem headD_length {l : List (List UInt8)} {n : Nat} (hd : Digs l) (hn : n ≤ l.length) : (headD l n).length = 32 := by
  unfold headD; split
  · rfl
  · have h : n - 1 < l.length := by omega
    simp only [List.getD, List.getElem?_eq_getElem h, Option.getD_some]
    exact hd _ (List.getElem_mem h)

theorem opened_spec (l : List (List UInt8)) (n : Nat) (o : Own) (s : Hp) (hn : n ≤ l.length) (hle : l.length ≤ 1000000) (hd : Digs l) :
    AC Try.prog 7 [.sl (l.map dg) o, .v (.int .i64 n)] s fun r s' => s' = s ∧ r = OPV n (rootD (l.take n)) (headD l n) := by
  refine AC_run hm prep7 (by simp) ?_
  rw [op_zero]
  have hall := hd.all
  have hle' : ((n : Nat) : Int) ≤ ((l.map dg).length : Nat) := by rw [List.length_map]; omega
  simp (dsimp := false) (implicitDefEqProofs := false) (maxSteps := 1000000) (disch := first | omega | assumption | (simp only [rL, Nat.reduceAdd]; done) | (simp only [rL, Nat.reduceAdd]; omega)) only [↓rD, rU, ev, ofConst, ofCell, ↓reduceIte, Nat.reduceEqDiff, Nat.reduceAdd, Nat.reduceSub, Nat.reduceMul, Nat.reduceLeDiff, Nat.reduceLT, Int.reduceNeg, Int.reduceToNat, Int.reduceAdd, Int.reduceSub, Int.reduceMul, Int.reduceLT, Int.reduceLE, Int.reduceEq, rX, dg_cells, dg_fold, List.drop_succ_cons]
  refine newK_intro fun l4 n4 => ?_
  simp (dsimp := false) (implicitDefEqProofs := false) (maxSteps := 1000000) (disch := first | omega | assumption | (simp only [rL, Nat.reduceAdd]; done) | (simp only [rL, Nat.reduceAdd]; omega)) only [↓rD, rU, ev, ofConst, ofCell, ↓reduceIte, Nat.reduceEqDiff, Nat.reduceAdd, Nat.reduceSub, Nat.reduceMul, Nat.reduceLeDiff, Nat.reduceLT, Int.reduceNeg, Int.reduceToNat, Int.reduceAdd, Int.reduceSub, Int.reduceMul, Int.reduceLT, Int.reduceLE, Int.reduceEq, rX, dg_cells, dg_fold, List.drop_succ_cons, mapd_take]
  refine call_intro (root_spec _ (l.take n) .any _ rfl (by rw [List.length_take]; omega) (hd.take n)) ?_
  rintro _ _ ⟨rfl, rfl⟩
  have hr := rootD_length (l.take n)
  generalize rootD (l.take n) = q at *
  have z0 : (opC 0 zd zd).length = 65 := rfl
  have z1 : (opC n zd zd).length = 65 := rfl
  have z2 : (opC n q zd).length = 65 := opC_length hr rfl
  simp (dsimp := false) (implicitDefEqProofs := false) (maxSteps := 1000000) (disch := first | omega | assumption | (simp only [rL, Nat.reduceAdd]; done) | (simp only [rL, Nat.reduceAdd]; omega)) only [↓rD, rU, ev, ofConst, ofCell, ↓reduceIte, Nat.reduceEqDiff, Nat.reduceAdd, Nat.reduceSub, Nat.reduceMul, Nat.reduceLeDiff, Nat.reduceLT, Int.reduceNeg, Int.reduceToNat, Int.reduceAdd, Int.reduceSub, Int.reduceMul, Int.reduceLT, Int.reduceLE, Int.reduceEq, rX, dg_cells, dg_fold, List.drop_succ_cons, z0, z1, z2, hr, opC_put0, opC_put1 zd_length hr]
  refine newK_intro fun l5 n5 => ?_
  obtain ⟨d54, e5⟩ := Hp.set_none n5
  have fin : ∀ x y : Ob, s.sub ((s.set l4 x).set l5 y) := fun x y => Hp.sub_new (Hp.sub_new Hp.sub_refl n4) e5
  have hcs (e : List UInt8) : (AV.agg (opC n q e)).cells = opC n q e := rfl
  by_cases h0 : n = 0
  · have c0 : ¬ (0 : Int) < (n : Nat) := by omega
    have hh : headD l n = zd := by rw [headD, if_pos h0]
    have tk : (opC n q zd).take 65 = opC n q zd := List.take_of_length_le (by rw [z2]; omega)
    simp (dsimp := false) (implicitDefEqProofs := false) (maxSteps := 1000000) (disch := first | omega | assumption | (simp only [rL, Nat.reduceAdd]; done) | (simp only [rL, Nat.reduceAdd]; omega)) only [↓rD, rU, ev, ofConst, ofCell, ↓reduceIte, Nat.reduceEqDiff, Nat.reduceAdd, Nat.reduceSub, Nat.reduceMul, Nat.reduceLeDiff, Nat.reduceLT, Int.reduceNeg, Int.reduceToNat, Int.reduceAdd, Int.reduceSub, Int.reduceMul, Int.reduceLT, Int.reduceLE, Int.reduceEq, rX, dg_cells, dg_fold, List.drop_succ_cons, z0, z2, hcs, c0, d54, Ne.symm d54, tk]
    exact ⟨s, fin _ _, rfl, by rw [hh]; rfl⟩
  · have c0 : (0 : Int) < (n : Nat) := by omega
    have hlt : n - 1 < l.length := by omega
    have hh : headD l n = l[n - 1] := by rw [headD, if_neg h0]; simp [List.getD, hlt]
    have en : (n : Int) - 1 = ((n - 1 : Nat) : Int) := by omega
    have he : (l.map dg)[n - 1]? = some (dg l[n - 1]) := by simp [hlt]
    have hx := hd l[n - 1] (List.getElem_mem hlt)
    rw [hh]
    generalize l[n - 1] = x at *
    have z3 : (opC n q x).length = 65 := opC_length hr hx
    have tk : (opC n q x).take 65 = opC n q x := List.take_of_length_le (by rw [z3]; omega)
    simp (dsimp := false) (implicitDefEqProofs := false) (maxSteps := 1000000) (disch := first | omega | assumption | (simp only [rL, Nat.reduceAdd]; done) | (simp only [rL, Nat.reduceAdd]; omega)) only [↓rD, rU, ev, ofConst, ofCell, ↓reduceIte, Nat.reduceEqDiff, Nat.reduceAdd, Nat.reduceSub, Nat.reduceMul, Nat.reduceLeDiff, Nat.reduceLT, Int.reduceNeg, Int.reduceToNat, Int.reduceAdd, Int.reduceSub, Int.reduceMul, Int.reduceLT, Int.reduceLE, Int.reduceEq, rX, dg_cells, dg_fold, List.drop_succ_cons, z0, z2, z3, hcs, tk, c0, d54, Ne.symm d54, en, iaSA_sl, he, elA_dg, hx, opC_put33 hr zd_length hx]
    exact ⟨s, fin _ _, rfl, rfl⟩
end Go.Proofs.Ytapjikladjoicaa
set_option maxRecDepth 100000
namespace Go.Proofs.Ytapjikladjoicaa
open Go Go.Av

/-- a follower's cells: opening, steps, fork -/
def FW (n : Int) (h d : List UInt8) (st : Int) (fk : AV) : List AV := opC n h d ++ [.v (.int .i64 st), fk]
theorem FW_length {n : Int} {h d : List UInt8} {st : Int} {fk : AV} (hh : h.length = 32) (hd : d.length = 32) : (FW n h d st fk).length = 67 := by simp [FW, opC, hh, hd]
theorem FW_op {n : Int} {h d : List UInt8} {st : Int} {fk : AV} (hh : h.length = 32) (hd : d.length = 32) : (FW n h d st fk).take 65 = opC n h d := by
  rw [FW, List.take_append_of_le_length (by rw [opC_length hh hd]; omega), List.take_of_length_le (by rw [opC_length hh hd]; omega)]
theorem FW_65 {n : Int} {h d : List UInt8} {st : Int} {fk : AV} (hh : h.length = 32) (hd : d.length = 32) : (FW n h d st fk).drop 65 = [.v (.int .i64 st), fk] := by
  rw [FW, show (65 : Nat) = (opC n h d).length from (opC_length hh hd).symm, List.drop_left]

theorem Steps_spec (s : Hp) (l : Nat) (n : Int) (h d : List UInt8) (st : Int) (fk : AV) (hh : h.length = 32) (hd : d.length = 32) (hs : s l = some (.cells (FW n h d st fk))) :
    AC Try.prog 13 [.ptr l 0] s fun r s' => s' = s ∧ r = .v (.int .i64 st) := by
  have hl := FW_length (n := n) (st := st) (fk := fk) hh hd
  refine AC_run hm prep13 (by simp) ?_
  simp (dsimp := false) (implicitDefEqProofs := false) (maxSteps := 1000000) (disch := first | omega | assumption | (simp only [rL, Nat.reduceAdd]; done) | (simp only [rL, Nat.reduceAdd]; omega)) only [↓rD, rU, ev, ofConst, ofCell, ↓reduceIte, Nat.reduceEqDiff, Nat.reduceAdd, Nat.reduceSub, Nat.reduceMul, Nat.reduceLeDiff, Nat.reduceLT, Int.reduceNeg, Int.reduceToNat, Int.reduceAdd, Int.reduceSub, Int.reduceMul, Int.reduceLT, Int.reduceLE, Int.reduceEq, rX, dg_cells, dg_fold, List.drop_succ_cons, Hp.read_of hs, hl, FW_65 hh hd]
  exact ⟨s, Hp.sub_refl, rfl⟩

theorem Opening_spec (s : Hp) (l : Nat) (n : Int) (h d : List UInt8) (st : Int) (fk : AV) (hh : h.length = 32) (hd : d.length = 32) (hs : s l = some (.cells (FW n h d st fk))) :
    AC Try.prog 11 [.ptr l 0] s fun r s' => s' = s ∧ r = OPV n h d := by
  have hl := FW_length (n := n) (st := st) (fk := fk) hh hd
  have hc : (AV.agg (opC n h d)).cells = opC n h d := rfl
  have ho := opC_length (n := n) hh hd
  have tk : (opC n h d).take 65 = opC n h d := List.take_of_length_le (by rw [ho]; omega)
  refine AC_run hm prep11 (by simp) ?_
  rw [op_zero]
  have z0 : (opC 0 zd zd).length = 65 := rfl
  simp (dsimp := false) (implicitDefEqProofs := false) (maxSteps := 1000000) (disch := first | omega | assumption | (simp only [rL, Nat.reduceAdd]; done) | (simp only [rL, Nat.reduceAdd]; omega)) only [↓rD, rU, ev, ofConst, ofCell, ↓reduceIte, Nat.reduceEqDiff, Nat.reduceAdd, Nat.reduceSub, Nat.reduceMul, Nat.reduceLeDiff, Nat.reduceLT, Int.reduceNeg, Int.reduceToNat, Int.reduceAdd, Int.reduceSub, Int.reduceMul, Int.reduceLT, Int.reduceLE, Int.reduceEq, rX, dg_cells, dg_fold, List.drop_succ_cons]
  refine newK_intro fun l2 n2 => ?_
  have d2 : l ≠ l2 := by rintro rfl; rw [n2] at hs; cases hs
  simp (dsimp := false) (implicitDefEqProofs := false) (maxSteps := 1000000) (disch := first | omega | assumption | (simp only [rL, Nat.reduceAdd]; done) | (simp only [rL, Nat.reduceAdd]; omega)) only [↓rD, rU, ev, ofConst, ofCell, ↓reduceIte, Nat.reduceEqDiff, Nat.reduceAdd, Nat.reduceSub, Nat.reduceMul, Nat.reduceLeDiff, Nat.reduceLT, Int.reduceNeg, Int.reduceToNat, Int.reduceAdd, Int.reduceSub, Int.reduceMul, Int.reduceLT, Int.reduceLE, Int.reduceEq, rX, dg_cells, dg_fold, List.drop_succ_cons, Hp.read_of hs, hl, d2, FW_op hh hd, hc, ho, z0, tk]
  exact ⟨s, Hp.sub_new Hp.sub_refl n2, rfl, rfl⟩
end Go.Proofs.Ytapjikladjoicaa
set_option maxRecDepth 100000
namespace Go.Proofs.Ytapjikladjoicaa
open Go Go.Av

/-- an opening's parts -/
structure Opn where
  n : Int
  h : List UInt8
  d : List UInt8
  deriving DecidableEq
def Opn.ok (o : Opn) : Prop := o.h.length = 32 ∧ o.d.length = 32
def Opn.C (o : Opn) : List AV := opC o.n o.h o.d
def Opn.V (o : Opn) : AV := OPV o.n o.h o.d
def Opn.sum (o : Opn) : List UInt8 := sha256 (digPre o.n o.h o.d)
/-- a follower -/
structure Fw where
  o : Opn
  st : Int
  fk : Option (Opn × Opn)
def Fw.ok (F : Fw) : Prop := F.o.ok ∧ ∀ a b, F.fk = some (a, b) → a.ok ∧ b.ok
def fwC (o : Opn) (st : Int) (p : AV) : List AV := FW o.n o.h o.d st p
theorem fwC_length {o : Opn} {st : Int} {p : AV} (ho : o.ok) : (fwC o st p).length = 67 := FW_length ho.1 ho.2
theorem fwC_op {o : Opn} {st : Int} {p : AV} (ho : o.ok) : (fwC o st p).take 65 = o.C := FW_op ho.1 ho.2
theorem fwC_65 {o : Opn} {st : Int} {p : AV} (ho : o.ok) : (fwC o st p).drop 65 = [.v (.int .i64 st), p] := FW_65 ho.1 ho.2
theorem fwC_66 {o : Opn} {st : Int} {p : AV} (ho : o.ok) : (fwC o st p).drop 66 = [p] := by
  rw [show (66 : Nat) = 65 + 1 from rfl, ← List.drop_drop, fwC_65 ho]; rfl
theorem Opn.lenC {o : Opn} (ho : o.ok) : o.C.length = 65 := opC_length ho.1 ho.2
theorem Opn.cells {o : Opn} : o.V.cells = o.C := rfl
theorem Opn.fold {o : Opn} (ho : o.ok) : (.agg (o.C.take 65) : AV) = o.V := op_fold ho.1 ho.2
theorem Opn.fold' {o : Opn} : (.agg o.C : AV) = o.V := rfl
/-- a follower at l, over the objects s0 -/
theorem fw_zero {o : Opn} (ho : o.ok) : putAt ([AV.v (Value.int IntKind.i64 0)] ++ List.replicate 64 (AV.v (Value.int IntKind.u8 0)) ++ [AV.v (Value.int IntKind.i64 0)] ++ [AV.v (Value.pointer none)]) 0 o.C = fwC o 0 (.v (.pointer none)) := by
  rw [putAt, Opn.lenC ho]; rfl
/-- a follower at l, over the objects s0 -/
def FS (s0 : Hp) (l : Nat) (F : Fw) (s : Hp) : Prop :=
  match F.fk with
  | none => (s0.set l (.cells (fwC F.o F.st (.v (.pointer none))))).sub s
  | some (a, b) => ∃ lf, s0 lf = none ∧ lf ≠ l ∧ ((s0.set l (.cells (fwC F.o F.st (.ptr lf 0)))).set lf (.cells (a.C ++ b.C))).sub s
theorem FS.get {s0 s : Hp} {l : Nat} {F : Fw} (h : FS s0 l F s) : ∃ p, s l = some (.cells (fwC F.o F.st p)) ∧ ((F.fk = none ∧ p = .v (.pointer none)) ∨ ∃ lf a b, F.fk = some (a, b) ∧ p = .ptr lf 0 ∧ s lf = some (.cells (a.C ++ b.C))) := by
  unfold FS at h
  split at h
  · rename_i e; exact ⟨_, h _ _ (Hp.set_same _ _ _), .inl ⟨e, rfl⟩⟩
  · rename_i a b e
    obtain ⟨lf, h1, h2, h3⟩ := h
    refine ⟨_, h3 _ _ ?_, .inr ⟨lf, a, b, e, rfl, h3 _ _ (Hp.set_same _ _ _)⟩⟩
    rw [Hp.set_ne _ _ (Ne.symm h2)]; exact Hp.set_same _ _ _
theorem FS.mono {s0 s s' : Hp} {l : Nat} {F : Fw} (h : FS s0 l F s) (hs : s.sub s') : FS s0 l F s' := by
  unfold FS at h ⊢
  split at h
  · exact Hp.sub_trans h hs
  · obtain ⟨lf, h1, h2, h3⟩ := h
    exact ⟨lf, h1, h2, Hp.sub_trans h3 hs⟩
theorem FS.sub {s0 s : Hp} {l : Nat} {F : Fw} (h : FS s0 l F s) (h0 : s0 l = none) : s0.sub s := by
  unfold FS at h
  split at h
  · exact Hp.sub_trans (Hp.sub_new Hp.sub_refl h0) h
  · obtain ⟨lf, h1, h2, h3⟩ := h
    refine Hp.sub_trans (Hp.sub_new (Hp.sub_new Hp.sub_refl h0) ?_) h3
    exact h1

theorem fdigest_spec (s : Hp) (l : Nat) (o : Opn) (st : Int) (p : AV) (ho : o.ok) (hs : s l = some (.cells (fwC o st p))) :
    AC Try.prog 28 [.ptr l 0] s fun r s' => s' = s ∧ r = dg o.sum := by
  have hl := fwC_length (st := st) (p := p) ho
  refine AC_run hm prep28 (by simp) ?_
  simp (dsimp := false) (implicitDefEqProofs := false) (maxSteps := 1000000) (disch := first | omega | assumption | (simp only [rL, Nat.reduceAdd]; done) | (simp only [rL, Nat.reduceAdd]; omega)) only [↓rD, rU, ev, ofConst, ofCell, ↓reduceIte, Nat.reduceEqDiff, Nat.reduceAdd, Nat.reduceSub, Nat.reduceMul, Nat.reduceLeDiff, Nat.reduceLT, Int.reduceNeg, Int.reduceToNat, Int.reduceAdd, Int.reduceSub, Int.reduceMul, Int.reduceLT, Int.reduceLE, Int.reduceEq, rX, dg_cells, dg_fold, List.drop_succ_cons]
  refine newK_intro fun l2 n2 => ?_
  have d2 : l ≠ l2 := by rintro rfl; rw [n2] at hs; cases hs
  simp (dsimp := false) (implicitDefEqProofs := false) (maxSteps := 1000000) (disch := first | omega | assumption | (simp only [rL, Nat.reduceAdd]; done) | (simp only [rL, Nat.reduceAdd]; omega)) only [↓rD, rU, ev, ofConst, ofCell, ↓reduceIte, Nat.reduceEqDiff, Nat.reduceAdd, Nat.reduceSub, Nat.reduceMul, Nat.reduceLeDiff, Nat.reduceLT, Int.reduceNeg, Int.reduceToNat, Int.reduceAdd, Int.reduceSub, Int.reduceMul, Int.reduceLT, Int.reduceLE, Int.reduceEq, rX, dg_cells, dg_fold, List.drop_succ_cons, Hp.read_of hs, hl, d2, fwC_op ho]
  refine call_intro (bdigest_spec o.n o.h o.d ho.1 ho.2 _) ?_
  rintro _ _ ⟨rfl, rfl⟩
  have hq := sha256_length (digPre o.n o.h o.d)
  unfold Opn.sum
  generalize sha256 (digPre o.n o.h o.d) = e at *
  simp (dsimp := false) (implicitDefEqProofs := false) (maxSteps := 1000000) (disch := first | omega | assumption | (simp only [rL, Nat.reduceAdd]; done) | (simp only [rL, Nat.reduceAdd]; omega)) only [↓rD, rU, ev, ofConst, ofCell, ↓reduceIte, Nat.reduceEqDiff, Nat.reduceAdd, Nat.reduceSub, Nat.reduceMul, Nat.reduceLeDiff, Nat.reduceLT, Int.reduceNeg, Int.reduceToNat, Int.reduceAdd, Int.reduceSub, Int.reduceMul, Int.reduceLT, Int.reduceLE, Int.reduceEq, rX, dg_cells, dg_fold, List.drop_succ_cons, hq]
  exact ⟨s, Hp.sub_new Hp.sub_refl n2, rfl⟩

theorem Follow_spec (d : List UInt8) (o : Opn) (hd : d.length = 32) (ho : o.ok) (s : Hp) :
    AC Try.prog 8 [dg d, o.V] s fun r s' =>
      if o.sum ≠ d then s' = s ∧ r = .tup [.v (.pointer none), .v (.int .i64 41)]
      else if rightN o.n = false then s' = s ∧ r = .tup [.v (.pointer none), .v (.int .i64 1)]
      else ∃ l, s l = none ∧ r = .tup [.ptr l 0, .v (.int .i64 0)] ∧ s' = s.set l (.cells (fwC o 0 (.v (.pointer none)))) := by
  refine AC_run hm prep8 (by simp) ?_
  have hc := Opn.cells (o := o)
  have hl := Opn.lenC ho
  have hf := Opn.fold ho
  simp (dsimp := false) (implicitDefEqProofs := false) (maxSteps := 1000000) (disch := first | omega | assumption | (simp only [rL, Nat.reduceAdd]; done) | (simp only [rL, Nat.reduceAdd]; omega)) only [↓rD, rU, ev, ofConst, ofCell, ↓reduceIte, Nat.reduceEqDiff, Nat.reduceAdd, Nat.reduceSub, Nat.reduceMul, Nat.reduceLeDiff, Nat.reduceLT, Int.reduceNeg, Int.reduceToNat, Int.reduceAdd, Int.reduceSub, Int.reduceMul, Int.reduceLT, Int.reduceLE, Int.reduceEq, rX, dg_cells, dg_fold, List.drop_succ_cons, hd]
  refine newK_intro fun l2 n2 => ?_
  simp (dsimp := false) (implicitDefEqProofs := false) (maxSteps := 1000000) (disch := first | omega | assumption | (simp only [rL, Nat.reduceAdd]; done) | (simp only [rL, Nat.reduceAdd]; omega)) only [↓rD, rU, ev, ofConst, ofCell, ↓reduceIte, Nat.reduceEqDiff, Nat.reduceAdd, Nat.reduceSub, Nat.reduceMul, Nat.reduceLeDiff, Nat.reduceLT, Int.reduceNeg, Int.reduceToNat, Int.reduceAdd, Int.reduceSub, Int.reduceMul, Int.reduceLT, Int.reduceLE, Int.reduceEq, rX, dg_cells, dg_fold, List.drop_succ_cons, hc, hl]
  refine newK_intro fun l3 n3 => ?_
  obtain ⟨d32, e3⟩ := Hp.set_none n3
  have fin := Hp.sub_new (o := .cells (o.C)) (Hp.sub_new (o := .cells (d.map byteAV)) (Hp.sub_refl (s := s)) n2) e3
  simp (dsimp := false) (implicitDefEqProofs := false) (maxSteps := 1000000) (disch := first | omega | assumption | (simp only [rL, Nat.reduceAdd]; done) | (simp only [rL, Nat.reduceAdd]; omega)) only [↓rD, rU, ev, ofConst, ofCell, ↓reduceIte, Nat.reduceEqDiff, Nat.reduceAdd, Nat.reduceSub, Nat.reduceMul, Nat.reduceLeDiff, Nat.reduceLT, Int.reduceNeg, Int.reduceToNat, Int.reduceAdd, Int.reduceSub, Int.reduceMul, Int.reduceLT, Int.reduceLE, Int.reduceEq, rX, dg_cells, dg_fold, List.drop_succ_cons, hc, hl, hf, hd, d32, Ne.symm d32]
  refine call_intro (bdigest_spec o.n o.h o.d ho.1 ho.2 _) ?_
  rintro _ _ ⟨rfl, rfl⟩
  have hq := sha256_length (digPre o.n o.h o.d)
  unfold Opn.sum
  generalize sha256 (digPre o.n o.h o.d) = e at *
  simp (dsimp := false) (implicitDefEqProofs := false) (maxSteps := 1000000) (disch := first | omega | assumption | (simp only [rL, Nat.reduceAdd]; done) | (simp only [rL, Nat.reduceAdd]; omega)) only [↓rD, rU, ev, ofConst, ofCell, ↓reduceIte, Nat.reduceEqDiff, Nat.reduceAdd, Nat.reduceSub, Nat.reduceMul, Nat.reduceLeDiff, Nat.reduceLT, Int.reduceNeg, Int.reduceToNat, Int.reduceAdd, Int.reduceSub, Int.reduceMul, Int.reduceLT, Int.reduceLE, Int.reduceEq, rX, dg_cells, dg_fold, List.drop_succ_cons, hc, hl, hf, hd, hq, d32, Ne.symm d32, eqvK_dg, Bool.true_xor]
  by_cases c : e = d
  · subst c
    simp (dsimp := false) (implicitDefEqProofs := false) (maxSteps := 1000000) (disch := first | omega | assumption | (simp only [rL, Nat.reduceAdd]; done) | (simp only [rL, Nat.reduceAdd]; omega)) only [↓rD, rU, ev, ofConst, ofCell, ↓reduceIte, Nat.reduceEqDiff, Nat.reduceAdd, Nat.reduceSub, Nat.reduceMul, Nat.reduceLeDiff, Nat.reduceLT, Int.reduceNeg, Int.reduceToNat, Int.reduceAdd, Int.reduceSub, Int.reduceMul, Int.reduceLT, Int.reduceLE, Int.reduceEq, rX, dg_cells, dg_fold, List.drop_succ_cons, decide_true, Bool.not_true, hc, hl, hf]
    refine call_intro (right_spec o.n o.h o.d ho.1 ho.2 _) ?_
    rintro _ _ ⟨rfl, rfl⟩
    cases hr : rightN o.n
    · simp (dsimp := false) (implicitDefEqProofs := false) (maxSteps := 1000000) (disch := first | omega | assumption | (simp only [rL, Nat.reduceAdd]; done) | (simp only [rL, Nat.reduceAdd]; omega)) only [↓rD, rU, ev, ofConst, ofCell, ↓reduceIte, Nat.reduceEqDiff, Nat.reduceAdd, Nat.reduceSub, Nat.reduceMul, Nat.reduceLeDiff, Nat.reduceLT, Int.reduceNeg, Int.reduceToNat, Int.reduceAdd, Int.reduceSub, Int.reduceMul, Int.reduceLT, Int.reduceLE, Int.reduceEq, rX, dg_cells, dg_fold, List.drop_succ_cons, Bool.not_false]
      exact ⟨s, fin, by simp⟩
    · have hz := fw_zero ho
      have hz1 := fwC_length (st := 0) (p := .v (.pointer none)) ho
      simp (dsimp := false) (implicitDefEqProofs := false) (maxSteps := 1000000) (disch := first | omega | assumption | (simp only [rL, Nat.reduceAdd]; done) | (simp only [rL, Nat.reduceAdd]; omega)) only [↓rD, rU, ev, ofConst, ofCell, ↓reduceIte, Nat.reduceEqDiff, Nat.reduceAdd, Nat.reduceSub, Nat.reduceMul, Nat.reduceLeDiff, Nat.reduceLT, Int.reduceNeg, Int.reduceToNat, Int.reduceAdd, Int.reduceSub, Int.reduceMul, Int.reduceLT, Int.reduceLE, Int.reduceEq, rX, dg_cells, dg_fold, List.drop_succ_cons, Bool.not_true, hc, hl, hf, hz, hz1]
      refine newK_intro fun l4 n4 => ?_
      obtain ⟨d43, n4⟩ := Hp.set_none n4
      obtain ⟨d42, n4⟩ := Hp.set_none n4
      simp (dsimp := false) (implicitDefEqProofs := false) (maxSteps := 1000000) (disch := first | omega | assumption | (simp only [rL, Nat.reduceAdd]; done) | (simp only [rL, Nat.reduceAdd]; omega)) only [↓rD, rU, ev, ofConst, ofCell, ↓reduceIte, Nat.reduceEqDiff, Nat.reduceAdd, Nat.reduceSub, Nat.reduceMul, Nat.reduceLeDiff, Nat.reduceLT, Int.reduceNeg, Int.reduceToNat, Int.reduceAdd, Int.reduceSub, Int.reduceMul, Int.reduceLT, Int.reduceLE, Int.reduceEq, rX, dg_cells, dg_fold, List.drop_succ_cons, hz1]
      refine ⟨s.set l4 (.cells (fwC o 0 (.v (.pointer none)))), ?_, ?_⟩
      · exact Hp.sub_set fin
      · simp only [ne_eq, not_true_eq_false, if_false, Bool.true_eq_false]; exact ⟨l4, n4, rfl, rfl⟩
  · simp (dsimp := false) (implicitDefEqProofs := false) (maxSteps := 1000000) (disch := first | omega | assumption | (simp only [rL, Nat.reduceAdd]; done) | (simp only [rL, Nat.reduceAdd]; omega)) only [↓rD, rU, ev, ofConst, ofCell, ↓reduceIte, Nat.reduceEqDiff, Nat.reduceAdd, Nat.reduceSub, Nat.reduceMul, Nat.reduceLeDiff, Nat.reduceLT, Int.reduceNeg, Int.reduceToNat, Int.reduceAdd, Int.reduceSub, Int.reduceMul, Int.reduceLT, Int.reduceLE, Int.reduceEq, rX, dg_cells, dg_fold, List.drop_succ_cons, c, decide_false, Bool.not_false]
    exact ⟨s, fin, by simp [c]⟩
end Go.Proofs.Ytapjikladjoicaa
set_option maxRecDepth 100000
namespace Go.Proofs.Ytapjikladjoicaa
open Go Go.Av

def keepF (F : Fw) (o : Opn) : Fw :=
  match F.fk with
  | none => { F with fk := some (o, F.o) }
  | some _ => F
theorem fwC_put66 {o : Opn} {st : Int} {p q : AV} (ho : o.ok) : putAt (fwC o st p) 66 [q] = fwC o st q := by
  have h := Opn.lenC ho
  have e : fwC o st p = o.C ++ [.v (.int .i64 st), p] := rfl
  rw [e, putAt, show (66 : Nat) = o.C.length + 1 by omega, List.take_append, List.take_of_length_le (by omega)]
  simp [fwC, FW, Opn.C, List.drop_of_length_le]
def opZ : List AV := .v (.int .i64 0) :: List.replicate 64 (.v (.int .u8 0))
theorem fk_zero {a : Opn} (ha : a.ok) : putAt ([AV.v (Value.int IntKind.i64 0)] ++ List.replicate 64 (AV.v (Value.int IntKind.u8 0)) ++ [AV.v (Value.int IntKind.i64 0)] ++ List.replicate 64 (AV.v (Value.int IntKind.u8 0))) 0 a.C = a.C ++ opZ := by
  rw [putAt, Opn.lenC ha]; rfl
theorem fk_zero1 {a b : Opn} (ha : a.ok) (hb : b.ok) : putAt (a.C ++ opZ) 65 b.C = a.C ++ b.C := by
  have h1 := Opn.lenC ha
  have h2 := Opn.lenC hb
  rw [putAt, ← h1, List.take_left, h2]
  simp [List.drop_append, h1, opZ, List.drop_of_length_le]

theorem keep_spec (s0 s : Hp) (l : Nat) (F : Fw) (o : Opn) (hF : F.o.ok) (ho : o.ok) (h0 : s0 l = none) (h : FS s0 l F s) :
    AC Try.prog 29 [.ptr l 0, o.V] s fun _ s' => FS s0 l (keepF F o) s' := by
  obtain ⟨p, hs, hp⟩ := h.get
  refine AC_run hm prep29 (by simp) ?_
  have hc := Opn.cells (o := o)
  have hc2 := Opn.cells (o := F.o)
  have hl := Opn.lenC ho
  have hl2 := Opn.lenC hF
  have hf := Opn.fold ho
  have hw := fwC_length (st := F.st) (p := p) hF
  simp (dsimp := false) (implicitDefEqProofs := false) (maxSteps := 1000000) (disch := first | omega | assumption | (simp only [rL, Nat.reduceAdd]; done) | (simp only [rL, Nat.reduceAdd]; omega)) only [↓rD, rU, ev, ofConst, ofCell, ↓reduceIte, Nat.reduceEqDiff, Nat.reduceAdd, Nat.reduceSub, Nat.reduceMul, Nat.reduceLeDiff, Nat.reduceLT, Int.reduceNeg, Int.reduceToNat, Int.reduceAdd, Int.reduceSub, Int.reduceMul, Int.reduceLT, Int.reduceLE, Int.reduceEq, rX, dg_cells, dg_fold, List.drop_succ_cons, hc, hl]
  refine newK_intro fun l3 n3 => ?_
  have d3 : l ≠ l3 := by rintro rfl; rw [n3] at hs; cases hs
  rcases hp with ⟨hk, rfl⟩ | ⟨lf, a, b, hk, rfl, hlf⟩
  · have hz := fk_zero ho
    have hz' := fk_zero1 ho hF
    have hz0 : (o.C ++ opZ).length = 130 := by simp [hl, opZ]
    have hz1 : (o.C ++ F.o.C).length = 130 := by simp [hl, hl2]
    simp (dsimp := false) (implicitDefEqProofs := false) (maxSteps := 1000000) (disch := first | omega | assumption | (simp only [rL, Nat.reduceAdd]; done) | (simp only [rL, Nat.reduceAdd]; omega)) only [↓rD, rU, ev, ofConst, ofCell, ↓reduceIte, Nat.reduceEqDiff, Nat.reduceAdd, Nat.reduceSub, Nat.reduceMul, Nat.reduceLeDiff, Nat.reduceLT, Int.reduceNeg, Int.reduceToNat, Int.reduceAdd, Int.reduceSub, Int.reduceMul, Int.reduceLT, Int.reduceLE, Int.reduceEq, rX, dg_cells, dg_fold, List.drop_succ_cons, Bool.not_false, Bool.not_true, Bool.false_xor, Bool.true_xor, Bool.true_and, Bool.false_and, decide_true, decide_false, Hp.read_of hs, hw, d3, fwC_66 hF, hc, hc2, hl, hl2, hf, fwC_op hF, Opn.fold', hz, hz', hz0, hz1]
    refine newK_intro fun l16 n16 => ?_
    obtain ⟨e163, n16⟩ := Hp.set_none n16
    have e16 : l ≠ l16 := by rintro rfl; rw [n16] at hs; cases hs
    simp (dsimp := false) (implicitDefEqProofs := false) (maxSteps := 1000000) (disch := first | omega | assumption | (simp only [rL, Nat.reduceAdd]; done) | (simp only [rL, Nat.reduceAdd]; omega)) only [↓rD, rU, ev, ofConst, ofCell, ↓reduceIte, Nat.reduceEqDiff, Nat.reduceAdd, Nat.reduceSub, Nat.reduceMul, Nat.reduceLeDiff, Nat.reduceLT, Int.reduceNeg, Int.reduceToNat, Int.reduceAdd, Int.reduceSub, Int.reduceMul, Int.reduceLT, Int.reduceLE, Int.reduceEq, rX, dg_cells, dg_fold, List.drop_succ_cons, Bool.not_false, Bool.not_true, Bool.false_xor, Bool.true_xor, Bool.true_and, Bool.false_and, decide_true, decide_false, Hp.read_of hs, Hp.stA_of hs, hw, d3, e16, fwC_66 hF, hz1, fwC_put66 hF]
    refine ⟨_, Hp.sub_refl, ?_⟩
    simp only [FS, hk] at h
    simp only [keepF, hk, FS]
    refine ⟨l16, ?_, Ne.symm e16, ?_⟩
    · exact Hp.sub_none (Hp.sub_trans (Hp.sub_new Hp.sub_refl h0) h) n16
    · rw [Hp.set_set_comm _ (Ne.symm e16)]
      refine Hp.sub_set ?_
      refine Hp.sub_trans (Hp.sub_set_of h) ?_
      rw [Hp.set_set_comm _ (Ne.symm d3)]
      exact Hp.sub_new Hp.sub_refl (by rw [Hp.set_ne _ _ (Ne.symm d3)]; exact n3)
  · simp (dsimp := false) (implicitDefEqProofs := false) (maxSteps := 1000000) (disch := first | omega | assumption | (simp only [rL, Nat.reduceAdd]; done) | (simp only [rL, Nat.reduceAdd]; omega)) only [↓rD, rU, ev, ofConst, ofCell, ↓reduceIte, Nat.reduceEqDiff, Nat.reduceAdd, Nat.reduceSub, Nat.reduceMul, Nat.reduceLeDiff, Nat.reduceLT, Int.reduceNeg, Int.reduceToNat, Int.reduceAdd, Int.reduceSub, Int.reduceMul, Int.reduceLT, Int.reduceLE, Int.reduceEq, rX, dg_cells, dg_fold, List.drop_succ_cons, Bool.not_false, Bool.not_true, Bool.false_xor, Bool.true_xor, Bool.true_and, Bool.false_and, decide_true, decide_false, Hp.read_of hs, hw, d3, fwC_66 hF]
    refine ⟨s, Hp.sub_new Hp.sub_refl n3, ?_⟩
    simp only [keepF, hk]; exact h
end Go.Proofs.Ytapjikladjoicaa
set_option maxRecDepth 100000
namespace Go.Proofs.Ytapjikladjoicaa
open Go Go.Av

def nextF (F : Fw) (d : List UInt8) (o : Opn) (g : List (List UInt8)) : Int × Fw :=
  if o.sum ≠ d then (41, F)
  else if d = F.o.sum then (0, F)
  else if rightN o.n = false then (42, F)
  else if o.n ≤ F.o.n then (42, keepF F o)
  else if growsF F.o.h F.o.n o.h o.n g = false then (42, F)
  else (0, { F with o := o, st := F.st + 1 })

theorem fwC_put0 {o o' : Opn} {st : Int} {p : AV} (ho : o.ok) (ho' : o'.ok) : putAt (fwC o st p) 0 o'.C = fwC o' st p := by
  have e : fwC o st p = o.C ++ [.v (.int .i64 st), p] := rfl
  rw [e, putAt, Opn.lenC ho', ← Opn.lenC ho, Nat.zero_add, List.drop_left]; rfl
theorem fwC_put65 {o : Opn} {st st' : Int} {p : AV} (ho : o.ok) : putAt (fwC o st p) 65 [.v (.int .i64 st')] = fwC o st' p := by
  have e : fwC o st p = o.C ++ [.v (.int .i64 st), p] := rfl
  rw [e, putAt, ← Opn.lenC ho, List.take_left]
  simp [fwC, FW, Opn.C]
theorem fwC_inj {o o' : Opn} {st st' : Int} {p p' : AV} (ho : o.ok) (ho' : o'.ok) (h : fwC o st p = fwC o' st' p') : p = p' := by
  have h2 := congrArg (List.drop 66) h
  rw [fwC_66 ho, fwC_66 ho'] at h2
  simpa using h2
theorem FS.setl {s0 s : Hp} {l : Nat} {F : Fw} {p : AV} (o : Opn) (st : Int) (hF : F.o.ok) (h : FS s0 l F s) (hs : s l = some (.cells (fwC F.o F.st p))) :
    FS s0 l { F with o := o, st := st } (s.set l (.cells (fwC o st p))) := by
  obtain ⟨Fo, Fst, fk⟩ := F
  cases fk with
  | none =>
    simp only [FS] at h ⊢
    have := h _ _ (Hp.set_same _ _ _)
    rw [hs] at this
    have hp := fwC_inj hF hF (Ob.cells.inj (Option.some.inj this))
    subst hp
    exact Hp.sub_set_of h
  | some ab =>
    obtain ⟨a, b⟩ := ab
    simp only [FS] at h ⊢
    obtain ⟨lf, h1, h2, h3⟩ := h
    have := h3 l _ (by rw [Hp.set_ne _ _ (Ne.symm h2)]; exact Hp.set_same _ _ _)
    rw [hs] at this
    have hp := fwC_inj hF hF (Ob.cells.inj (Option.some.inj this))
    subst hp
    refine ⟨lf, h1, h2, ?_⟩
    rw [Hp.set_set_comm _ (Ne.symm h2)] at h3 ⊢
    exact Hp.sub_set_of h3

theorem Opn.m0 {o : Opn} : mkv false 1 o.C = .v (.int .i64 o.n) := rfl
theorem fwC_m0 {o : Opn} {st : Int} {p : AV} : mkv false 1 (fwC o st p) = .v (.int .i64 o.n) := rfl
theorem Opn.h32 {o : Opn} (ho : o.ok) : (o.C.drop 1).take 32 = o.h.map byteAV := opC_h ho.1
theorem fwC_h32 {o : Opn} {st : Int} {p : AV} (ho : o.ok) : ((fwC o st p).drop 1).take 32 = o.h.map byteAV := by
  have e : fwC o st p = o.C ++ [.v (.int .i64 st), p] := rfl
  rw [e, List.drop_append_of_le_length (by rw [Opn.lenC ho]; omega), List.take_append_of_le_length (by rw [List.length_drop, Opn.lenC ho]; omega), Opn.h32 ho]
theorem dg_fold' {d : List UInt8} : (.agg (d.map byteAV) : AV) = dg d := rfl

theorem Next_spec (s0 s : Hp) (l : Nat) (F : Fw) (d : List UInt8) (o : Opn) (g : List (List UInt8)) (ow : Own) (hd : d.length = 32) (hF : F.o.ok) (ho : o.ok) (hg : Digs g) (hgl : g.length ≤ 400000) (hst : 0 ≤ F.st ∧ F.st ≤ 1000000) (h0 : s0 l = none) (h : FS s0 l F s) :
    AC Try.prog 10 [.ptr l 0, dg d, o.V, .sl (g.map dg) ow] s fun r s' => r = .v (.int .i64 (nextF F d o g).1) ∧ FS s0 l (nextF F d o g).2 s' := by
  obtain ⟨p, hs, hp⟩ := h.get
  refine AC_run hm prep10 (by simp) ?_
  have hc := Opn.cells (o := o)
  have hl := Opn.lenC ho
  have hf := Opn.fold ho
  have hw := fwC_length (st := F.st) (p := p) hF
  simp (dsimp := false) (implicitDefEqProofs := false) (maxSteps := 1000000) (disch := first | omega | assumption | (simp only [rL, Nat.reduceAdd]; done) | (simp only [rL, Nat.reduceAdd]; omega)) only [↓rD, rU, ev, ofConst, ofCell, ↓reduceIte, Nat.reduceEqDiff, Nat.reduceAdd, Nat.reduceSub, Nat.reduceMul, Nat.reduceLeDiff, Nat.reduceLT, Int.reduceNeg, Int.reduceToNat, Int.reduceAdd, Int.reduceSub, Int.reduceMul, Int.reduceLT, Int.reduceLE, Int.reduceEq, rX, dg_cells, dg_fold, List.drop_succ_cons, Bool.not_false, Bool.not_true, Bool.false_xor, Bool.true_xor, Bool.true_and, Bool.false_and, decide_true, decide_false, hd]
  refine newK_intro fun l5 n5 => ?_
  have d5 : l ≠ l5 := by rintro rfl; rw [n5] at hs; cases hs
  simp (dsimp := false) (implicitDefEqProofs := false) (maxSteps := 1000000) (disch := first | omega | assumption | (simp only [rL, Nat.reduceAdd]; done) | (simp only [rL, Nat.reduceAdd]; omega)) only [↓rD, rU, ev, ofConst, ofCell, ↓reduceIte, Nat.reduceEqDiff, Nat.reduceAdd, Nat.reduceSub, Nat.reduceMul, Nat.reduceLeDiff, Nat.reduceLT, Int.reduceNeg, Int.reduceToNat, Int.reduceAdd, Int.reduceSub, Int.reduceMul, Int.reduceLT, Int.reduceLE, Int.reduceEq, rX, dg_cells, dg_fold, List.drop_succ_cons, Bool.not_false, Bool.not_true, Bool.false_xor, Bool.true_xor, Bool.true_and, Bool.false_and, decide_true, decide_false, hd, hc, hl]
  refine newK_intro fun l6 n6 => ?_
  obtain ⟨d65, n6⟩ := Hp.set_none n6
  have d6 : l ≠ l6 := by rintro rfl; rw [n6] at hs; cases hs
  have hsub := Hp.sub_new (o := .cells o.C) (Hp.sub_new (o := .cells (d.map byteAV)) (Hp.sub_refl (s := s)) n5) n6
  simp (dsimp := false) (implicitDefEqProofs := false) (maxSteps := 1000000) (disch := first | omega | assumption | (simp only [rL, Nat.reduceAdd]; done) | (simp only [rL, Nat.reduceAdd]; omega)) only [↓rD, rU, ev, ofConst, ofCell, ↓reduceIte, Nat.reduceEqDiff, Nat.reduceAdd, Nat.reduceSub, Nat.reduceMul, Nat.reduceLeDiff, Nat.reduceLT, Int.reduceNeg, Int.reduceToNat, Int.reduceAdd, Int.reduceSub, Int.reduceMul, Int.reduceLT, Int.reduceLE, Int.reduceEq, rX, dg_cells, dg_fold, List.drop_succ_cons, Bool.not_false, Bool.not_true, Bool.false_xor, Bool.true_xor, Bool.true_and, Bool.false_and, decide_true, decide_false, hc, hl, hf, hd, d65, Ne.symm d65]
  refine call_intro (bdigest_spec o.n o.h o.d ho.1 ho.2 _) ?_
  rintro _ _ ⟨rfl, rfl⟩
  have hq := sha256_length (digPre o.n o.h o.d)
  have eq : sha256 (digPre o.n o.h o.d) = o.sum := rfl
  rw [eq] at hq ⊢
  simp (dsimp := false) (implicitDefEqProofs := false) (maxSteps := 1000000) (disch := first | omega | assumption | (simp only [rL, Nat.reduceAdd]; done) | (simp only [rL, Nat.reduceAdd]; omega)) only [↓rD, rU, ev, ofConst, ofCell, ↓reduceIte, Nat.reduceEqDiff, Nat.reduceAdd, Nat.reduceSub, Nat.reduceMul, Nat.reduceLeDiff, Nat.reduceLT, Int.reduceNeg, Int.reduceToNat, Int.reduceAdd, Int.reduceSub, Int.reduceMul, Int.reduceLT, Int.reduceLE, Int.reduceEq, rX, dg_cells, dg_fold, List.drop_succ_cons, Bool.not_false, Bool.not_true, Bool.false_xor, Bool.true_xor, Bool.true_and, Bool.false_and, decide_true, decide_false, hc, hl, hf, hd, hq, d65, Ne.symm d65, eqvK_dg]
  by_cases c1 : o.sum = d
  · simp (dsimp := false) (implicitDefEqProofs := false) (maxSteps := 1000000) (disch := first | omega | assumption | (simp only [rL, Nat.reduceAdd]; done) | (simp only [rL, Nat.reduceAdd]; omega)) only [↓rD, rU, ev, ofConst, ofCell, ↓reduceIte, Nat.reduceEqDiff, Nat.reduceAdd, Nat.reduceSub, Nat.reduceMul, Nat.reduceLeDiff, Nat.reduceLT, Int.reduceNeg, Int.reduceToNat, Int.reduceAdd, Int.reduceSub, Int.reduceMul, Int.reduceLT, Int.reduceLE, Int.reduceEq, rX, dg_cells, dg_fold, List.drop_succ_cons, Bool.not_false, Bool.not_true, Bool.false_xor, Bool.true_xor, Bool.true_and, Bool.false_and, decide_true, decide_false, c1, hd, d65, Ne.symm d65]
    refine call_intro (fdigest_spec _ l F.o F.st p hF (by rw [Hp.set_ne _ _ d6, Hp.set_ne _ _ d5]; exact hs)) ?_
    rintro _ _ ⟨rfl, rfl⟩
    have hq2 : F.o.sum.length = 32 := sha256_length _
    simp (dsimp := false) (implicitDefEqProofs := false) (maxSteps := 1000000) (disch := first | omega | assumption | (simp only [rL, Nat.reduceAdd]; done) | (simp only [rL, Nat.reduceAdd]; omega)) only [↓rD, rU, ev, ofConst, ofCell, ↓reduceIte, Nat.reduceEqDiff, Nat.reduceAdd, Nat.reduceSub, Nat.reduceMul, Nat.reduceLeDiff, Nat.reduceLT, Int.reduceNeg, Int.reduceToNat, Int.reduceAdd, Int.reduceSub, Int.reduceMul, Int.reduceLT, Int.reduceLE, Int.reduceEq, rX, dg_cells, dg_fold, List.drop_succ_cons, Bool.not_false, Bool.not_true, Bool.false_xor, Bool.true_xor, Bool.true_and, Bool.false_and, decide_true, decide_false, hd, hq2, d65, Ne.symm d65, eqvK_dg]
    by_cases c2 : d = F.o.sum
    · have e : nextF F d o g = (0, F) := by rw [nextF, if_neg (by simpa using c1), if_pos c2]
      rw [e]
      rw [← c2]
      simp (dsimp := false) (implicitDefEqProofs := false) (maxSteps := 1000000) (disch := first | omega | assumption | (simp only [rL, Nat.reduceAdd]; done) | (simp only [rL, Nat.reduceAdd]; omega)) only [↓rD, rU, ev, ofConst, ofCell, ↓reduceIte, Nat.reduceEqDiff, Nat.reduceAdd, Nat.reduceSub, Nat.reduceMul, Nat.reduceLeDiff, Nat.reduceLT, Int.reduceNeg, Int.reduceToNat, Int.reduceAdd, Int.reduceSub, Int.reduceMul, Int.reduceLT, Int.reduceLE, Int.reduceEq, rX, dg_cells, dg_fold, List.drop_succ_cons, Bool.not_false, Bool.not_true, Bool.false_xor, Bool.true_xor, Bool.true_and, Bool.false_and, decide_true, decide_false]
      exact ⟨_, Hp.sub_refl, h.mono hsub⟩
    · simp (dsimp := false) (implicitDefEqProofs := false) (maxSteps := 1000000) (disch := first | omega | assumption | (simp only [rL, Nat.reduceAdd]; done) | (simp only [rL, Nat.reduceAdd]; omega)) only [↓rD, rU, ev, ofConst, ofCell, ↓reduceIte, Nat.reduceEqDiff, Nat.reduceAdd, Nat.reduceSub, Nat.reduceMul, Nat.reduceLeDiff, Nat.reduceLT, Int.reduceNeg, Int.reduceToNat, Int.reduceAdd, Int.reduceSub, Int.reduceMul, Int.reduceLT, Int.reduceLE, Int.reduceEq, rX, dg_cells, dg_fold, List.drop_succ_cons, Bool.not_false, Bool.not_true, Bool.false_xor, Bool.true_xor, Bool.true_and, Bool.false_and, decide_true, decide_false, c2, hc, hl, hf]
      refine call_intro (right_spec o.n o.h o.d ho.1 ho.2 _) ?_
      rintro _ _ ⟨rfl, rfl⟩
      cases hr : rightN o.n
      · have e : nextF F d o g = (42, F) := by rw [nextF, if_neg (by simpa using c1), if_neg c2, if_pos hr]
        rw [e]
        simp (dsimp := false) (implicitDefEqProofs := false) (maxSteps := 1000000) (disch := first | omega | assumption | (simp only [rL, Nat.reduceAdd]; done) | (simp only [rL, Nat.reduceAdd]; omega)) only [↓rD, rU, ev, ofConst, ofCell, ↓reduceIte, Nat.reduceEqDiff, Nat.reduceAdd, Nat.reduceSub, Nat.reduceMul, Nat.reduceLeDiff, Nat.reduceLT, Int.reduceNeg, Int.reduceToNat, Int.reduceAdd, Int.reduceSub, Int.reduceMul, Int.reduceLT, Int.reduceLE, Int.reduceEq, rX, dg_cells, dg_fold, List.drop_succ_cons, Bool.not_false, Bool.not_true, Bool.false_xor, Bool.true_xor, Bool.true_and, Bool.false_and, decide_true, decide_false]
        exact ⟨_, Hp.sub_refl, h.mono hsub⟩
      · simp (dsimp := false) (implicitDefEqProofs := false) (maxSteps := 1000000) (disch := first | omega | assumption | (simp only [rL, Nat.reduceAdd]; done) | (simp only [rL, Nat.reduceAdd]; omega)) only [↓rD, rU, ev, ofConst, ofCell, ↓reduceIte, Nat.reduceEqDiff, Nat.reduceAdd, Nat.reduceSub, Nat.reduceMul, Nat.reduceLeDiff, Nat.reduceLT, Int.reduceNeg, Int.reduceToNat, Int.reduceAdd, Int.reduceSub, Int.reduceMul, Int.reduceLT, Int.reduceLE, Int.reduceEq, rX, dg_cells, dg_fold, List.drop_succ_cons, Bool.not_false, Bool.not_true, Bool.false_xor, Bool.true_xor, Bool.true_and, Bool.false_and, decide_true, decide_false, hc, hl, hf, Hp.read_of hs, d6, d5, Opn.m0, fwC_m0]
        by_cases c4 : o.n ≤ F.o.n
        · have e : nextF F d o g = (42, keepF F o) := by rw [nextF, if_neg (by simpa using c1), if_neg c2, if_neg (by simp [hr]), if_pos c4]
          rw [e]
          simp (dsimp := false) (implicitDefEqProofs := false) (maxSteps := 1000000) (disch := first | omega | assumption | (simp only [rL, Nat.reduceAdd]; done) | (simp only [rL, Nat.reduceAdd]; omega)) only [↓rD, rU, ev, ofConst, ofCell, ↓reduceIte, Nat.reduceEqDiff, Nat.reduceAdd, Nat.reduceSub, Nat.reduceMul, Nat.reduceLeDiff, Nat.reduceLT, Int.reduceNeg, Int.reduceToNat, Int.reduceAdd, Int.reduceSub, Int.reduceMul, Int.reduceLT, Int.reduceLE, Int.reduceEq, rX, dg_cells, dg_fold, List.drop_succ_cons, Bool.not_false, Bool.not_true, Bool.false_xor, Bool.true_xor, Bool.true_and, Bool.false_and, decide_true, decide_false, c4, hc, hl, hf]
          refine call_intro (keep_spec s0 _ l F o hF ho h0 (h.mono hsub)) ?_
          intro r s1 h1
          simp (dsimp := false) (implicitDefEqProofs := false) (maxSteps := 1000000) (disch := first | omega | assumption | (simp only [rL, Nat.reduceAdd]; done) | (simp only [rL, Nat.reduceAdd]; omega)) only [↓rD, rU, ev, ofConst, ofCell, ↓reduceIte, Nat.reduceEqDiff, Nat.reduceAdd, Nat.reduceSub, Nat.reduceMul, Nat.reduceLeDiff, Nat.reduceLT, Int.reduceNeg, Int.reduceToNat, Int.reduceAdd, Int.reduceSub, Int.reduceMul, Int.reduceLT, Int.reduceLE, Int.reduceEq, rX, dg_cells, dg_fold, List.drop_succ_cons, Bool.not_false, Bool.not_true, Bool.false_xor, Bool.true_xor, Bool.true_and, Bool.false_and, decide_true, decide_false]
          exact ⟨_, Hp.sub_refl, h1⟩
        · simp (dsimp := false) (implicitDefEqProofs := false) (maxSteps := 1000000) (disch := first | omega | assumption | (simp only [rL, Nat.reduceAdd]; done) | (simp only [rL, Nat.reduceAdd]; omega)) only [↓rD, rU, ev, ofConst, ofCell, ↓reduceIte, Nat.reduceEqDiff, Nat.reduceAdd, Nat.reduceSub, Nat.reduceMul, Nat.reduceLeDiff, Nat.reduceLT, Int.reduceNeg, Int.reduceToNat, Int.reduceAdd, Int.reduceSub, Int.reduceMul, Int.reduceLT, Int.reduceLE, Int.reduceEq, rX, dg_cells, dg_fold, List.drop_succ_cons, Bool.not_false, Bool.not_true, Bool.false_xor, Bool.true_xor, Bool.true_and, Bool.false_and, decide_true, decide_false, c4, hc, hl, hf, Hp.read_of hs, d6, d5, Opn.h32 ho, fwC_h32 hF, dg_fold', Opn.m0, fwC_m0, Nat.add_zero]
          refine call_intro (Grows_spec F.o.h F.o.n o.h o.n g ow _ hF.1 ho.1 hg hgl) ?_
          rintro _ _ ⟨rfl, rfl⟩
          cases hG : growsF F.o.h F.o.n o.h o.n g
          · have e : nextF F d o g = (42, F) := by rw [nextF, if_neg (by simpa using c1), if_neg c2, if_neg (by simp [hr]), if_neg c4, if_pos hG]
            rw [e]
            simp (dsimp := false) (implicitDefEqProofs := false) (maxSteps := 1000000) (disch := first | omega | assumption | (simp only [rL, Nat.reduceAdd]; done) | (simp only [rL, Nat.reduceAdd]; omega)) only [↓rD, rU, ev, ofConst, ofCell, ↓reduceIte, Nat.reduceEqDiff, Nat.reduceAdd, Nat.reduceSub, Nat.reduceMul, Nat.reduceLeDiff, Nat.reduceLT, Int.reduceNeg, Int.reduceToNat, Int.reduceAdd, Int.reduceSub, Int.reduceMul, Int.reduceLT, Int.reduceLE, Int.reduceEq, rX, dg_cells, dg_fold, List.drop_succ_cons, Bool.not_false, Bool.not_true, Bool.false_xor, Bool.true_xor, Bool.true_and, Bool.false_and, decide_true, decide_false]
            exact ⟨_, Hp.sub_refl, h.mono hsub⟩
          · have e : nextF F d o g = (0, { F with o := o, st := F.st + 1 }) := by rw [nextF, if_neg (by simpa using c1), if_neg c2, if_neg (by simp [hr]), if_neg c4, if_neg (by simp [hG])]
            rw [e]
            have hw2 := fwC_length (st := F.st) (p := p) ho
            have hset : ((s.set l5 (.cells (d.map byteAV))).set l6 (.cells o.C)).set l (.cells (fwC o (F.st + 1) p)) = ((s.set l (.cells (fwC o (F.st + 1) p))).set l5 (.cells (d.map byteAV))).set l6 (.cells o.C) := by
              rw [Hp.set_set_comm _ (Ne.symm d6), Hp.set_set_comm _ (Ne.symm d5)]
            simp (dsimp := false) (implicitDefEqProofs := false) (maxSteps := 1000000) (disch := first | omega | assumption | (simp only [rL, Nat.reduceAdd]; done) | (simp only [rL, Nat.reduceAdd]; omega)) only [↓rD, rU, ev, ofConst, ofCell, ↓reduceIte, Nat.reduceEqDiff, Nat.reduceAdd, Nat.reduceSub, Nat.reduceMul, Nat.reduceLeDiff, Nat.reduceLT, Int.reduceNeg, Int.reduceToNat, Int.reduceAdd, Int.reduceSub, Int.reduceMul, Int.reduceLT, Int.reduceLE, Int.reduceEq, rX, dg_cells, dg_fold, List.drop_succ_cons, Bool.not_false, Bool.not_true, Bool.false_xor, Bool.true_xor, Bool.true_and, Bool.false_and, decide_true, decide_false, hc, hl, hf, Hp.read_of hs, Hp.stA_of hs, d6, d5, hw, hw2, fwC_put0 hF ho, fwC_65 ho, fwC_put65 ho]
            refine ⟨_, Hp.sub_refl, ?_⟩
            rw [hset]
            exact (h.setl o (F.st + 1) hF hs).mono (Hp.sub_new (Hp.sub_new Hp.sub_refl (by rw [Hp.set_ne _ _ (Ne.symm d5)]; exact n5)) (by rw [Hp.set_ne _ _ (Ne.symm d6)]; exact n6))
  · have e : nextF F d o g = (41, F) := by rw [nextF, if_pos c1]
    rw [e]
    simp (dsimp := false) (implicitDefEqProofs := false) (maxSteps := 1000000) (disch := first | omega | assumption | (simp only [rL, Nat.reduceAdd]; done) | (simp only [rL, Nat.reduceAdd]; omega)) only [↓rD, rU, ev, ofConst, ofCell, ↓reduceIte, Nat.reduceEqDiff, Nat.reduceAdd, Nat.reduceSub, Nat.reduceMul, Nat.reduceLeDiff, Nat.reduceLT, Int.reduceNeg, Int.reduceToNat, Int.reduceAdd, Int.reduceSub, Int.reduceMul, Int.reduceLT, Int.reduceLE, Int.reduceEq, rX, dg_cells, dg_fold, List.drop_succ_cons, Bool.not_false, Bool.not_true, Bool.false_xor, Bool.true_xor, Bool.true_and, Bool.false_and, decide_true, decide_false, c1]
    exact ⟨_, Hp.sub_refl, h.mono hsub⟩
end Go.Proofs.Ytapjikladjoicaa
set_option maxRecDepth 100000
namespace Go.Proofs.Ytapjikladjoicaa
open Go Go.Av

def zo : Opn := ⟨0, zd, zd⟩
theorem zo_ok : zo.ok := ⟨rfl, rfl⟩
theorem zo_C : ([AV.v (.int .i64 0)] ++ List.replicate 64 (.v (.int .u8 0)) : List AV) = zo.C := rfl
def toldF (F : Fw) : Opn := match F.fk with | some (a, _) => a | none => zo
def thenF (F : Fw) : Opn := match F.fk with | some (_, b) => b | none => zo
theorem fk_at0 {a b : Opn} (ha : a.ok) : (a.C ++ b.C).take 65 = a.C := by rw [← Opn.lenC ha, List.take_left]
theorem fk_at1 {a b : Opn} (ha : a.ok) : (a.C ++ b.C).drop 65 = b.C := by rw [← Opn.lenC ha, List.drop_left]

theorem Fork_spec (s0 s : Hp) (l : Nat) (F : Fw) (hF : F.ok) (h : FS s0 l F s) :
    AC Try.prog 24 [.ptr l 0] s fun r s' => s' = s ∧ r = .tup [(toldF F).V, (thenF F).V, .v (.bool F.fk.isSome)] := by
  obtain ⟨p, hs, hp⟩ := h.get
  obtain ⟨hFo, hFk⟩ := hF
  refine AC_run hm prep24 (by simp) ?_
  have hw := fwC_length (st := F.st) (p := p) hFo
  have z0 : zo.C.length = 65 := rfl
  have z1 : (.agg (zo.C.take 65) : AV) = zo.V := Opn.fold zo_ok
  rw [zo_C]
  simp (dsimp := false) (implicitDefEqProofs := false) (maxSteps := 1000000) (disch := first | omega | assumption | (simp only [rL, Nat.reduceAdd]; done) | (simp only [rL, Nat.reduceAdd]; omega)) only [↓rD, rU, ev, ofConst, ofCell, ↓reduceIte, Nat.reduceEqDiff, Nat.reduceAdd, Nat.reduceSub, Nat.reduceMul, Nat.reduceLeDiff, Nat.reduceLT, Int.reduceNeg, Int.reduceToNat, Int.reduceAdd, Int.reduceSub, Int.reduceMul, Int.reduceLT, Int.reduceLE, Int.reduceEq, rX, dg_cells, dg_fold, List.drop_succ_cons, Bool.not_false, Bool.not_true, Bool.false_xor, Bool.true_xor, Bool.true_and, Bool.false_and, decide_true, decide_false, z0]
  refine newK_intro fun l2 n2 => ?_
  have d2 : l ≠ l2 := by rintro rfl; rw [n2] at hs; cases hs
  simp (dsimp := false) (implicitDefEqProofs := false) (maxSteps := 1000000) (disch := first | omega | assumption | (simp only [rL, Nat.reduceAdd]; done) | (simp only [rL, Nat.reduceAdd]; omega)) only [↓rD, rU, ev, ofConst, ofCell, ↓reduceIte, Nat.reduceEqDiff, Nat.reduceAdd, Nat.reduceSub, Nat.reduceMul, Nat.reduceLeDiff, Nat.reduceLT, Int.reduceNeg, Int.reduceToNat, Int.reduceAdd, Int.reduceSub, Int.reduceMul, Int.reduceLT, Int.reduceLE, Int.reduceEq, rX, dg_cells, dg_fold, List.drop_succ_cons, Bool.not_false, Bool.not_true, Bool.false_xor, Bool.true_xor, Bool.true_and, Bool.false_and, decide_true, decide_false, z0]
  refine newK_intro fun l3 n3 => ?_
  obtain ⟨d32, n3⟩ := Hp.set_none n3
  have d3 : l ≠ l3 := by rintro rfl; rw [n3] at hs; cases hs
  have hsub (x y : Ob) : s.sub ((s.set l2 x).set l3 y) := Hp.sub_new (Hp.sub_new (Hp.sub_refl (s := s)) n2) n3
  rcases hp with ⟨hk, rfl⟩ | ⟨lf, a, b, hk, rfl, hlf⟩
  · simp (dsimp := false) (implicitDefEqProofs := false) (maxSteps := 1000000) (disch := first | omega | assumption | (simp only [rL, Nat.reduceAdd]; done) | (simp only [rL, Nat.reduceAdd]; omega)) only [↓rD, rU, ev, ofConst, ofCell, ↓reduceIte, Nat.reduceEqDiff, Nat.reduceAdd, Nat.reduceSub, Nat.reduceMul, Nat.reduceLeDiff, Nat.reduceLT, Int.reduceNeg, Int.reduceToNat, Int.reduceAdd, Int.reduceSub, Int.reduceMul, Int.reduceLT, Int.reduceLE, Int.reduceEq, rX, dg_cells, dg_fold, List.drop_succ_cons, Bool.not_false, Bool.not_true, Bool.false_xor, Bool.true_xor, Bool.true_and, Bool.false_and, decide_true, decide_false, Hp.read_of hs, hw, d2, d3, d32, Ne.symm d32, fwC_66 hFo, z0]
    refine ⟨s, hsub _ _, rfl, ?_⟩
    rw [z1, toldF, thenF, hk]; rfl
  · obtain ⟨ha, hb⟩ := hFk a b hk
    have hla := Opn.lenC ha
    have hlb := Opn.lenC hb
    have hab : (a.C ++ b.C).length = 130 := by simp [hla, hlb]
    have hfb := Opn.fold hb
    have dl2 : lf ≠ l2 := by rintro rfl; rw [n2] at hlf; cases hlf
    have dl3 : lf ≠ l3 := by rintro rfl; rw [n3] at hlf; cases hlf
    have hca := Opn.cells (o := a)
    have hcb := Opn.cells (o := b)
    simp (dsimp := false) (implicitDefEqProofs := false) (maxSteps := 1000000) (disch := first | omega | assumption | (simp only [rL, Nat.reduceAdd]; done) | (simp only [rL, Nat.reduceAdd]; omega)) only [↓rD, rU, ev, ofConst, ofCell, ↓reduceIte, Nat.reduceEqDiff, Nat.reduceAdd, Nat.reduceSub, Nat.reduceMul, Nat.reduceLeDiff, Nat.reduceLT, Int.reduceNeg, Int.reduceToNat, Int.reduceAdd, Int.reduceSub, Int.reduceMul, Int.reduceLT, Int.reduceLE, Int.reduceEq, rX, dg_cells, dg_fold, List.drop_succ_cons, Bool.not_false, Bool.not_true, Bool.false_xor, Bool.true_xor, Bool.true_and, Bool.false_and, decide_true, decide_false, Hp.read_of hs, hw, d2, d3, d32, Ne.symm d32, fwC_66 hFo, z0, Hp.read_of hlf, dl2, dl3, hab, fk_at0 ha, fk_at1 ha, Opn.fold', hla, hlb, hca, hcb, hfb]
    refine ⟨s, hsub _ _, rfl, ?_⟩
    rw [Opn.fold ha, toldF, thenF, hk]; rfl
end Go.Proofs.Ytapjikladjoicaa
/-
  Running abstract code, continued: strings as lists of bytes, min and max, copies.
-/
namespace Go.Av
open Go

/-- a string -/
def strV (bs : List UInt8) : AV := .v (.string ⟨bs.toArray⟩)
theorem toList_loop (b : ByteArray) : ∀ (n i : Nat) (r : List UInt8), b.size - i = n → ByteArray.toList.loop b i r = r.reverse ++ b.data.toList.drop i
  | 0, i, r, h => by
    rw [ByteArray.toList.loop, if_neg (by omega), List.drop_of_length_le (by simp; exact Nat.le_of_sub_eq_zero h)]; simp
  | n + 1, i, r, h => by
    have hi : i < b.size := by omega
    have hi' : i < b.data.toList.length := by simpa using hi
    rw [ByteArray.toList.loop, if_pos hi, toList_loop b n (i + 1) _ (by omega), List.drop_eq_getElem_cons hi']
    have : b.get! i = b.data.toList[i] := by
      rw [ByteArray.get!]
      simp [hi]
    rw [this]; simp
theorem toList_data (b : ByteArray) : b.toList = b.data.toList := by
  rw [ByteArray.toList, toList_loop b _ 0 [] rfl]; simp
theorem toList_mk (bs : List UInt8) : (⟨bs.toArray⟩ : ByteArray).toList = bs := by rw [toList_data]
theorem eql_str (a b : List UInt8) : binV .eql (.string ⟨a.toArray⟩) (.string ⟨b.toArray⟩) = some (.bool (decide (a = b))) := by
  simp only [binV, binStr, toList_mk]; congr 2
  by_cases h : a = b <;> simp [h]
theorem neq_str (a b : List UInt8) : binV .neq (.string ⟨a.toArray⟩) (.string ⟨b.toArray⟩) = some (.bool (decide (a ≠ b))) := by
  simp only [binV, binStr, toList_mk]; congr 2
  by_cases h : a = b <;> simp [h]
theorem size_str (a : List UInt8) : (⟨a.toArray⟩ : ByteArray).size = a.length := by simp [ByteArray.size]
theorem append_str (a b : List UInt8) : ((⟨a.toArray⟩ : ByteArray) ++ ⟨b.toArray⟩) = ⟨(a ++ b).toArray⟩ := by
  apply ByteArray.ext; simp
theorem add_str (a b : List UInt8) (h : a.length + b.length ≤ 9223372036854775807) : binV .add (.string ⟨a.toArray⟩) (.string ⟨b.toArray⟩) = some (.string ⟨(a ++ b).toArray⟩) := by
  simp only [binV, binStr, size_str, if_pos h, append_str]

section
variable {P : Program} {f : Fr} {s : Hp} {Kv : AV → Hp → Prop}
theorem chkT_guard {d : Nat} {op : AOp} {g : Nat} {w : Bool} : chkT P ⟨some d, op, some (g, w)⟩ f s = guardK (f g) w (hidP (G P op f s (fun r _ => r = f d)) ()) (hidP ((.tup [] : AV) = f d) ()) := rfl
theorem Def_guard {d : Option Nat} {op : AOp} {g : Nat} {w : Bool} : Def P ⟨d, op, some (g, w)⟩ f = guardK (f g) w (hidP (G P op f Hp.emp (fun _ _ => True)) ()) (hidP True ()) := rfl
def b2sA (a : AV) : Option AV :=
  match a with
  | .sl xs _ => match bytesOf xs with
    | some l => some (.v (.string ⟨l.toArray⟩))
    | none => none
  | _ => none
theorem b2sA_map {bs : List UInt8} {o : Own} : b2sA (.sl (bs.map byteAV) o) = some (.v (.string ⟨bs.toArray⟩)) := by simp [b2sA, bytesOf_map]
theorem G_b2s {x : Operand} : G P (.b2s x) f s Kv = valK (b2sA (ev f x)) (hid1 (fun r => Kv r s) ()) := by
  simp only [G, b2sA]; generalize ev f x = a
  cases a <;> first | rfl | (rename_i xs o; simp only []; generalize bytesOf xs = c; cases c <;> rfl)
def mmA (mx : Bool) (a b : AV) : Option AV :=
  match a, b with
  | .v (.int k a), .v (.int k' b) => if k = k' then some (.v (.int k (if mx then max a b else min a b))) else none
  | _, _ => none
theorem mmA_max {k : IntKind} {a b : Int} : mmA true (.v (.int k a)) (.v (.int k b)) = some (.v (.int k (max a b))) := by simp [mmA]
theorem mmA_min {k : IntKind} {a b : Int} : mmA false (.v (.int k a)) (.v (.int k b)) = some (.v (.int k (min a b))) := by simp [mmA]
theorem G_mm {mx : Bool} {k : IntKind} {x y : Operand} : G P (.mm mx k x y) f s Kv = valK (mmA mx (ev f x) (ev f y)) (hid1 (fun r => Kv r s) ()) := by
  simp only [G, mmA]; generalize ev f x = a; generalize ev f y = b
  cases a <;> first
    | rfl
    | (rename_i v; cases v <;> first
        | rfl
        | (cases b <;> first
            | rfl
            | (rename_i w; cases w <;> first | rfl | (simp only [valK_ite, hid1_eq]))))
def lenTA (a : AV) : Option AV :=
  match a with
  | .v (.string t) => some (.v (.int .i64 t.size))
  | _ => none
theorem lenTA_str {bs : List UInt8} : lenTA (.v (.string ⟨bs.toArray⟩)) = some (.v (.int .i64 bs.length)) := by simp [lenTA, size_str]
theorem G_lenT {x : Operand} : G P (.lenT x) f s Kv = valK (lenTA (ev f x)) (hid1 (fun r => Kv r s) ()) := by
  simp only [G, lenTA]; generalize ev f x = a
  cases a <;> first | rfl | (rename_i v; cases v <;> rfl)
def slcSA (a : AV) (lo hi : Option AV) : Option AV :=
  match a with
  | .v (.string t) => match bO lo 0, bO hi t.size with
    | some a, some b => if 0 ≤ a ∧ a ≤ b ∧ b ≤ t.size then some (.v (.string (t.extract a.toNat b.toNat))) else none
    | _, _ => none
  | _ => none
theorem extract_str (bs : List UInt8) (i j : Nat) : (⟨bs.toArray⟩ : ByteArray).extract i j = ⟨((bs.take j).drop i).toArray⟩ := by
  apply ByteArray.ext
  simp only [ByteArray.data_extract]
  simp [List.drop_take]
theorem slcSA_lo {bs : List UInt8} {k : IntKind} {a : Int} (h : 0 ≤ a) (h2 : a ≤ bs.length) : slcSA (.v (.string ⟨bs.toArray⟩)) (some (.v (.int k a))) none = some (.v (.string ⟨(bs.drop a.toNat).toArray⟩)) := by
  simp [slcSA, bO, intOf, size_str, h, h2, extract_str]
theorem slcSA_hi {bs : List UInt8} {k : IntKind} {b : Int} (h : 0 ≤ b) (h2 : b ≤ bs.length) : slcSA (.v (.string ⟨bs.toArray⟩)) none (some (.v (.int k b))) = some (.v (.string ⟨(bs.take b.toNat).toArray⟩)) := by
  simp [slcSA, bO, intOf, size_str, h, h2, extract_str]
theorem slcSA_both {bs : List UInt8} {k k' : IntKind} {a b : Int} (h : 0 ≤ a) (h1 : a ≤ b) (h2 : b ≤ bs.length) : slcSA (.v (.string ⟨bs.toArray⟩)) (some (.v (.int k a))) (some (.v (.int k' b))) = some (.v (.string ⟨((bs.take b.toNat).drop a.toNat).toArray⟩)) := by
  simp [slcSA, bO, intOf, size_str, h, h1, h2, extract_str]
theorem G_slcS {x : Operand} {lo hi : Option Operand} : G P (.slcS x lo hi) f s Kv = valK (slcSA (ev f x) (lo.map (ev f)) (hi.map (ev f))) (hid1 (fun r => Kv r s) ()) := by
  simp only [G, slcSA, bnd_bO]
  generalize ev f x = a; generalize lo.map (ev f) = p; generalize hi.map (ev f) = q
  cases a <;> try rfl
  rename_i v
  cases v <;> try rfl
  rename_i t
  simp only []
  generalize bO p 0 = u; generalize bO q t.size = w
  cases u <;> cases w <;> try rfl
  simp only [valK_ite, hid1_eq]
  apply propext; constructor
  · rintro ⟨h1, h2, h3, h5⟩; exact ⟨⟨h1, h2, h3⟩, h5⟩
  · rintro ⟨⟨h1, h2, h3⟩, h5⟩; exact ⟨h1, h2, h3, h5⟩
theorem idxSA_str {bs : List UInt8} {k : IntKind} {n : Int} (h : 0 ≤ n) (h2 : n < bs.length) : idxSA (.v (.string ⟨bs.toArray⟩)) (.v (.int k n)) = some (.v (.int .u8 (bs.getD n.toNat 0).toNat)) := by
  have h3 : n.toNat < bs.length := by omega
  have e : bs.getD n.toNat 0 = bs[n.toNat] := by simp [List.getD, h3]
  simp [idxSA, h, h3, e]
def cpyK (k : Nat) (s : Hp) (x y : AV) (C : AV → Hp → Prop) : Prop :=
  match x, y with
  | .msl l off n k', .sl ys _ => k' = k ∧ (∀ e ∈ ys, e.cells.length = k) ∧ match s l with
    | some (.cells cs) => off + n * k ≤ cs.length ∧ C (.v (.int .i64 (min ys.length n))) (s.set l (.cells (putAt cs off (flat (ys.take n)))))
    | _ => False
  | .mb l n _ k', .sl ys _ => k' = k ∧ (∀ e ∈ ys, e.cells.length = k) ∧ match s l with
    | some (.cells cs) => n * k ≤ cs.length ∧ C (.v (.int .i64 (min ys.length n))) (s.set l (.cells (putAt cs 0 (flat (ys.take n)))))
    | _ => False
  | _, _ => False
theorem G_cpy {k : Nat} {x y : Operand} : G P (.cpy k x y) f s Kv = cpyK k s (ev f x) (ev f y) (hid2 Kv ()) := rfl
theorem cpy_intro {k l off n : Nat} {ys cs : List AV} {o : Own} {C : AV → Hp → Prop} {d : Dep C} (h1 : allLen k ys) (h2 : s l = some (.cells cs)) (h3 : off + n * k ≤ cs.length)
    (hC : C (.v (.int .i64 (min ys.length n))) (s.set l (.cells (putAt cs off (flat (ys.take n)))))) : cpyK k s (.msl l off n k) (.sl ys o) (hid2 C d) := by
  refine ⟨rfl, h1, ?_⟩; rw [h2]; exact ⟨h3, hC⟩
/-- the mutable view of a whole array -/
def slcMA (k n : Nat) (s : Hp) (a : AV) (lo hi : Option AV) : Option AV :=
  match a with
  | .ptr l off => match bO lo 0, bO hi n with
    | some a, some b => match s.read l with
      | some cs => if 0 ≤ a ∧ a ≤ b ∧ b ≤ n ∧ off + n * k ≤ cs.length ∧ a < n then some (.msl l (off + a.toNat * k) (b.toNat - a.toNat) k) else none
      | none => none
    | _, _ => none
  | _ => none
theorem slcMA_all {k n l off : Nat} {cs : List AV} (h : s.read l = some cs) (h2 : off + n * k ≤ cs.length) (h3 : 0 < n) : slcMA k n s (.ptr l off) none none = some (.msl l off n k) := by
  simp [slcMA, bO, h, h2, h3]
theorem G_slcAm {k n : Nat} {x : Operand} {lo hi : Option Operand} : G P (.slcA k n x lo hi false) f s Kv = valK (slcMA k n s (ev f x) (lo.map (ev f)) (hi.map (ev f))) (hid1 (fun r => Kv r s) ()) := by
  simp only [G, slcMA, bnd_bO]; generalize ev f x = a
  generalize lo.map (ev f) = p; generalize hi.map (ev f) = q
  cases a <;> try rfl
  rename_i l off
  simp only []
  generalize bO p 0 = u; generalize bO q n = w; generalize s.read l = c
  cases u <;> cases w <;> cases c <;> first
    | rfl
    | (simp [valK]; done)
    | (simp only [valK_ite, hid1_eq, Bool.false_eq_true, if_false]
       apply propext; constructor
       · rintro ⟨h1, h2, h3, h4, h5, h6⟩; exact ⟨⟨h1, h2, h3, h4, h5⟩, h6⟩
       · rintro ⟨⟨h1, h2, h3, h4, h5⟩, h6⟩; exact ⟨h1, h2, h3, h4, h5, h6⟩)
def bslMK (k : Nat) (s : Hp) (vs0 : List AV) (C : AV → Hp → Prop) : Prop :=
  (∀ e ∈ vs0, e.cells.length = k) ∧ (if vs0.length = 0 then C (.sl [] .zero) s else ∀ g, s g = none → C (.mb g vs0.length vs0.length k) (s.set g (.cells (flat vs0))))
theorem G_bslM {k : Nat} {xs : List Operand} : G P (.bslM k xs) f s Kv = bslMK k s (xs.map (ev f)) (hid2 Kv ()) := by
  simp only [G, bslMK, hid2, List.length_map]
theorem bslM_nil {k : Nat} {C : AV → Hp → Prop} {d : Dep C} : bslMK k s [] (hid2 C d) = C (.sl [] .zero) s := by simp [bslMK, hid2]
theorem bslM_intro {k : Nat} {vs0 : List AV} {C : AV → Hp → Prop} {d : Dep C} (h1 : allLen k vs0) (h0 : vs0 ≠ []) (hk : ∀ g, s g = none → C (.mb g vs0.length vs0.length k) (s.set g (.cells (flat vs0)))) : bslMK k s vs0 (hid2 C d) := by
  refine ⟨h1, ?_⟩
  rw [if_neg (fun h => h0 (List.eq_nil_of_length_eq_zero h))]
  exact hk
def mksK (k bytes : Nat) (z : List AV) (s : Hp) (x y : AV) (C : AV → Hp → Prop) : Prop :=
  match x, y with
  | .v (.int _ n), .v (.int _ m) => n = m ∧ 0 ≤ n ∧ n ≤ 9223372036854775807 ∧ n * bytes ≤ 281474976710656 ∧ ∀ g, s g = none → C (.mb g n.toNat n.toNat k) (s.set g (.cells (List.replicate n.toNat z).flatten))
  | _, _ => False
theorem G_mks {k bytes : Nat} {z : List AV} {x y : Operand} : G P (.mks k bytes z x y) f s Kv = mksK k bytes z s (ev f x) (ev f y) (hid2 Kv ()) := rfl
theorem mks_intro {k bytes n : Nat} {z : List AV} {kd kd' : IntKind} {C : AV → Hp → Prop} {d : Dep C} (h1 : n * bytes ≤ 281474976710656) (h2 : n ≤ 9223372036854775807) (hk : ∀ g, s g = none → C (.mb g n n k) (s.set g (.cells (List.replicate n z).flatten))) :
    mksK k bytes z s (.v (.int kd (n : Int))) (.v (.int kd' (n : Int))) (hid2 C d) := ⟨rfl, by omega, by omega, by omega, fun g hg => by
  have := hk g hg
  simp only [hid2, Int.toNat_natCast]; exact this⟩
def appMK (k bytes : Nat) (s : Hp) (x y : AV) (C : AV → Hp → Prop) : Prop :=
  match srcF s k y with
  | some (m, ys) => match x with
    | .sl xs o => xs = [] ∧ (o = .nil ∨ o = .zero) ∧ m * bytes ≤ 140737488355328 ∧ m ≤ 9223372036854775807 ∧
      (if m = 0 then C (.sl [] o) s else ∀ g cap sp, s g = none → m ≤ cap → cap ≤ maxLen → sp.length = (cap - m) * k → C (.mb g m cap k) (s.set g (.cells (ys ++ sp))))
    | .mb l n cap k' => match s l with
      | some (.cells cs) => k' = k ∧ cs.length = cap * k ∧ (n + m) * bytes ≤ 140737488355328 ∧ n + m ≤ 9223372036854775807 ∧
        (if n + m ≤ cap then C (.mb l (n + m) cap k) (s.set l (.cells (putAt cs (n * k) ys)))
         else ∀ g cap' sp, s g = none → n + m ≤ cap' → cap' ≤ maxLen → sp.length = (cap' - (n + m)) * k → C (.mb g (n + m) cap' k) (s.set g (.cells (cs.take (n * k) ++ ys ++ sp))))
      | _ => False
    | _ => False
  | none => False
theorem G_appM {k bytes : Nat} {x y : Operand} : G P (.appM k bytes x y) f s Kv = appMK k bytes s (ev f x) (ev f y) (hid2 Kv ()) := rfl
/-- a slice that is being built, and may be written: its cells -/
def MO (s0 s : Hp) (k : Nat) (us : List AV) (a : AV) : Prop :=
  s0.sub s ∧ ((us = [] ∧ (a = .sl [] .nil ∨ a = .sl [] .zero)) ∨ ∃ l n cap cs, a = .mb l n cap k ∧ s0 l = none ∧ s l = some (.cells cs) ∧ cs.length = cap * k ∧ cs.take (n * k) = us ∧ us.length = n * k ∧ n ≤ cap ∧ cap ≤ maxLen)
theorem MO.nil {s0 s : Hp} {k : Nat} (h : s0.sub s) : MO s0 s k [] (.sl [] .nil) := ⟨h, .inl ⟨rfl, .inl rfl⟩⟩
theorem MO.zero {s0 s : Hp} {k : Nat} (h : s0.sub s) : MO s0 s k [] (.sl [] .zero) := ⟨h, .inl ⟨rfl, .inr rfl⟩⟩
theorem MO.mono {s0 s s' : Hp} {k : Nat} {us : List AV} {a : AV} (h : MO s0 s k us a) (hs : s.sub s') : MO s0 s' k us a := by
  obtain ⟨h1, h2⟩ := h
  refine ⟨Hp.sub_trans h1 hs, ?_⟩
  rcases h2 with h2 | ⟨l, n, cap, cs, q1, q2, q3, q4⟩
  · exact .inl h2
  · exact .inr ⟨l, n, cap, cs, q1, q2, hs _ _ q3, q4⟩
theorem MO.base {s0 s1 s : Hp} {k : Nat} {us : List AV} {a : AV} (h : MO s0 s k us a) (hs : s1.sub s0) : MO s1 s k us a := by
  obtain ⟨h1, h2⟩ := h
  refine ⟨Hp.sub_trans hs h1, ?_⟩
  rcases h2 with h2 | ⟨l, n, cap, cs, q1, q2, q3⟩
  · exact .inl h2
  · exact .inr ⟨l, n, cap, cs, q1, Hp.sub_none hs q2, q3⟩
/-- a new object -/
theorem MO.new {s0 s : Hp} {k l2 : Nat} {us : List AV} {a : AV} {ob : Ob} (h : MO s0 s k us a) (hl : s l2 = none) : MO (s0.set l2 ob) (s.set l2 ob) k us a := by
  obtain ⟨h1, h2⟩ := h
  refine ⟨Hp.sub_set h1, ?_⟩
  rcases h2 with h2 | ⟨l, n, cap, cs, q1, q2, q3, q4⟩
  · exact .inl h2
  · have hne : l ≠ l2 := by rintro rfl; rw [hl] at q3; cases q3
    exact .inr ⟨l, n, cap, cs, q1, by rw [Hp.set_ne _ _ hne]; exact q2, by rw [Hp.set_ne _ _ hne]; exact q3, q4⟩
theorem MO.src {s0 s : Hp} {k : Nat} {us : List AV} {a : AV} (h : MO s0 s k us a) : ∃ n, us.length = n * k ∧ srcF s k a = some (n, us) ∧ lenAA a = some (.v (.int .i64 n)) := by
  obtain ⟨h1, h2⟩ := h
  rcases h2 with ⟨rfl, rfl | rfl⟩ | ⟨l, n, cap, cs, rfl, q2, q3, q4, q5, q6, q7, q8⟩
  · exact ⟨0, by simp, rfl, rfl⟩
  · exact ⟨0, by simp, rfl, rfl⟩
  · refine ⟨n, q6, ?_, rfl⟩
    have : n * k ≤ cs.length := by rw [q4]; exact Nat.mul_le_mul_right _ q7
    simp [srcF, Hp.read_of q3, this, q5]
/-- APPEND, written through -/
theorem appM_own {s0 : Hp} {k bytes m : Nat} {us ys : List AV} {x y : AV} {C : AV → Hp → Prop} {d : Dep C} (h : MO s0 s k us x) (hk : 0 < k) (hs : srcF s k y = some (m, ys)) (hy : ys.length = m * k) (h3 : (us.length + ys.length) * bytes ≤ 140737488355328 * k) (h4 : us.length + ys.length ≤ 9223372036854775807)
    (hC : ∀ a' s', MO s0 s' k (us ++ ys) a' → C a' s') : appMK k bytes s x y (hid2 C d) := by
  obtain ⟨h1, h2⟩ := h
  unfold appMK
  rw [hs]
  simp only [hid2]
  have bnd : ∀ n, us.length = n * k → (n + m) * bytes ≤ 140737488355328 ∧ n + m ≤ 9223372036854775807 := by
    intro n hn
    have e : us.length + ys.length = (n + m) * k := by rw [hn, hy, Nat.add_mul]
    rw [e] at h3 h4
    constructor
    · have : (n + m) * bytes * k ≤ 140737488355328 * k := by rw [Nat.mul_assoc, Nat.mul_comm bytes k, ← Nat.mul_assoc]; exact h3
      exact Nat.le_of_mul_le_mul_right this hk
    · have : (n + m) * 1 ≤ (n + m) * k := Nat.mul_le_mul_left _ hk
      omega
  rcases h2 with ⟨rfl, ho⟩ | ⟨l, n, cap, cs, rfl, q2, q3, q4, q5, q6, q7, q8⟩
  · obtain ⟨b1, b2⟩ := bnd 0 (by simp)
    have main : ∀ o, (o = .nil ∨ o = .zero) → (([] : List AV) = [] ∧ (o = .nil ∨ o = .zero) ∧ m * bytes ≤ 140737488355328 ∧ m ≤ 9223372036854775807 ∧
      (if m = 0 then C (.sl [] o) s else ∀ g cap sp, s g = none → m ≤ cap → cap ≤ maxLen → sp.length = (cap - m) * k → C (.mb g m cap k) (s.set g (.cells (ys ++ sp))))) := by
      intro o hoo
      refine ⟨rfl, hoo, by simpa using b1, by omega, ?_⟩
      split
      · rename_i hm
        subst hm
        have : ys = [] := List.eq_nil_of_length_eq_zero (by simpa using hy)
        subst this
        refine hC _ _ ⟨h1, .inl ⟨rfl, ?_⟩⟩
        rcases hoo with rfl | rfl
        · exact .inl rfl
        · exact .inr rfl
      · intro g cap sp hg hc hcm hsp
        refine hC _ _ ⟨Hp.sub_new h1 (Hp.sub_none h1 hg), .inr ⟨g, m, cap, ys ++ sp, rfl, Hp.sub_none h1 hg, Hp.set_same _ _ _, ?_, ?_, by simpa using hy, hc, hcm⟩⟩
        · rw [List.length_append, hy, hsp, ← Nat.add_mul]; congr 1; omega
        · rw [← hy, List.take_left]; rfl
    rcases ho with rfl | rfl
    · exact main _ (.inl rfl)
    · exact main _ (.inr rfl)
  · obtain ⟨b1, b2⟩ := bnd n q6
    simp only [q3]
    refine ⟨trivial, q4, b1, b2, ?_⟩
    have hnk : (cs.take (n * k)).length = n * k := by rw [q5, q6]
    split
    · rename_i hroom
      have hfit : n * k + ys.length ≤ cs.length := by rw [hy, q4, ← Nat.add_mul]; exact Nat.mul_le_mul_right _ hroom
      refine hC _ _ ⟨Hp.sub_new h1 q2, .inr ⟨l, n + m, cap, _, rfl, q2, Hp.set_same _ _ _, ?_, ?_, by rw [List.length_append, q6, hy, Nat.add_mul], hroom, q8⟩⟩
      · rw [putAt_length _ _ _ hfit, q4]
      · have e : (n + m) * k = (cs.take (n * k) ++ ys).length := by rw [List.length_append, hnk, hy, Nat.add_mul]
        rw [putAt, e, List.take_left, q5]
    · intro g cap' sp hg hc hcm hsp
      refine hC _ _ ⟨Hp.sub_new h1 (Hp.sub_none h1 hg), .inr ⟨g, n + m, cap', _, rfl, Hp.sub_none h1 hg, Hp.set_same _ _ _, ?_, ?_, by rw [List.length_append, q6, hy, Nat.add_mul], hc, hcm⟩⟩
      · rw [List.length_append, List.length_append, hnk, hy, hsp, ← Nat.add_mul, ← Nat.add_mul]; congr 1; omega
      · have e : (n + m) * k = (cs.take (n * k) ++ ys).length := by rw [List.length_append, hnk, hy, Nat.add_mul]
        rw [e, List.take_left, q5]
theorem srcF_bytes {bs : List UInt8} {o : Own} : srcF s 1 (.sl (bs.map byteAV) o) = some (bs.length, bs.map byteAV) := by
  have : ((bs.map byteAV).all fun e => decide (e.cells.length = 1)) = true := by simp [byteAV, AV.cells]
  simp [srcF, this, flat_bytes]
def b2sMA (s : Hp) (a : AV) : Option AV :=
  match srcF s 1 a with
  | some (_, xs) => match bytesOf xs with
    | some l => some (.v (.string ⟨l.toArray⟩))
    | none => none
  | none => none
theorem G_b2sM {x : Operand} : G P (.b2sM x) f s Kv = valK (b2sMA s (ev f x)) (hid1 (fun r => Kv r s) ()) := by
  simp only [G, b2sMA]
  cases srcF s 1 (ev f x) with
  | none => rfl
  | some p =>
    obtain ⟨m, xs⟩ := p
    simp only
    cases bytesOf xs <;> rfl
theorem b2sMA_of {a : AV} {n : Nat} {bs : List UInt8} (h : srcF s 1 a = some (n, bs.map byteAV)) : b2sMA s a = some (.v (.string ⟨bs.toArray⟩)) := by simp [b2sMA, h, bytesOf_map]
def s2bA (a : AV) : Option AV :=
  match a with
  | .v (.string t) => some (.sl (t.data.toList.map byteAV) .any)
  | _ => none
theorem s2bA_str {bs : List UInt8} : s2bA (.v (.string ⟨bs.toArray⟩)) = some (.sl (bs.map byteAV) .any) := by simp [s2bA]
theorem G_s2b {x : Operand} : G P (.s2b x) f s Kv = valK (s2bA (ev f x)) (hid1 (fun r => Kv r s) ()) := by
  simp only [G, s2bA]; generalize ev f x = a
  cases a <;> first | rfl | (rename_i v; cases v <;> rfl)

/-! ### a slice that is written no more -/
theorem RV.frozen {H : PH} {w : World} {l n cap k : Nat} {cs : List AV} {v : Value} (hh : Holds H s w) (hl : s l = some (.ro cs)) (hn : n * k ≤ cs.length) (hv : RV H v (.mb l n cap k)) : RV H v (.sl (elemsOf k n cs) .any) := by
  obtain ⟨hone, vs, T, hb, hr, hH⟩ := hh.ob l _ hl
  have hsz : vs.size = cs.length := hr.1
  cases hv with
  | mb l n cap k hk hcap =>
    obtain ⟨e1, e2, e3⟩ := elemsOf_cells hk hn hone
    by_cases h0 : n = 0
    · subst h0
      have : elemsOf k 0 cs = [] := List.eq_nil_of_length_eq_zero e3
      rw [this]
      exact .slEmpty _ _ _ (fun h => by cases h) trivial
    · refine .sl l 0 n cap k (fun j => vs.getD j Go.undef) _ .any hk e3.symm hcap e1 ?_ ?_ ?_ trivial
      · intro c hc; rw [e2] at hc; exact hone c (List.mem_of_mem_take hc)
      · intro j hj; rw [Nat.zero_add]; exact hH j (by omega)
      · intro j u hu
        rw [e2] at hu
        have hj : j < n * k := by have := (List.getElem?_eq_some_iff.1 hu).1; simp at this; omega
        rw [List.getElem?_take_of_lt hj] at hu
        exact hr.2 j u hu
theorem AC.freeze {g : FuncId} {pre post : List AV} {l n cap k : Nat} {cs : List AV} {R : AV → Hp → Prop} (hl : s l = some (.cells cs)) (hn : n * k ≤ cs.length) (h : AC P g (pre ++ .sl (elemsOf k n cs) .any :: post) (s.set l (.ro cs)) R) : AC P g (pre ++ .mb l n cap k :: post) s R := by
  refine h.pre fun vs w H ha hh => ?_
  obtain ⟨H', st⟩ := Step.freeze hh hl
  refine ⟨H', ?_, st⟩
  have ha' := ha.mono st.le
  refine ⟨by rw [ha'.1]; simp, fun j u hu => ?_⟩
  by_cases hj : j = pre.length
  · subst hj
    have h1 := ha'.2 pre.length (.mb l n cap k) (by simp)
    have h2 : u = .sl (elemsOf k n cs) .any := by simpa using hu.symm
    subst h2
    exact RV.frozen st.holds (Hp.set_same _ _ _) hn h1
  · refine ha'.2 j u ?_
    rw [List.getElem?_append] at hu ⊢
    split
    · rename_i h1; rw [if_pos h1] at hu; exact hu
    · rename_i h1
      rw [if_neg h1] at hu
      obtain ⟨i, hi⟩ : ∃ i, j - pre.length = i + 1 := ⟨j - pre.length - 1, by omega⟩
      rw [hi] at hu ⊢
      simpa using hu
end
/-! bundles of the lemmas above, for 'simp' -/
def rF :=
  And.intro @G_bslM <|
  And.intro @G_appM <|
  And.intro @G_mks <|
  And.intro @G_b2sM <|
  And.intro @G_s2b <|
  And.intro @G_b2s <|
  And.intro @G_mm <|
  And.intro @G_lenT <|
  And.intro @G_slcS <|
  And.intro @G_cpy <|
  And.intro @G_slcAm <|
  And.intro @chkT_guard <|
  @Def_guard
def rG :=
  And.intro @s2bA_str <|
  And.intro @iaSA_mb <|
  And.intro @lenAA_mb <|
  And.intro @slcAA_mb <|
  And.intro @b2sA_map <|
  And.intro @mmA_max <|
  And.intro @mmA_min <|
  And.intro @lenTA_str <|
  And.intro @slcSA_lo <|
  And.intro @slcSA_hi <|
  And.intro @slcSA_both <|
  And.intro @slcMA_all <|
  And.intro @neq_str <|
  And.intro @eql_str <|
  And.intro @idxSA_str <|
  And.intro @ite_true.{1} <|
  And.intro @ite_false.{1} <|
  And.intro @Bool.not_false <|
  And.intro @Bool.not_true <|
  And.intro @Bool.false_xor <|
  And.intro @Bool.true_xor <|
  And.intro @Bool.true_and <|
  And.intro @Bool.false_and <|
  And.intro @decide_true <|
  @decide_false
end Go.Av
/-
  light.Follower.Save: a follower's bytes.
-/
set_option maxRecDepth 100000
namespace Go.Av
open Go
theorem slcRA_same {s : Hp} {n l : Nat} {cs : List AV} (h : cs.length = n) : slcRA 1 n (s.set l (.ro cs)) (.ptr l 0) = some (.sl cs .any) := slcRA_one (Hp.set_same _ _ _) h
end Go.Av
namespace Go.Proofs.Ytapjikladjoicaa
open Go Go.Av

theorem WS.mono {s0 s s' : Hp} {l : Nat} {bs : List UInt8} (h : WS s0 l bs s) (hs : s.sub s') : WS s0 l bs s' := by
  obtain ⟨ow, h⟩ := h; exact ⟨ow, h.mono hs⟩
theorem WS.sub {s0 s : Hp} {l : Nat} {bs : List UInt8} (h : WS s0 l bs s) (h0 : s0 l = none) : s0.sub s := by
  obtain ⟨ow, h⟩ := h; exact Hp.sub_trans (Hp.sub_new Hp.sub_refl h0) h.sub
theorem WS.base {s0 s1 s : Hp} {l : Nat} {bs : List UInt8} (h : WS s0 l bs s) (hs : s1.sub s0) : WS s1 l bs s := by
  obtain ⟨ow, h⟩ := h; exact ⟨ow, h.base (Hp.sub_set hs)⟩

theorem WS.cell {s0 s : Hp} {l : Nat} {bs : List UInt8} (h : WS s0 l bs s) : ∃ ow, s l = some (WC bs ow) := by
  obtain ⟨ow, h⟩ := h; exact ⟨ow, h.sub _ _ (Hp.set_same _ _ _)⟩
theorem WS.new {s0 s : Hp} {l l2 : Nat} {bs : List UInt8} {ob : Ob} (h : WS s0 l bs s) (h2 : s l2 = none) : l2 ≠ l ∧ s0 l2 = none ∧ WS (s0.set l2 ob) l bs (s.set l2 ob) := by
  obtain ⟨ow, hc⟩ := h.cell
  have hne : l2 ≠ l := by rintro rfl; rw [h2] at hc; cases hc
  obtain ⟨ow, h⟩ := h
  have h0 := Hp.sub_none h.sub h2
  rw [Hp.set_ne _ _ hne] at h0
  refine ⟨hne, h0, ow, ?_⟩
  rw [Hp.set_set_comm _ hne]
  exact h.new h2
theorem WS.get {s0 s : Hp} {l l2 : Nat} {bs : List UInt8} {ob : Ob} (h : WS s0 l bs s) (hne : l2 ≠ l) (h2 : s0 l2 = some ob) : s l2 = some ob := by
  obtain ⟨ow, h⟩ := h
  exact h.sub _ _ (by rw [Hp.set_ne _ _ hne]; exact h2)

theorem wtruth_spec (s0 s : Hp) (l : Nat) (bs : List UInt8) (b : Bool) (h : WS s0 l bs s) (hl : bs.length + 1 ≤ 70368744177664) :
    AC Try.prog 47 [.ptr l 0, .v (.bool b)] s fun _ s' => WS s0 l (bs ++ [if b then 1 else 0]) s' := by
  refine AC_run hm prep47 (by simp) ?_
  cases b
  · simp (dsimp := false) (implicitDefEqProofs := false) (maxSteps := 1000000) (disch := first | omega | assumption | (simp only [rL, Nat.reduceAdd]; done) | (simp only [rL, Nat.reduceAdd]; omega)) only [↓rD, rU, ev, ofConst, ofCell, ↓reduceIte, Nat.reduceEqDiff, Nat.reduceAdd, Nat.reduceSub, Nat.reduceMul, Nat.reduceLeDiff, Nat.reduceLT, Int.reduceNeg, Int.reduceToNat, Int.reduceAdd, Int.reduceSub, Int.reduceMul, Int.reduceLT, Int.reduceLE, Int.reduceEq, rX, dg_cells, dg_fold, List.drop_succ_cons, ↓rF, rG]
    refine call_intro (wbyte_spec s0 s l bs 0 h hl) ?_
    intro r s1 h1
    simp (dsimp := false) (implicitDefEqProofs := false) (maxSteps := 1000000) (disch := first | omega | assumption | (simp only [rL, Nat.reduceAdd]; done) | (simp only [rL, Nat.reduceAdd]; omega)) only [↓rD, rU, ev, ofConst, ofCell, ↓reduceIte, Nat.reduceEqDiff, Nat.reduceAdd, Nat.reduceSub, Nat.reduceMul, Nat.reduceLeDiff, Nat.reduceLT, Int.reduceNeg, Int.reduceToNat, Int.reduceAdd, Int.reduceSub, Int.reduceMul, Int.reduceLT, Int.reduceLE, Int.reduceEq, rX, dg_cells, dg_fold, List.drop_succ_cons, ↓rF, rG]
    exact ⟨_, Hp.sub_refl, h1⟩
  · simp (dsimp := false) (implicitDefEqProofs := false) (maxSteps := 1000000) (disch := first | omega | assumption | (simp only [rL, Nat.reduceAdd]; done) | (simp only [rL, Nat.reduceAdd]; omega)) only [↓rD, rU, ev, ofConst, ofCell, ↓reduceIte, Nat.reduceEqDiff, Nat.reduceAdd, Nat.reduceSub, Nat.reduceMul, Nat.reduceLeDiff, Nat.reduceLT, Int.reduceNeg, Int.reduceToNat, Int.reduceAdd, Int.reduceSub, Int.reduceMul, Int.reduceLT, Int.reduceLE, Int.reduceEq, rX, dg_cells, dg_fold, List.drop_succ_cons, ↓rF, rG]
    refine call_intro (wbyte_spec s0 s l bs 1 h hl) ?_
    intro r s1 h1
    simp (dsimp := false) (implicitDefEqProofs := false) (maxSteps := 1000000) (disch := first | omega | assumption | (simp only [rL, Nat.reduceAdd]; done) | (simp only [rL, Nat.reduceAdd]; omega)) only [↓rD, rU, ev, ofConst, ofCell, ↓reduceIte, Nat.reduceEqDiff, Nat.reduceAdd, Nat.reduceSub, Nat.reduceMul, Nat.reduceLeDiff, Nat.reduceLT, Int.reduceNeg, Int.reduceToNat, Int.reduceAdd, Int.reduceSub, Int.reduceMul, Int.reduceLT, Int.reduceLE, Int.reduceEq, rX, dg_cells, dg_fold, List.drop_succ_cons, ↓rF, rG]
    exact ⟨_, Hp.sub_refl, h1⟩

theorem wdigest_spec (s0 s : Hp) (l : Nat) (bs d : List UInt8) (hd : d.length = 32) (h : WS s0 l bs s) (hl : bs.length + 32 ≤ 70368744177664) :
    AC Try.prog 73 [.ptr l 0, dg d] s fun _ s' => WS s0 l (bs ++ d) s' := by
  refine AC_run hm prep73 (by simp) ?_
  simp (dsimp := false) (implicitDefEqProofs := false) (maxSteps := 1000000) (disch := first | omega | assumption | (simp only [rL, Nat.reduceAdd]; done) | (simp only [rL, Nat.reduceAdd]; omega)) only [↓rD, rU, ev, ofConst, ofCell, ↓reduceIte, Nat.reduceEqDiff, Nat.reduceAdd, Nat.reduceSub, Nat.reduceMul, Nat.reduceLeDiff, Nat.reduceLT, Int.reduceNeg, Int.reduceToNat, Int.reduceAdd, Int.reduceSub, Int.reduceMul, Int.reduceLT, Int.reduceLE, Int.reduceEq, rX, dg_cells, dg_fold, List.drop_succ_cons, ↓rF, rG, hd]
  refine newK_intro fun l3 n3 => ?_
  simp (dsimp := false) (implicitDefEqProofs := false) (maxSteps := 1000000) (disch := first | omega | assumption | (simp only [rL, Nat.reduceAdd]; done) | (simp only [rL, Nat.reduceAdd]; omega)) only [↓rD, rU, ev, ofConst, ofCell, ↓reduceIte, Nat.reduceEqDiff, Nat.reduceAdd, Nat.reduceSub, Nat.reduceMul, Nat.reduceLeDiff, Nat.reduceLT, Int.reduceNeg, Int.reduceToNat, Int.reduceAdd, Int.reduceSub, Int.reduceMul, Int.reduceLT, Int.reduceLE, Int.reduceEq, rX, dg_cells, dg_fold, List.drop_succ_cons, ↓rF, rG, hd, slcRA_same]
  refine call_intro (put_spec s0 _ l bs d .any (h.mono (Hp.sub_new Hp.sub_refl n3)) (by omega)) ?_
  intro r s1 h1
  simp (dsimp := false) (implicitDefEqProofs := false) (maxSteps := 1000000) (disch := first | omega | assumption | (simp only [rL, Nat.reduceAdd]; done) | (simp only [rL, Nat.reduceAdd]; omega)) only [↓rD, rU, ev, ofConst, ofCell, ↓reduceIte, Nat.reduceEqDiff, Nat.reduceAdd, Nat.reduceSub, Nat.reduceMul, Nat.reduceLeDiff, Nat.reduceLT, Int.reduceNeg, Int.reduceToNat, Int.reduceAdd, Int.reduceSub, Int.reduceMul, Int.reduceLT, Int.reduceLE, Int.reduceEq, rX, dg_cells, dg_fold, List.drop_succ_cons, ↓rF, rG]
  exact ⟨_, Hp.sub_refl, h1⟩

/-- an opening's bytes -/
def opB (o : Opn) : List UInt8 := numB o.n ++ o.h ++ o.d
theorem numB_length (n : Int) : (numB n).length = 8 := rfl
theorem opB_length {o : Opn} (h : o.ok) : (opB o).length = 72 := by simp [opB, numB_length, h.1, h.2]
theorem Opn.d32 {o : Opn} (ho : o.ok) : (o.C.drop 33).take 32 = o.d.map byteAV := opC_d ho.1 ho.2

theorem lput_spec (s0 s : Hp) (l : Nat) (bs : List UInt8) (o : Opn) (ho : o.ok) (h : WS s0 l bs s) (hl : bs.length ≤ 100000) :
    AC Try.prog 45 [.ptr l 0, o.V] s fun _ s' => WS s0 l (bs ++ opB o) s' := by
  refine AC_run hm prep45 (by simp) ?_
  have hc := Opn.cells (o := o)
  have hlo := Opn.lenC ho
  simp (dsimp := false) (implicitDefEqProofs := false) (maxSteps := 1000000) (disch := first | omega | assumption | (simp only [rL, Nat.reduceAdd]; done) | (simp only [rL, Nat.reduceAdd]; omega)) only [↓rD, rU, ev, ofConst, ofCell, ↓reduceIte, Nat.reduceEqDiff, Nat.reduceAdd, Nat.reduceSub, Nat.reduceMul, Nat.reduceLeDiff, Nat.reduceLT, Int.reduceNeg, Int.reduceToNat, Int.reduceAdd, Int.reduceSub, Int.reduceMul, Int.reduceLT, Int.reduceLE, Int.reduceEq, rX, dg_cells, dg_fold, List.drop_succ_cons, ↓rF, rG, hc, hlo]
  refine newK_intro fun l3 n3 => ?_
  obtain ⟨d3, e3, h⟩ := h.new (ob := .cells o.C) n3
  simp (dsimp := false) (implicitDefEqProofs := false) (maxSteps := 1000000) (disch := first | omega | assumption | (simp only [rL, Nat.reduceAdd]; done) | (simp only [rL, Nat.reduceAdd]; omega)) only [↓rD, rU, ev, ofConst, ofCell, ↓reduceIte, Nat.reduceEqDiff, Nat.reduceAdd, Nat.reduceSub, Nat.reduceMul, Nat.reduceLeDiff, Nat.reduceLT, Int.reduceNeg, Int.reduceToNat, Int.reduceAdd, Int.reduceSub, Int.reduceMul, Int.reduceLT, Int.reduceLE, Int.reduceEq, rX, dg_cells, dg_fold, List.drop_succ_cons, ↓rF, rG, hc, hlo, Opn.m0]
  refine call_intro (num_spec _ _ l bs o.n h (by omega)) ?_
  intro r s1 h1
  have g1 := h1.get d3 (Hp.set_same _ _ _)
  simp (dsimp := false) (implicitDefEqProofs := false) (maxSteps := 1000000) (disch := first | omega | assumption | (simp only [rL, Nat.reduceAdd]; done) | (simp only [rL, Nat.reduceAdd]; omega)) only [↓rD, rU, ev, ofConst, ofCell, ↓reduceIte, Nat.reduceEqDiff, Nat.reduceAdd, Nat.reduceSub, Nat.reduceMul, Nat.reduceLeDiff, Nat.reduceLT, Int.reduceNeg, Int.reduceToNat, Int.reduceAdd, Int.reduceSub, Int.reduceMul, Int.reduceLT, Int.reduceLE, Int.reduceEq, rX, dg_cells, dg_fold, List.drop_succ_cons, ↓rF, rG, hlo, Hp.read_of g1, Opn.h32 ho, dg_fold']
  refine call_intro (wdigest_spec _ _ l _ o.h ho.1 h1 (by simp [numB_length]; omega)) ?_
  intro r s2 h2
  have g2 := h2.get d3 (Hp.set_same _ _ _)
  simp (dsimp := false) (implicitDefEqProofs := false) (maxSteps := 1000000) (disch := first | omega | assumption | (simp only [rL, Nat.reduceAdd]; done) | (simp only [rL, Nat.reduceAdd]; omega)) only [↓rD, rU, ev, ofConst, ofCell, ↓reduceIte, Nat.reduceEqDiff, Nat.reduceAdd, Nat.reduceSub, Nat.reduceMul, Nat.reduceLeDiff, Nat.reduceLT, Int.reduceNeg, Int.reduceToNat, Int.reduceAdd, Int.reduceSub, Int.reduceMul, Int.reduceLT, Int.reduceLE, Int.reduceEq, rX, dg_cells, dg_fold, List.drop_succ_cons, ↓rF, rG, hlo, Hp.read_of g2, Opn.d32 ho, dg_fold']
  refine call_intro (wdigest_spec _ _ l _ o.d ho.2 h2 (by simp [numB_length, ho.1]; omega)) ?_
  intro r s3 h3
  simp (dsimp := false) (implicitDefEqProofs := false) (maxSteps := 1000000) (disch := first | omega | assumption | (simp only [rL, Nat.reduceAdd]; done) | (simp only [rL, Nat.reduceAdd]; omega)) only [↓rD, rU, ev, ofConst, ofCell, ↓reduceIte, Nat.reduceEqDiff, Nat.reduceAdd, Nat.reduceSub, Nat.reduceMul, Nat.reduceLeDiff, Nat.reduceLT, Int.reduceNeg, Int.reduceToNat, Int.reduceAdd, Int.reduceSub, Int.reduceMul, Int.reduceLT, Int.reduceLE, Int.reduceEq, rX, dg_cells, dg_fold, List.drop_succ_cons, ↓rF, rG]
  refine ⟨_, Hp.sub_refl, ?_⟩
  have e : bs ++ opB o = bs ++ numB o.n ++ o.h ++ o.d := by simp [opB]
  rw [e]
  exact h3.base (Hp.sub_new Hp.sub_refl e3)

/-- a follower's bytes -/
def saveB (F : Fw) : List UInt8 := opB F.o ++ numB F.st ++ (match F.fk with | none => [0] | some (a, b) => 1 :: (opB a ++ opB b))
theorem saveB_length {F : Fw} (h : F.ok) : (saveB F).length ≤ 300 := by
  obtain ⟨h1, h2⟩ := h
  unfold saveB
  cases hk : F.fk with
  | none => simp [opB_length h1, numB_length]
  | some ab => obtain ⟨a, b⟩ := ab; obtain ⟨ha, hb⟩ := h2 a b hk; simp [opB_length h1, opB_length ha, opB_length hb, numB_length]

theorem Save_spec (s0 s : Hp) (l : Nat) (F : Fw) (hF : F.ok) (h : FS s0 l F s) :
    AC Try.prog 22 [.ptr l 0] s fun r s' => ∃ o', Owned s s' 1 ((saveB F).map byteAV) o' ∧ r = .sl ((saveB F).map byteAV) o' := by
  obtain ⟨p, hs, hp⟩ := h.get
  obtain ⟨hFo, hFk⟩ := hF
  have hw := fwC_length (st := F.st) (p := p) hFo
  refine AC_run hm prep22 (by simp) ?_
  simp (dsimp := false) (implicitDefEqProofs := false) (maxSteps := 1000000) (disch := first | omega | assumption | (simp only [rL, Nat.reduceAdd]; done) | (simp only [rL, Nat.reduceAdd]; omega)) only [↓rD, rU, ev, ofConst, ofCell, ↓reduceIte, Nat.reduceEqDiff, Nat.reduceAdd, Nat.reduceSub, Nat.reduceMul, Nat.reduceLeDiff, Nat.reduceLT, Int.reduceNeg, Int.reduceToNat, Int.reduceAdd, Int.reduceSub, Int.reduceMul, Int.reduceLT, Int.reduceLE, Int.reduceEq, rX, dg_cells, dg_fold, List.drop_succ_cons, ↓rF, rG]
  refine newK_intro fun l5 n5 => ?_
  have d5 : l ≠ l5 := by rintro rfl; rw [n5] at hs; cases hs
  have hW : WS s l5 [] (s.set l5 (.cells [.sl [] .nil, .v (.int .i64 0)])) := ⟨.nil, Owned.nil Hp.sub_refl⟩
  simp (dsimp := false) (implicitDefEqProofs := false) (maxSteps := 1000000) (disch := first | omega | assumption | (simp only [rL, Nat.reduceAdd]; done) | (simp only [rL, Nat.reduceAdd]; omega)) only [↓rD, rU, ev, ofConst, ofCell, ↓reduceIte, Nat.reduceEqDiff, Nat.reduceAdd, Nat.reduceSub, Nat.reduceMul, Nat.reduceLeDiff, Nat.reduceLT, Int.reduceNeg, Int.reduceToNat, Int.reduceAdd, Int.reduceSub, Int.reduceMul, Int.reduceLT, Int.reduceLE, Int.reduceEq, rX, dg_cells, dg_fold, List.drop_succ_cons, ↓rF, rG, Hp.read_of hs, d5, hw, fwC_op hFo, Opn.fold']
  refine call_intro (lput_spec s _ l5 [] F.o hFo hW (by simp)) ?_
  intro r s1 h1
  have g1 := h1.get d5 hs
  simp (dsimp := false) (implicitDefEqProofs := false) (maxSteps := 1000000) (disch := first | omega | assumption | (simp only [rL, Nat.reduceAdd]; done) | (simp only [rL, Nat.reduceAdd]; omega)) only [↓rD, rU, ev, ofConst, ofCell, ↓reduceIte, Nat.reduceEqDiff, Nat.reduceAdd, Nat.reduceSub, Nat.reduceMul, Nat.reduceLeDiff, Nat.reduceLT, Int.reduceNeg, Int.reduceToNat, Int.reduceAdd, Int.reduceSub, Int.reduceMul, Int.reduceLT, Int.reduceLE, Int.reduceEq, rX, dg_cells, dg_fold, List.drop_succ_cons, ↓rF, rG, Hp.read_of g1, hw, fwC_65 hFo]
  have hlo := opB_length hFo
  rw [List.nil_append] at h1
  refine call_intro (num_spec s _ l5 _ F.st h1 (by omega)) ?_
  intro r s2 h2
  have g2 := h2.get d5 hs
  rcases hp with ⟨hk, rfl⟩ | ⟨lf, a, b, hk, rfl, hlf⟩
  · simp (dsimp := false) (implicitDefEqProofs := false) (maxSteps := 1000000) (disch := first | omega | assumption | (simp only [rL, Nat.reduceAdd]; done) | (simp only [rL, Nat.reduceAdd]; omega)) only [↓rD, rU, ev, ofConst, ofCell, ↓reduceIte, Nat.reduceEqDiff, Nat.reduceAdd, Nat.reduceSub, Nat.reduceMul, Nat.reduceLeDiff, Nat.reduceLT, Int.reduceNeg, Int.reduceToNat, Int.reduceAdd, Int.reduceSub, Int.reduceMul, Int.reduceLT, Int.reduceLE, Int.reduceEq, rX, dg_cells, dg_fold, List.drop_succ_cons, ↓rF, rG, Hp.read_of g2, hw, fwC_66 hFo]
    refine call_intro (wtruth_spec s _ l5 _ false h2 (by simp [hlo, numB_length])) ?_
    intro r s3 h3
    have g3 := h3.get d5 hs
    simp (dsimp := false) (implicitDefEqProofs := false) (maxSteps := 1000000) (disch := first | omega | assumption | (simp only [rL, Nat.reduceAdd]; done) | (simp only [rL, Nat.reduceAdd]; omega)) only [↓rD, rU, ev, ofConst, ofCell, ↓reduceIte, Nat.reduceEqDiff, Nat.reduceAdd, Nat.reduceSub, Nat.reduceMul, Nat.reduceLeDiff, Nat.reduceLT, Int.reduceNeg, Int.reduceToNat, Int.reduceAdd, Int.reduceSub, Int.reduceMul, Int.reduceLT, Int.reduceLE, Int.reduceEq, rX, dg_cells, dg_fold, List.drop_succ_cons, ↓rF, rG, Hp.read_of g3, hw, fwC_66 hFo]
    refine call_intro (wbytes_spec s _ l5 _ h3 (by simp [hlo, numB_length])) ?_
    rintro _ s4 ⟨o4, h4, rfl⟩
    simp (dsimp := false) (implicitDefEqProofs := false) (maxSteps := 1000000) (disch := first | omega | assumption | (simp only [rL, Nat.reduceAdd]; done) | (simp only [rL, Nat.reduceAdd]; omega)) only [↓rD, rU, ev, ofConst, ofCell, ↓reduceIte, Nat.reduceEqDiff, Nat.reduceAdd, Nat.reduceSub, Nat.reduceMul, Nat.reduceLeDiff, Nat.reduceLT, Int.reduceNeg, Int.reduceToNat, Int.reduceAdd, Int.reduceSub, Int.reduceMul, Int.reduceLT, Int.reduceLE, Int.reduceEq, rX, dg_cells, dg_fold, List.drop_succ_cons, ↓rF, rG]
    have e : saveB F = opB F.o ++ numB F.st ++ [if false = true then 1 else 0] := by rw [saveB, hk]; rfl
    rw [e]
    exact ⟨_, Hp.sub_refl, o4, h4.base (h3.sub n5), rfl⟩
  · obtain ⟨ha, hb⟩ := hFk a b hk
    have hla := Opn.lenC ha
    have hlb := Opn.lenC hb
    have hab : (a.C ++ b.C).length = 130 := by simp [hla, hlb]
    have hfb := Opn.fold hb
    have df : lf ≠ l5 := by rintro rfl; rw [n5] at hlf; cases hlf
    have la := opB_length ha
    simp (dsimp := false) (implicitDefEqProofs := false) (maxSteps := 1000000) (disch := first | omega | assumption | (simp only [rL, Nat.reduceAdd]; done) | (simp only [rL, Nat.reduceAdd]; omega)) only [↓rD, rU, ev, ofConst, ofCell, ↓reduceIte, Nat.reduceEqDiff, Nat.reduceAdd, Nat.reduceSub, Nat.reduceMul, Nat.reduceLeDiff, Nat.reduceLT, Int.reduceNeg, Int.reduceToNat, Int.reduceAdd, Int.reduceSub, Int.reduceMul, Int.reduceLT, Int.reduceLE, Int.reduceEq, rX, dg_cells, dg_fold, List.drop_succ_cons, ↓rF, rG, Hp.read_of g2, hw, fwC_66 hFo]
    refine call_intro (wtruth_spec s _ l5 _ true h2 (by simp [hlo, numB_length])) ?_
    intro r s3 h3
    have g3 := h3.get d5 hs
    have f3 := h3.get df hlf
    simp (dsimp := false) (implicitDefEqProofs := false) (maxSteps := 1000000) (disch := first | omega | assumption | (simp only [rL, Nat.reduceAdd]; done) | (simp only [rL, Nat.reduceAdd]; omega)) only [↓rD, rU, ev, ofConst, ofCell, ↓reduceIte, Nat.reduceEqDiff, Nat.reduceAdd, Nat.reduceSub, Nat.reduceMul, Nat.reduceLeDiff, Nat.reduceLT, Int.reduceNeg, Int.reduceToNat, Int.reduceAdd, Int.reduceSub, Int.reduceMul, Int.reduceLT, Int.reduceLE, Int.reduceEq, rX, dg_cells, dg_fold, List.drop_succ_cons, ↓rF, rG, Hp.read_of g3, hw, fwC_66 hFo, Hp.read_of f3, hab, fk_at0 ha, Opn.fold']
    refine call_intro (lput_spec s _ l5 _ a ha h3 (by simp [hlo, numB_length])) ?_
    intro r s4 h4
    have g4 := h4.get d5 hs
    have f4 := h4.get df hlf
    simp (dsimp := false) (implicitDefEqProofs := false) (maxSteps := 1000000) (disch := first | omega | assumption | (simp only [rL, Nat.reduceAdd]; done) | (simp only [rL, Nat.reduceAdd]; omega)) only [↓rD, rU, ev, ofConst, ofCell, ↓reduceIte, Nat.reduceEqDiff, Nat.reduceAdd, Nat.reduceSub, Nat.reduceMul, Nat.reduceLeDiff, Nat.reduceLT, Int.reduceNeg, Int.reduceToNat, Int.reduceAdd, Int.reduceSub, Int.reduceMul, Int.reduceLT, Int.reduceLE, Int.reduceEq, rX, dg_cells, dg_fold, List.drop_succ_cons, ↓rF, rG, Hp.read_of g4, hw, fwC_66 hFo, Hp.read_of f4, hab, fk_at1 ha, hfb]
    refine call_intro (lput_spec s _ l5 _ b hb h4 (by simp [hlo, la, numB_length])) ?_
    intro r s5 h5
    simp (dsimp := false) (implicitDefEqProofs := false) (maxSteps := 1000000) (disch := first | omega | assumption | (simp only [rL, Nat.reduceAdd]; done) | (simp only [rL, Nat.reduceAdd]; omega)) only [↓rD, rU, ev, ofConst, ofCell, ↓reduceIte, Nat.reduceEqDiff, Nat.reduceAdd, Nat.reduceSub, Nat.reduceMul, Nat.reduceLeDiff, Nat.reduceLT, Int.reduceNeg, Int.reduceToNat, Int.reduceAdd, Int.reduceSub, Int.reduceMul, Int.reduceLT, Int.reduceLE, Int.reduceEq, rX, dg_cells, dg_fold, List.drop_succ_cons, ↓rF, rG]
    have lb := opB_length hb
    refine call_intro (wbytes_spec s _ l5 _ h5 (by simp [hlo, la, lb, numB_length])) ?_
    rintro _ s6 ⟨o6, h6, rfl⟩
    simp (dsimp := false) (implicitDefEqProofs := false) (maxSteps := 1000000) (disch := first | omega | assumption | (simp only [rL, Nat.reduceAdd]; done) | (simp only [rL, Nat.reduceAdd]; omega)) only [↓rD, rU, ev, ofConst, ofCell, ↓reduceIte, Nat.reduceEqDiff, Nat.reduceAdd, Nat.reduceSub, Nat.reduceMul, Nat.reduceLeDiff, Nat.reduceLT, Int.reduceNeg, Int.reduceToNat, Int.reduceAdd, Int.reduceSub, Int.reduceMul, Int.reduceLT, Int.reduceLE, Int.reduceEq, rX, dg_cells, dg_fold, List.drop_succ_cons, ↓rF, rG]
    have e : saveB F = opB F.o ++ numB F.st ++ [if true = true then 1 else 0] ++ opB a ++ opB b := by rw [saveB, hk]; simp
    rw [e]
    exact ⟨_, Hp.sub_refl, o6, h6.base (h5.sub n5), rfl⟩
end Go.Proofs.Ytapjikladjoicaa
/-
  The document's answers: numbers and truths as bytes; a follower's bytes.
-/
set_option maxRecDepth 100000
namespace Go.Av
open Go
theorem quo_u64 (a b : Nat) (ha : a < 18446744073709551616) (hb : 0 < b) : binV .quo (.int .u64 a) (.int .u64 (b : Int)) = some (.int .u64 ((a / b : Nat) : Int)) := by
  have h : binV .quo (.int .u64 a) (.int .u64 (b : Int)) = (if (b : Int) = 0 then none else some (.int .u64 (IntKind.u64.wrap ((a : Int).tdiv (b : Int))))) := rfl
  have e : ((a : Int).tdiv (b : Int)) = ((a / b : Nat) : Int) := rfl
  have hlt : a / b ≤ a := Nat.div_le_self a b
  rw [h, if_neg (by omega), e]
  generalize a / b = q at *
  rw [wrap_u64 (by omega) (by omega)]
theorem rem_u64 (a b : Nat) (hb : 0 < b) : binV .rem (.int .u64 a) (.int .u64 (b : Int)) = some (.int .u64 ((a % b : Nat) : Int)) := by
  have h : binV .rem (.int .u64 a) (.int .u64 (b : Int)) = (if (b : Int) = 0 then none else some (.int .u64 ((a : Int).tmod (b : Int)))) := rfl
  rw [h, if_neg (by omega)]; rfl
theorem xor_top_nat (a : Nat) (ha : a < 18446744073709551616) : a ^^^ 9223372036854775808 = (a + 9223372036854775808) % 18446744073709551616 := by
  have e1 : (9223372036854775808 : Nat) = 2 ^ 63 := by decide
  have e2 : (18446744073709551616 : Nat) = 2 ^ 64 := by decide
  rw [e2] at ha
  rw [e1, e2]
  apply Nat.eq_of_testBit_eq
  intro j
  rw [Nat.testBit_xor, Nat.testBit_two_pow, Nat.testBit_mod_two_pow, Nat.add_comm]
  by_cases h1 : j < 63
  · rw [Nat.testBit_two_pow_add_gt h1]
    have : ¬ (63 = j) := by omega
    have h2 : j < 64 := by omega
    simp [this, h2]
  · by_cases h2 : j = 63
    · subst h2
      rw [Nat.testBit_two_pow_add_eq]
      simp
    · have h3 : ¬ j < 64 := by omega
      have h4 : a.testBit j = false := Nat.testBit_lt_two_pow (Nat.lt_of_lt_of_le ha (Nat.pow_le_pow_right (by omega) (by omega)))
      have : ¬ (63 = j) := by omega
      simp [this, h3, h4]
end Go.Av
namespace Go.Proofs.Ytapjikladjoicaa
open Go Go.Av

theorem numN_add (n : Int) : IntKind.u64.wrap (IntKind.u64.wrap n + 9223372036854775808) = (numN n : Int) := by
  have h1 := wrap_u64_mod (n := n)
  have hx : (BitVec.ofInt 64 n).toNat = (n % 18446744073709551616).toNat := by
    rw [BitVec.toNat_ofInt]; rfl
  have hlt : (BitVec.ofInt 64 n).toNat < 18446744073709551616 := (BitVec.ofInt 64 n).isLt
  have h2 : numN n = ((BitVec.ofInt 64 n).toNat + 9223372036854775808) % 18446744073709551616 := by
    rw [numN, BitVec.toNat_xor]
    have e : (BitVec.ofInt 64 9223372036854775808).toNat = 9223372036854775808 := by decide
    rw [e, xor_top_nat _ hlt]
  rw [wrap_u64_mod, h2, h1]
  omega

theorem rnumR_spec (n : Int) (s : Hp) :
    AC Try.prog 50 [.v (.int .i64 n)] s fun r s' => MO s s' 1 ((numB n).map byteAV) r := by
  refine AC_run hm prep50 (by simp) ?_
  simp (dsimp := false) (implicitDefEqProofs := false) (maxSteps := 1000000) (disch := first | omega | assumption | (simp only [rL, Nat.reduceAdd]; done) | (simp only [rL, Nat.reduceAdd]; omega)) only [↓rD, rU, ev, ofConst, ofCell, ↓reduceIte, Nat.reduceEqDiff, Nat.reduceAdd, Nat.reduceSub, Nat.reduceMul, Nat.reduceLeDiff, Nat.reduceLT, Int.reduceNeg, Int.reduceToNat, Int.reduceAdd, Int.reduceSub, Int.reduceMul, Int.reduceLT, Int.reduceLE, Int.reduceEq, rX, dg_cells, dg_fold, List.drop_succ_cons, ↓rF, rG, ne_eq, not_true_eq_false, not_false_eq_true, Int.reduceNe, List.getElem?_cons_zero, List.getElem?_cons_succ, numN_add]
  have hN : numN n < 18446744073709551616 := (BitVec.ofInt 64 n ^^^ BitVec.ofInt 64 9223372036854775808).isLt
  have hb : numB n = eightB (numN n) := rfl
  rw [hb]
  generalize numN n = U at *
  refine mks_intro (n := 8) (by omega) (by omega) fun l nl => ?_
  simp (dsimp := false) (implicitDefEqProofs := false) (maxSteps := 1000000) (disch := first | omega | assumption | (simp only [rL, Nat.reduceAdd]; done) | (simp only [rL, Nat.reduceAdd]; omega)) only [↓rD, rU, ev, ofConst, ofCell, ↓reduceIte, Nat.reduceEqDiff, Nat.reduceAdd, Nat.reduceSub, Nat.reduceMul, Nat.reduceLeDiff, Nat.reduceLT, Int.reduceNeg, Int.reduceToNat, Int.reduceAdd, Int.reduceSub, Int.reduceMul, Int.reduceLT, Int.reduceLE, Int.reduceEq, rX, dg_cells, dg_fold, List.drop_succ_cons, ↓rF, rG, ne_eq, not_true_eq_false, not_false_eq_true, Int.reduceNe, List.getElem?_cons_zero, List.getElem?_cons_succ]
  refine loop_intro (fun f s' => ∃ j : Nat, j ≤ 8 ∧ s' = s.set l (.cells (List.replicate (8 - j) (byteAV 0) ++ ((eightB U).drop (8 - j)).map byteAV)) ∧ f 4 = .mb l 8 8 1 ∧ f 3 = .v (.int .u64 ((U / 256 ^ j : Nat) : Int)) ∧ f 5 = .v (.int .i64 (7 - (j : Int))))
    (fun f _ => match f 5 with | .v (.int _ n) => (n + 8).toNat | _ => 0) ⟨0, by omega, ?_⟩ ?_
  · simp (dsimp := false) (implicitDefEqProofs := false) (maxSteps := 1000000) (disch := first | omega | assumption | (simp only [rL, Nat.reduceAdd]; done) | (simp only [rL, Nat.reduceAdd]; omega)) only [↓rD, rU, ev, ofConst, ofCell, ↓reduceIte, Nat.reduceEqDiff, Nat.reduceAdd, Nat.reduceSub, Nat.reduceMul, Nat.reduceLeDiff, Nat.reduceLT, Int.reduceNeg, Int.reduceToNat, Int.reduceAdd, Int.reduceSub, Int.reduceMul, Int.reduceLT, Int.reduceLE, Int.reduceEq, rX, dg_cells, dg_fold, List.drop_succ_cons, ↓rF, rG, ne_eq, not_true_eq_false, not_false_eq_true, Int.reduceNe, List.getElem?_cons_zero, List.getElem?_cons_succ]
    try (simp; try rfl)
  · rintro f s' ⟨j, hj, rfl, f4, f3, f5⟩
    by_cases hlt : (0 : Int) ≤ 7 - (j : Int)
    · have hdiv : U / 256 ^ j < 18446744073709551616 := Nat.lt_of_le_of_lt (Nat.div_le_self _ _) hN
      have hq := quo_u64 (U / 256 ^ j) 256 hdiv (by omega)
      have hr := rem_u64 (U / 256 ^ j) 256 (by omega)
      have e256 : ((256 : Nat) : Int) = 256 := rfl
      rw [e256] at hq hr
      have hlen : (List.replicate (8 - j) (byteAV 0) ++ ((eightB U).drop (8 - j)).map byteAV).length = 8 := by
        have : (eightB U).length = 8 := rfl
        simp [this]
        try omega
      simp (dsimp := false) (implicitDefEqProofs := false) (maxSteps := 1000000) (disch := first | omega | assumption | (simp only [rL, Nat.reduceAdd]; done) | (simp only [rL, Nat.reduceAdd]; omega)) only [↓rD, rU, ev, ofConst, ofCell, ↓reduceIte, Nat.reduceEqDiff, Nat.reduceAdd, Nat.reduceSub, Nat.reduceMul, Nat.reduceLeDiff, Nat.reduceLT, Int.reduceNeg, Int.reduceToNat, Int.reduceAdd, Int.reduceSub, Int.reduceMul, Int.reduceLT, Int.reduceLE, Int.reduceEq, rX, dg_cells, dg_fold, List.drop_succ_cons, ↓rF, rG, ne_eq, not_true_eq_false, not_false_eq_true, Int.reduceNe, List.getElem?_cons_zero, List.getElem?_cons_succ, f3, f4, f5, hlt, hq, hr, wrap_u8_nat, hlen]
      refine ⟨⟨j + 1, by omega, ?_, ?_, by (congr 2; try omega)⟩, by omega⟩
      · congr 2
        have hbyte : UInt8.ofNat (U / 256 ^ j % 256) = UInt8.ofNat (U >>> (8 * j)) := by
          apply UInt8.toNat_inj.1
          rw [UInt8.toNat_ofNat', UInt8.toNat_ofNat', Nat.shiftRight_eq_div_pow, Nat.pow_mul]
          show U / 256 ^ j % 256 % 256 = U / 256 ^ j % 256
          omega
        rw [hbyte]
        rcases (by omega : j = 0 ∨ j = 1 ∨ j = 2 ∨ j = 3 ∨ j = 4 ∨ j = 5 ∨ j = 6 ∨ j = 7) with rfl | rfl | rfl | rfl | rfl | rfl | rfl | rfl <;> rfl
      · rw [Nat.div_div_eq_div_mul, ← Nat.pow_succ]
    · obtain rfl : j = 8 := by omega
      simp (dsimp := false) (implicitDefEqProofs := false) (maxSteps := 1000000) (disch := first | omega | assumption | (simp only [rL, Nat.reduceAdd]; done) | (simp only [rL, Nat.reduceAdd]; omega)) only [↓rD, rU, ev, ofConst, ofCell, ↓reduceIte, Nat.reduceEqDiff, Nat.reduceAdd, Nat.reduceSub, Nat.reduceMul, Nat.reduceLeDiff, Nat.reduceLT, Int.reduceNeg, Int.reduceToNat, Int.reduceAdd, Int.reduceSub, Int.reduceMul, Int.reduceLT, Int.reduceLE, Int.reduceEq, rX, dg_cells, dg_fold, List.drop_succ_cons, ↓rF, rG, ne_eq, not_true_eq_false, not_false_eq_true, Int.reduceNe, List.getElem?_cons_zero, List.getElem?_cons_succ, f3, f4, f5, hlt]
      refine ⟨_, Hp.sub_refl, Hp.sub_new Hp.sub_refl nl, .inr ⟨l, 8, 8, _, rfl, nl, Hp.set_same _ _ _, rfl, rfl, rfl, by omega, by decide⟩⟩

theorem rtruthR_spec (b : Bool) (s : Hp) :
    AC Try.prog 51 [.v (.bool b)] s fun r s' => MO s s' 1 ([if b then (1 : UInt8) else 0].map byteAV) r := by
  refine AC_run hm prep51 (by simp) ?_
  cases b
  · simp (dsimp := false) (implicitDefEqProofs := false) (maxSteps := 1000000) (disch := first | omega | assumption | (simp only [rL, Nat.reduceAdd]; done) | (simp only [rL, Nat.reduceAdd]; omega)) only [↓rD, rU, ev, ofConst, ofCell, ↓reduceIte, Nat.reduceEqDiff, Nat.reduceAdd, Nat.reduceSub, Nat.reduceMul, Nat.reduceLeDiff, Nat.reduceLT, Int.reduceNeg, Int.reduceToNat, Int.reduceAdd, Int.reduceSub, Int.reduceMul, Int.reduceLT, Int.reduceLE, Int.reduceEq, rX, dg_cells, dg_fold, List.drop_succ_cons, ↓rF, rG, ne_eq, not_true_eq_false, not_false_eq_true, Int.reduceNe, List.getElem?_cons_zero, List.getElem?_cons_succ]
    refine bslM_intro (by simp [allLen, AV.cells]) (by simp) fun g hg => ?_
    simp (dsimp := false) (implicitDefEqProofs := false) (maxSteps := 1000000) (disch := first | omega | assumption | (simp only [rL, Nat.reduceAdd]; done) | (simp only [rL, Nat.reduceAdd]; omega)) only [↓rD, rU, ev, ofConst, ofCell, ↓reduceIte, Nat.reduceEqDiff, Nat.reduceAdd, Nat.reduceSub, Nat.reduceMul, Nat.reduceLeDiff, Nat.reduceLT, Int.reduceNeg, Int.reduceToNat, Int.reduceAdd, Int.reduceSub, Int.reduceMul, Int.reduceLT, Int.reduceLE, Int.reduceEq, rX, dg_cells, dg_fold, List.drop_succ_cons, ↓rF, rG, ne_eq, not_true_eq_false, not_false_eq_true, Int.reduceNe, List.getElem?_cons_zero, List.getElem?_cons_succ]
    exact ⟨_, Hp.sub_refl, Hp.sub_new Hp.sub_refl hg, .inr ⟨g, 1, 1, _, rfl, hg, Hp.set_same _ _ _, rfl, rfl, rfl, by omega, by decide⟩⟩
  · simp (dsimp := false) (implicitDefEqProofs := false) (maxSteps := 1000000) (disch := first | omega | assumption | (simp only [rL, Nat.reduceAdd]; done) | (simp only [rL, Nat.reduceAdd]; omega)) only [↓rD, rU, ev, ofConst, ofCell, ↓reduceIte, Nat.reduceEqDiff, Nat.reduceAdd, Nat.reduceSub, Nat.reduceMul, Nat.reduceLeDiff, Nat.reduceLT, Int.reduceNeg, Int.reduceToNat, Int.reduceAdd, Int.reduceSub, Int.reduceMul, Int.reduceLT, Int.reduceLE, Int.reduceEq, rX, dg_cells, dg_fold, List.drop_succ_cons, ↓rF, rG, ne_eq, not_true_eq_false, not_false_eq_true, Int.reduceNe, List.getElem?_cons_zero, List.getElem?_cons_succ]
    refine bslM_intro (by simp [allLen, AV.cells]) (by simp) fun g hg => ?_
    simp (dsimp := false) (implicitDefEqProofs := false) (maxSteps := 1000000) (disch := first | omega | assumption | (simp only [rL, Nat.reduceAdd]; done) | (simp only [rL, Nat.reduceAdd]; omega)) only [↓rD, rU, ev, ofConst, ofCell, ↓reduceIte, Nat.reduceEqDiff, Nat.reduceAdd, Nat.reduceSub, Nat.reduceMul, Nat.reduceLeDiff, Nat.reduceLT, Int.reduceNeg, Int.reduceToNat, Int.reduceAdd, Int.reduceSub, Int.reduceMul, Int.reduceLT, Int.reduceLE, Int.reduceEq, rX, dg_cells, dg_fold, List.drop_succ_cons, ↓rF, rG, ne_eq, not_true_eq_false, not_false_eq_true, Int.reduceNe, List.getElem?_cons_zero, List.getElem?_cons_succ]
    exact ⟨_, Hp.sub_refl, Hp.sub_new Hp.sub_refl hg, .inr ⟨g, 1, 1, _, rfl, hg, Hp.set_same _ _ _, rfl, rfl, rfl, by omega, by decide⟩⟩

theorem appB_own {s0 s : Hp} {bs cs : List UInt8} {x y : AV} {n : Nat} {C : AV → Hp → Prop} {d : Dep C} (h : MO s0 s 1 (bs.map byteAV) x) (hs : srcF s 1 y = some (n, cs.map byteAV)) (hb : bs.length + cs.length ≤ 70368744177664)
    (hC : ∀ a' s', MO s0 s' 1 ((bs ++ cs).map byteAV) a' → C a' s') : appMK 1 1 s x y (hid2 C d) := by
  have hn : cs.length = n := by
    unfold srcF at hs
    split at hs
    · split at hs
      · rename_i ys _ hall
        simp only [Option.some.injEq, Prod.mk.injEq] at hs
        have h2 := congrArg List.length hs.2
        rw [flat_length (k := 1) (by simpa only [List.all_eq_true, decide_eq_true_eq] using hall)] at h2
        simp at h2; omega
      · cases hs
    · split at hs
      · split at hs
        · rename_i cs' _ hc
          simp only [Option.some.injEq, Prod.mk.injEq] at hs
          have h2 := congrArg List.length hs.2
          simp at h2; omega
        · cases hs
      · cases hs
    · split at hs
      · split at hs
        · rename_i cs' _ hc
          simp only [Option.some.injEq, Prod.mk.injEq] at hs
          have h2 := congrArg List.length hs.2
          simp at h2; omega
        · cases hs
      · cases hs
    · cases hs
  refine appM_own h (by omega) hs (by simp [hn]) (by simp; omega) (by simp; omega) ?_
  rw [← List.map_append]; exact hC

theorem ropR_spec (o : Opn) (ho : o.ok) (s : Hp) :
    AC Try.prog 49 [o.V] s fun r s' => MO s s' 1 ((opB o).map byteAV) r := by
  refine AC_run hm prep49 (by simp) ?_
  have hc := Opn.cells (o := o)
  have hl := Opn.lenC ho
  simp (dsimp := false) (implicitDefEqProofs := false) (maxSteps := 1000000) (disch := first | omega | assumption | (simp only [rL, Nat.reduceAdd]; done) | (simp only [rL, Nat.reduceAdd]; omega)) only [↓rD, rU, ev, ofConst, ofCell, ↓reduceIte, Nat.reduceEqDiff, Nat.reduceAdd, Nat.reduceSub, Nat.reduceMul, Nat.reduceLeDiff, Nat.reduceLT, Int.reduceNeg, Int.reduceToNat, Int.reduceAdd, Int.reduceSub, Int.reduceMul, Int.reduceLT, Int.reduceLE, Int.reduceEq, rX, dg_cells, dg_fold, List.drop_succ_cons, ↓rF, rG, ne_eq, not_true_eq_false, not_false_eq_true, Int.reduceNe, List.getElem?_cons_zero, List.getElem?_cons_succ, hc, hl]
  refine newK_intro fun l1 n1 => ?_
  simp (dsimp := false) (implicitDefEqProofs := false) (maxSteps := 1000000) (disch := first | omega | assumption | (simp only [rL, Nat.reduceAdd]; done) | (simp only [rL, Nat.reduceAdd]; omega)) only [↓rD, rU, ev, ofConst, ofCell, ↓reduceIte, Nat.reduceEqDiff, Nat.reduceAdd, Nat.reduceSub, Nat.reduceMul, Nat.reduceLeDiff, Nat.reduceLT, Int.reduceNeg, Int.reduceToNat, Int.reduceAdd, Int.reduceSub, Int.reduceMul, Int.reduceLT, Int.reduceLE, Int.reduceEq, rX, dg_cells, dg_fold, List.drop_succ_cons, ↓rF, rG, ne_eq, not_true_eq_false, not_false_eq_true, Int.reduceNe, List.getElem?_cons_zero, List.getElem?_cons_succ, hc, hl, Opn.m0]
  refine call_intro (rnumR_spec o.n _) ?_
  rintro x1 s1 h1
  have g1 := h1.1 _ _ (Hp.set_same _ _ _)
  have k1 : slcRA 1 32 s1 (.ptr l1 1) = some (.sl (o.h.map byteAV) .any) := by rw [slcRA_at g1 (by omega)]; exact congrArg (fun z => some (AV.sl z .any)) (Opn.h32 ho)
  simp (dsimp := false) (implicitDefEqProofs := false) (maxSteps := 1000000) (disch := first | omega | assumption | (simp only [rL, Nat.reduceAdd]; done) | (simp only [rL, Nat.reduceAdd]; omega)) only [↓rD, rU, ev, ofConst, ofCell, ↓reduceIte, Nat.reduceEqDiff, Nat.reduceAdd, Nat.reduceSub, Nat.reduceMul, Nat.reduceLeDiff, Nat.reduceLT, Int.reduceNeg, Int.reduceToNat, Int.reduceAdd, Int.reduceSub, Int.reduceMul, Int.reduceLT, Int.reduceLE, Int.reduceEq, rX, dg_cells, dg_fold, List.drop_succ_cons, ↓rF, rG, ne_eq, not_true_eq_false, not_false_eq_true, Int.reduceNe, List.getElem?_cons_zero, List.getElem?_cons_succ, k1]
  refine appB_own h1 srcF_bytes (by simp [numB_length, ho.1]) fun x2 s2 h2 => ?_
  have g2 := h2.1 _ _ (Hp.set_same _ _ _)
  have k2 : slcRA 1 32 s2 (.ptr l1 33) = some (.sl (o.d.map byteAV) .any) := by rw [slcRA_at g2 (by omega)]; exact congrArg (fun z => some (AV.sl z .any)) (Opn.d32 ho)
  simp (dsimp := false) (implicitDefEqProofs := false) (maxSteps := 1000000) (disch := first | omega | assumption | (simp only [rL, Nat.reduceAdd]; done) | (simp only [rL, Nat.reduceAdd]; omega)) only [↓rD, rU, ev, ofConst, ofCell, ↓reduceIte, Nat.reduceEqDiff, Nat.reduceAdd, Nat.reduceSub, Nat.reduceMul, Nat.reduceLeDiff, Nat.reduceLT, Int.reduceNeg, Int.reduceToNat, Int.reduceAdd, Int.reduceSub, Int.reduceMul, Int.reduceLT, Int.reduceLE, Int.reduceEq, rX, dg_cells, dg_fold, List.drop_succ_cons, ↓rF, rG, ne_eq, not_true_eq_false, not_false_eq_true, Int.reduceNe, List.getElem?_cons_zero, List.getElem?_cons_succ, k2]
  refine appB_own h2 srcF_bytes (by simp [numB_length, ho.1, ho.2]) fun x3 s3 h3 => ?_
  simp (dsimp := false) (implicitDefEqProofs := false) (maxSteps := 1000000) (disch := first | omega | assumption | (simp only [rL, Nat.reduceAdd]; done) | (simp only [rL, Nat.reduceAdd]; omega)) only [↓rD, rU, ev, ofConst, ofCell, ↓reduceIte, Nat.reduceEqDiff, Nat.reduceAdd, Nat.reduceSub, Nat.reduceMul, Nat.reduceLeDiff, Nat.reduceLT, Int.reduceNeg, Int.reduceToNat, Int.reduceAdd, Int.reduceSub, Int.reduceMul, Int.reduceLT, Int.reduceLE, Int.reduceEq, rX, dg_cells, dg_fold, List.drop_succ_cons, ↓rF, rG, ne_eq, not_true_eq_false, not_false_eq_true, Int.reduceNe, List.getElem?_cons_zero, List.getElem?_cons_succ]
  exact ⟨_, Hp.sub_refl, h3.base (Hp.sub_new Hp.sub_refl n1)⟩

/-- a document's follower: its cells -/
structure RFw where
  o : Opn
  st : Int
  fk : Bool
  a : Opn
  b : Opn
def RFw.ok (F : RFw) : Prop := F.o.ok ∧ F.a.ok ∧ F.b.ok
def rfC (F : RFw) : List AV := F.o.C ++ ([.v (.int .i64 F.st), .v (.bool F.fk)] ++ (F.a.C ++ F.b.C))
def rsaveB (F : RFw) : List UInt8 := opB F.o ++ numB F.st ++ (if F.fk then 1 :: (opB F.a ++ opB F.b) else [0])
section
variable {F : RFw} (h : F.ok)
include h
theorem rfC_length : (rfC F).length = 197 := by simp [rfC, Opn.lenC h.1, Opn.lenC h.2.1, Opn.lenC h.2.2]
theorem rfC_op : (rfC F).take 65 = F.o.C := by rw [rfC, ← Opn.lenC h.1, List.take_left]
theorem rfC_65 : (rfC F).drop 65 = .v (.int .i64 F.st) :: .v (.bool F.fk) :: (F.a.C ++ F.b.C) := by rw [rfC, ← Opn.lenC h.1, List.drop_left]; rfl
theorem rfC_66 : (rfC F).drop 66 = .v (.bool F.fk) :: (F.a.C ++ F.b.C) := by
  rw [show (66 : Nat) = 65 + 1 from rfl, ← List.drop_drop, rfC_65 h]; rfl
theorem rfC_67 : (rfC F).drop 67 = F.a.C ++ F.b.C := by
  rw [show (67 : Nat) = 65 + 2 from rfl, ← List.drop_drop, rfC_65 h]; rfl
theorem rfC_132 : (rfC F).drop 132 = F.b.C := by
  rw [show (132 : Nat) = 67 + 65 from rfl, ← List.drop_drop, rfC_67 h, ← Opn.lenC h.2.1, List.drop_left]
theorem rfC_a : (F.a.C ++ F.b.C).take 65 = F.a.C := by rw [← Opn.lenC h.2.1, List.take_left]
end

theorem rBytes_spec (s : Hp) (l : Nat) (F : RFw) (hF : F.ok) (hs : s l = some (.cells (rfC F))) :
    AC Try.prog 23 [.ptr l 0] s fun r s' => MO s s' 1 ((rsaveB F).map byteAV) r := by
  have hw := rfC_length hF
  have fb := Opn.fold hF.2.2
  have lo := opB_length hF.1
  have la := opB_length hF.2.1
  have lb := opB_length hF.2.2
  refine AC_run hm prep23 (by simp) ?_
  simp (dsimp := false) (implicitDefEqProofs := false) (maxSteps := 1000000) (disch := first | omega | assumption | (simp only [rL, Nat.reduceAdd]; done) | (simp only [rL, Nat.reduceAdd]; omega)) only [↓rD, rU, ev, ofConst, ofCell, ↓reduceIte, Nat.reduceEqDiff, Nat.reduceAdd, Nat.reduceSub, Nat.reduceMul, Nat.reduceLeDiff, Nat.reduceLT, Int.reduceNeg, Int.reduceToNat, Int.reduceAdd, Int.reduceSub, Int.reduceMul, Int.reduceLT, Int.reduceLE, Int.reduceEq, rX, dg_cells, dg_fold, List.drop_succ_cons, ↓rF, rG, ne_eq, not_true_eq_false, not_false_eq_true, Int.reduceNe, List.getElem?_cons_zero, List.getElem?_cons_succ, Hp.read_of hs, hw, rfC_op hF, rfC_65 hF, Opn.fold']
  refine call_intro (ropR_spec F.o hF.1 s) ?_
  rintro x1 s1 h1
  have g1 := h1.1 _ _ hs
  simp (dsimp := false) (implicitDefEqProofs := false) (maxSteps := 1000000) (disch := first | omega | assumption | (simp only [rL, Nat.reduceAdd]; done) | (simp only [rL, Nat.reduceAdd]; omega)) only [↓rD, rU, ev, ofConst, ofCell, ↓reduceIte, Nat.reduceEqDiff, Nat.reduceAdd, Nat.reduceSub, Nat.reduceMul, Nat.reduceLeDiff, Nat.reduceLT, Int.reduceNeg, Int.reduceToNat, Int.reduceAdd, Int.reduceSub, Int.reduceMul, Int.reduceLT, Int.reduceLE, Int.reduceEq, rX, dg_cells, dg_fold, List.drop_succ_cons, ↓rF, rG, ne_eq, not_true_eq_false, not_false_eq_true, Int.reduceNe, List.getElem?_cons_zero, List.getElem?_cons_succ, Hp.read_of g1, hw, rfC_65 hF]
  refine call_intro (rnumR_spec F.st s1) ?_
  rintro x2 s2 h2
  have h1' := h1.mono h2.1
  obtain ⟨n2, _, e2, _⟩ := h2.src
  simp (dsimp := false) (implicitDefEqProofs := false) (maxSteps := 1000000) (disch := first | omega | assumption | (simp only [rL, Nat.reduceAdd]; done) | (simp only [rL, Nat.reduceAdd]; omega)) only [↓rD, rU, ev, ofConst, ofCell, ↓reduceIte, Nat.reduceEqDiff, Nat.reduceAdd, Nat.reduceSub, Nat.reduceMul, Nat.reduceLeDiff, Nat.reduceLT, Int.reduceNeg, Int.reduceToNat, Int.reduceAdd, Int.reduceSub, Int.reduceMul, Int.reduceLT, Int.reduceLE, Int.reduceEq, rX, dg_cells, dg_fold, List.drop_succ_cons, ↓rF, rG, ne_eq, not_true_eq_false, not_false_eq_true, Int.reduceNe, List.getElem?_cons_zero, List.getElem?_cons_succ]
  refine appB_own h1' e2 (by simp [lo, numB_length]) fun x3 s3 h3 => ?_
  have g3 := h3.1 _ _ hs
  simp (dsimp := false) (implicitDefEqProofs := false) (maxSteps := 1000000) (disch := first | omega | assumption | (simp only [rL, Nat.reduceAdd]; done) | (simp only [rL, Nat.reduceAdd]; omega)) only [↓rD, rU, ev, ofConst, ofCell, ↓reduceIte, Nat.reduceEqDiff, Nat.reduceAdd, Nat.reduceSub, Nat.reduceMul, Nat.reduceLeDiff, Nat.reduceLT, Int.reduceNeg, Int.reduceToNat, Int.reduceAdd, Int.reduceSub, Int.reduceMul, Int.reduceLT, Int.reduceLE, Int.reduceEq, rX, dg_cells, dg_fold, List.drop_succ_cons, ↓rF, rG, ne_eq, not_true_eq_false, not_false_eq_true, Int.reduceNe, List.getElem?_cons_zero, List.getElem?_cons_succ, Hp.read_of g3, hw, rfC_66 hF]
  refine call_intro (rtruthR_spec F.fk s3) ?_
  rintro x4 s4 h4
  have h3' := h3.mono h4.1
  obtain ⟨n4, _, e4, _⟩ := h4.src
  simp (dsimp := false) (implicitDefEqProofs := false) (maxSteps := 1000000) (disch := first | omega | assumption | (simp only [rL, Nat.reduceAdd]; done) | (simp only [rL, Nat.reduceAdd]; omega)) only [↓rD, rU, ev, ofConst, ofCell, ↓reduceIte, Nat.reduceEqDiff, Nat.reduceAdd, Nat.reduceSub, Nat.reduceMul, Nat.reduceLeDiff, Nat.reduceLT, Int.reduceNeg, Int.reduceToNat, Int.reduceAdd, Int.reduceSub, Int.reduceMul, Int.reduceLT, Int.reduceLE, Int.reduceEq, rX, dg_cells, dg_fold, List.drop_succ_cons, ↓rF, rG, ne_eq, not_true_eq_false, not_false_eq_true, Int.reduceNe, List.getElem?_cons_zero, List.getElem?_cons_succ]
  refine appB_own h3' e4 (by simp [lo, numB_length]) fun x5 s5 h5 => ?_
  have g5 := h5.1 _ _ hs
  cases hk : F.fk
  · rw [hk] at h5
    simp (dsimp := false) (implicitDefEqProofs := false) (maxSteps := 1000000) (disch := first | omega | assumption | (simp only [rL, Nat.reduceAdd]; done) | (simp only [rL, Nat.reduceAdd]; omega)) only [↓rD, rU, ev, ofConst, ofCell, ↓reduceIte, Nat.reduceEqDiff, Nat.reduceAdd, Nat.reduceSub, Nat.reduceMul, Nat.reduceLeDiff, Nat.reduceLT, Int.reduceNeg, Int.reduceToNat, Int.reduceAdd, Int.reduceSub, Int.reduceMul, Int.reduceLT, Int.reduceLE, Int.reduceEq, rX, dg_cells, dg_fold, List.drop_succ_cons, ↓rF, rG, ne_eq, not_true_eq_false, not_false_eq_true, Int.reduceNe, List.getElem?_cons_zero, List.getElem?_cons_succ, Hp.read_of g5, hw, rfC_66 hF, hk]
    have e : rsaveB F = opB F.o ++ numB F.st ++ [if false = true then 1 else 0] := by rw [rsaveB, hk]; rfl
    rw [e]
    exact ⟨_, Hp.sub_refl, h5⟩
  · rw [hk] at h5
    simp (dsimp := false) (implicitDefEqProofs := false) (maxSteps := 1000000) (disch := first | omega | assumption | (simp only [rL, Nat.reduceAdd]; done) | (simp only [rL, Nat.reduceAdd]; omega)) only [↓rD, rU, ev, ofConst, ofCell, ↓reduceIte, Nat.reduceEqDiff, Nat.reduceAdd, Nat.reduceSub, Nat.reduceMul, Nat.reduceLeDiff, Nat.reduceLT, Int.reduceNeg, Int.reduceToNat, Int.reduceAdd, Int.reduceSub, Int.reduceMul, Int.reduceLT, Int.reduceLE, Int.reduceEq, rX, dg_cells, dg_fold, List.drop_succ_cons, ↓rF, rG, ne_eq, not_true_eq_false, not_false_eq_true, Int.reduceNe, List.getElem?_cons_zero, List.getElem?_cons_succ, Hp.read_of g5, hw, rfC_66 hF, rfC_67 hF, rfC_a hF, Opn.fold', hk]
    refine call_intro (ropR_spec F.a hF.2.1 s5) ?_
    rintro x6 s6 h6
    have h5' := h5.mono h6.1
    obtain ⟨n6, _, e6, _⟩ := h6.src
    simp (dsimp := false) (implicitDefEqProofs := false) (maxSteps := 1000000) (disch := first | omega | assumption | (simp only [rL, Nat.reduceAdd]; done) | (simp only [rL, Nat.reduceAdd]; omega)) only [↓rD, rU, ev, ofConst, ofCell, ↓reduceIte, Nat.reduceEqDiff, Nat.reduceAdd, Nat.reduceSub, Nat.reduceMul, Nat.reduceLeDiff, Nat.reduceLT, Int.reduceNeg, Int.reduceToNat, Int.reduceAdd, Int.reduceSub, Int.reduceMul, Int.reduceLT, Int.reduceLE, Int.reduceEq, rX, dg_cells, dg_fold, List.drop_succ_cons, ↓rF, rG, ne_eq, not_true_eq_false, not_false_eq_true, Int.reduceNe, List.getElem?_cons_zero, List.getElem?_cons_succ]
    refine appB_own h5' e6 (by simp [lo, la, numB_length]) fun x7 s7 h7 => ?_
    have g7 := h7.1 _ _ hs
    simp (dsimp := false) (implicitDefEqProofs := false) (maxSteps := 1000000) (disch := first | omega | assumption | (simp only [rL, Nat.reduceAdd]; done) | (simp only [rL, Nat.reduceAdd]; omega)) only [↓rD, rU, ev, ofConst, ofCell, ↓reduceIte, Nat.reduceEqDiff, Nat.reduceAdd, Nat.reduceSub, Nat.reduceMul, Nat.reduceLeDiff, Nat.reduceLT, Int.reduceNeg, Int.reduceToNat, Int.reduceAdd, Int.reduceSub, Int.reduceMul, Int.reduceLT, Int.reduceLE, Int.reduceEq, rX, dg_cells, dg_fold, List.drop_succ_cons, ↓rF, rG, ne_eq, not_true_eq_false, not_false_eq_true, Int.reduceNe, List.getElem?_cons_zero, List.getElem?_cons_succ, Hp.read_of g7, hw, rfC_132 hF, fb]
    refine call_intro (ropR_spec F.b hF.2.2 s7) ?_
    rintro x8 s8 h8
    have h7' := h7.mono h8.1
    obtain ⟨n8, _, e8, _⟩ := h8.src
    simp (dsimp := false) (implicitDefEqProofs := false) (maxSteps := 1000000) (disch := first | omega | assumption | (simp only [rL, Nat.reduceAdd]; done) | (simp only [rL, Nat.reduceAdd]; omega)) only [↓rD, rU, ev, ofConst, ofCell, ↓reduceIte, Nat.reduceEqDiff, Nat.reduceAdd, Nat.reduceSub, Nat.reduceMul, Nat.reduceLeDiff, Nat.reduceLT, Int.reduceNeg, Int.reduceToNat, Int.reduceAdd, Int.reduceSub, Int.reduceMul, Int.reduceLT, Int.reduceLE, Int.reduceEq, rX, dg_cells, dg_fold, List.drop_succ_cons, ↓rF, rG, ne_eq, not_true_eq_false, not_false_eq_true, Int.reduceNe, List.getElem?_cons_zero, List.getElem?_cons_succ]
    refine appB_own h7' e8 (by simp [lo, la, lb, numB_length]) fun x9 s9 h9 => ?_
    simp (dsimp := false) (implicitDefEqProofs := false) (maxSteps := 1000000) (disch := first | omega | assumption | (simp only [rL, Nat.reduceAdd]; done) | (simp only [rL, Nat.reduceAdd]; omega)) only [↓rD, rU, ev, ofConst, ofCell, ↓reduceIte, Nat.reduceEqDiff, Nat.reduceAdd, Nat.reduceSub, Nat.reduceMul, Nat.reduceLeDiff, Nat.reduceLT, Int.reduceNeg, Int.reduceToNat, Int.reduceAdd, Int.reduceSub, Int.reduceMul, Int.reduceLT, Int.reduceLE, Int.reduceEq, rX, dg_cells, dg_fold, List.drop_succ_cons, ↓rF, rG, ne_eq, not_true_eq_false, not_false_eq_true, Int.reduceNe, List.getElem?_cons_zero, List.getElem?_cons_succ]
    have e : rsaveB F = opB F.o ++ numB F.st ++ [if true = true then 1 else 0] ++ opB F.a ++ opB F.b := by rw [rsaveB, hk]; simp
    rw [e]
    exact ⟨_, Hp.sub_refl, h9⟩
end Go.Proofs.Ytapjikladjoicaa
/-
  codec.Reader: parts are read.
-/
set_option maxRecDepth 100000
namespace Go.Proofs.Ytapjikladjoicaa
open Go Go.Av

structure Rd where
  b : List UInt8
  e : Int
def RC (r : Rd) (ow : Own) : Ob := .cells [.sl (r.b.map byteAV) ow, .v (.int .i64 r.e)]
/-- a reader at l -/
def RS (s0 : Hp) (l : Nat) (r : Rd) (s : Hp) : Prop := ∃ ow, (s0.set l (RC r ow)).sub s
theorem RS.cell {s0 s : Hp} {l : Nat} {r : Rd} (h : RS s0 l r s) : ∃ ow, s l = some (.cells [.sl (r.b.map byteAV) ow, .v (.int .i64 r.e)]) := by
  obtain ⟨ow, h⟩ := h; exact ⟨ow, h _ _ (Hp.set_same _ _ _)⟩
theorem RS.mono {s0 s s' : Hp} {l : Nat} {r : Rd} (h : RS s0 l r s) (hs : s.sub s') : RS s0 l r s' := by
  obtain ⟨ow, h⟩ := h; exact ⟨ow, Hp.sub_trans h hs⟩
theorem RS.base {s0 s1 s : Hp} {l : Nat} {r : Rd} (h : RS s0 l r s) (hs : s1.sub s0) : RS s1 l r s := by
  obtain ⟨ow, h⟩ := h; exact ⟨ow, Hp.sub_trans (Hp.sub_set hs) h⟩
theorem RS.sub {s0 s : Hp} {l : Nat} {r : Rd} (h : RS s0 l r s) (h0 : s0 l = none) : s0.sub s := by
  obtain ⟨ow, h⟩ := h; exact Hp.sub_trans (Hp.sub_new Hp.sub_refl h0) h
theorem RS.set {s0 s : Hp} {l : Nat} {r : Rd} (h : RS s0 l r s) (r' : Rd) (ow : Own) : RS s0 l r' (s.set l (RC r' ow)) := by
  obtain ⟨ow', h⟩ := h; exact ⟨ow, Hp.sub_set_of h⟩
theorem RS.get {s0 s : Hp} {l l2 : Nat} {r : Rd} {ob : Ob} (h : RS s0 l r s) (hne : l2 ≠ l) (h2 : s0 l2 = some ob) : s l2 = some ob := by
  obtain ⟨ow, h⟩ := h; exact h _ _ (by rw [Hp.set_ne _ _ hne]; exact h2)
theorem RS.new {s0 s : Hp} {l l2 : Nat} {r : Rd} {ob : Ob} (h : RS s0 l r s) (h2 : s l2 = none) : l2 ≠ l ∧ s0 l2 = none ∧ RS (s0.set l2 ob) l r (s.set l2 ob) := by
  obtain ⟨ow, hc⟩ := h.cell
  have hne : l2 ≠ l := by rintro rfl; rw [h2] at hc; cases hc
  obtain ⟨ow, h⟩ := h
  have h0 := Hp.sub_none h h2
  rw [Hp.set_ne _ _ hne] at h0
  refine ⟨hne, h0, ow, ?_⟩
  rw [Hp.set_set_comm _ hne]
  exact Hp.sub_set h
/-- other objects are written -/
theorem RS.other {s0 s : Hp} {l l2 : Nat} {r : Rd} {ob : Ob} (h : RS s0 l r s) (hne : l2 ≠ l) : RS (s0.set l2 ob) l r (s.set l2 ob) := by
  obtain ⟨ow, h⟩ := h
  refine ⟨ow, ?_⟩
  rw [Hp.set_set_comm _ hne]
  exact Hp.sub_set h

theorem New_spec (bs : List UInt8) (o : Own) (s : Hp) (ho : o = .nil → bs = []) (hb : bs.length ≤ 70368744177664) :
    AC Try.prog 39 [.sl (bs.map byteAV) o] s fun r s' => ∃ l, s l = none ∧ r = .ptr l 0 ∧ RS s l ⟨bs, 0⟩ s' := by
  refine AC_run hm prep39 (by simp) ?_
  simp (dsimp := false) (implicitDefEqProofs := false) (maxSteps := 1000000) (disch := first | omega | assumption | (simp only [rL, Nat.reduceAdd]; done) | (simp only [rL, Nat.reduceAdd]; omega)) only [↓rD, rU, ev, ofConst, ofCell, ↓reduceIte, Nat.reduceEqDiff, Nat.reduceAdd, Nat.reduceSub, Nat.reduceMul, Nat.reduceLeDiff, Nat.reduceLT, Int.reduceNeg, Int.reduceToNat, Int.reduceAdd, Int.reduceSub, Int.reduceMul, Int.reduceLT, Int.reduceLE, Int.reduceEq, rX, dg_cells, dg_fold, List.drop_succ_cons, ↓rF, rG]
  refine call_intro (clone_spec bs o s ho hb) ?_
  rintro _ s1 ⟨o1, h1, rfl⟩
  have e : putAt [AV.sl [] Own.nil, AV.v (Value.int IntKind.i64 0)] 0 [AV.sl (bs.map byteAV) o1] = [AV.sl (bs.map byteAV) o1, AV.v (Value.int IntKind.i64 0)] := rfl
  simp (dsimp := false) (implicitDefEqProofs := false) (maxSteps := 1000000) (disch := first | omega | assumption | (simp only [rL, Nat.reduceAdd]; done) | (simp only [rL, Nat.reduceAdd]; omega)) only [↓rD, rU, ev, ofConst, ofCell, ↓reduceIte, Nat.reduceEqDiff, Nat.reduceAdd, Nat.reduceSub, Nat.reduceMul, Nat.reduceLeDiff, Nat.reduceLT, Int.reduceNeg, Int.reduceToNat, Int.reduceAdd, Int.reduceSub, Int.reduceMul, Int.reduceLT, Int.reduceLE, Int.reduceEq, rX, dg_cells, dg_fold, List.drop_succ_cons, ↓rF, rG, e]
  refine newK_intro fun l6 n6 => ?_
  simp (dsimp := false) (implicitDefEqProofs := false) (maxSteps := 1000000) (disch := first | omega | assumption | (simp only [rL, Nat.reduceAdd]; done) | (simp only [rL, Nat.reduceAdd]; omega)) only [↓rD, rU, ev, ofConst, ofCell, ↓reduceIte, Nat.reduceEqDiff, Nat.reduceAdd, Nat.reduceSub, Nat.reduceMul, Nat.reduceLeDiff, Nat.reduceLT, Int.reduceNeg, Int.reduceToNat, Int.reduceAdd, Int.reduceSub, Int.reduceMul, Int.reduceLT, Int.reduceLE, Int.reduceEq, rX, dg_cells, dg_fold, List.drop_succ_cons, ↓rF, rG, e]
  exact ⟨_, Hp.sub_refl, l6, Hp.sub_none h1.sub n6, rfl, o1, Hp.sub_set h1.sub⟩

def failF (r : Rd) (e : Int) : Rd := if r.e = 0 then { r with e := e } else r
theorem put_rd1 {a b c : AV} : putAt [a, b] 1 [c] = [a, c] := rfl
theorem put_rd0 {a b c : AV} : putAt [a, b] 0 [c] = [c, b] := rfl

theorem fail_spec (s0 s : Hp) (l : Nat) (r : Rd) (e : Int) (h : RS s0 l r s) :
    AC Try.prog 72 [.ptr l 0, .v (.int .i64 e)] s fun _ s' => RS s0 l (failF r e) s' := by
  obtain ⟨ow, g⟩ := h.cell
  refine AC_run hm prep72 (by simp) ?_
  by_cases c : r.e = 0
  · simp (dsimp := false) (implicitDefEqProofs := false) (maxSteps := 1000000) (disch := first | omega | assumption | (simp only [rL, Nat.reduceAdd]; done) | (simp only [rL, Nat.reduceAdd]; omega)) only [↓rD, rU, ev, ofConst, ofCell, ↓reduceIte, Nat.reduceEqDiff, Nat.reduceAdd, Nat.reduceSub, Nat.reduceMul, Nat.reduceLeDiff, Nat.reduceLT, Int.reduceNeg, Int.reduceToNat, Int.reduceAdd, Int.reduceSub, Int.reduceMul, Int.reduceLT, Int.reduceLE, Int.reduceEq, rX, dg_cells, dg_fold, List.drop_succ_cons, ↓rF, rG, Hp.read_of g, Hp.stA_of g, c, put_rd1]
    refine ⟨_, Hp.sub_refl, ?_⟩
    rw [failF, if_pos c]
    exact h.set { r with e := e } ow
  · simp (dsimp := false) (implicitDefEqProofs := false) (maxSteps := 1000000) (disch := first | omega | assumption | (simp only [rL, Nat.reduceAdd]; done) | (simp only [rL, Nat.reduceAdd]; omega)) only [↓rD, rU, ev, ofConst, ofCell, ↓reduceIte, Nat.reduceEqDiff, Nat.reduceAdd, Nat.reduceSub, Nat.reduceMul, Nat.reduceLeDiff, Nat.reduceLT, Int.reduceNeg, Int.reduceToNat, Int.reduceAdd, Int.reduceSub, Int.reduceMul, Int.reduceLT, Int.reduceLE, Int.reduceEq, rX, dg_cells, dg_fold, List.drop_succ_cons, ↓rF, rG, Hp.read_of g, c]
    refine ⟨_, Hp.sub_refl, ?_⟩
    rw [failF, if_neg c]; exact h

def takeR (r : Rd) (n : Nat) : Option (List UInt8) × Rd :=
  if r.e = 0 then (if r.b.length < n then (none, { r with e := 20 }) else (some (r.b.take n), { r with b := r.b.drop n })) else (none, r)

theorem rtake_spec (s0 s : Hp) (l : Nat) (r : Rd) (n : Nat) (hn : n ≤ 1000000) (h : RS s0 l r s) :
    AC Try.prog 70 [.ptr l 0, .v (.int .i64 n)] s fun x s' => RS s0 l (takeR r n).2 s' ∧
      (∃ ow, x = .tup [.sl (((takeR r n).1.getD []).map byteAV) ow, .v (.bool (takeR r n).1.isSome)]) := by
  obtain ⟨ow, g⟩ := h.cell
  refine AC_run hm prep70 (by simp) ?_
  by_cases c : r.e = 0
  · by_cases c2 : r.b.length < n
    · have c2' : (r.b.length : Int) < n := by omega
      have e : takeR r n = (none, { r with e := 20 }) := by rw [takeR, if_pos c, if_pos c2]
      rw [e]
      simp (dsimp := false) (implicitDefEqProofs := false) (maxSteps := 1000000) (disch := first | omega | assumption | (simp only [rL, Nat.reduceAdd]; done) | (simp only [rL, Nat.reduceAdd]; omega)) only [↓rD, rU, ev, ofConst, ofCell, ↓reduceIte, Nat.reduceEqDiff, Nat.reduceAdd, Nat.reduceSub, Nat.reduceMul, Nat.reduceLeDiff, Nat.reduceLT, Int.reduceNeg, Int.reduceToNat, Int.reduceAdd, Int.reduceSub, Int.reduceMul, Int.reduceLT, Int.reduceLE, Int.reduceEq, rX, dg_cells, dg_fold, List.drop_succ_cons, ↓rF, rG, ne_eq, not_true_eq_false, not_false_eq_true, Int.reduceNe, List.getElem?_cons_zero, List.getElem?_cons_succ, Hp.read_of g, c, c2']
      refine call_intro (fail_spec s0 s l r 20 h) ?_
      intro x s1 h1
      rw [failF, if_pos c] at h1
      obtain ⟨ow1, g1⟩ := h1.cell
      simp (dsimp := false) (implicitDefEqProofs := false) (maxSteps := 1000000) (disch := first | omega | assumption | (simp only [rL, Nat.reduceAdd]; done) | (simp only [rL, Nat.reduceAdd]; omega)) only [↓rD, rU, ev, ofConst, ofCell, ↓reduceIte, Nat.reduceEqDiff, Nat.reduceAdd, Nat.reduceSub, Nat.reduceMul, Nat.reduceLeDiff, Nat.reduceLT, Int.reduceNeg, Int.reduceToNat, Int.reduceAdd, Int.reduceSub, Int.reduceMul, Int.reduceLT, Int.reduceLE, Int.reduceEq, rX, dg_cells, dg_fold, List.drop_succ_cons, ↓rF, rG, ne_eq, not_true_eq_false, not_false_eq_true, Int.reduceNe, List.getElem?_cons_zero, List.getElem?_cons_succ, Hp.read_of g1]
      exact ⟨_, Hp.sub_refl, h1, .nil, rfl⟩
    · have c2' : ¬ (r.b.length : Int) < n := by omega
      have e : takeR r n = (some (r.b.take n), { r with b := r.b.drop n }) := by rw [takeR, if_pos c, if_neg c2]
      rw [e]
      simp (dsimp := false) (implicitDefEqProofs := false) (maxSteps := 1000000) (disch := first | omega | assumption | (simp only [rL, Nat.reduceAdd]; done) | (simp only [rL, Nat.reduceAdd]; omega)) only [↓rD, rU, ev, ofConst, ofCell, ↓reduceIte, Nat.reduceEqDiff, Nat.reduceAdd, Nat.reduceSub, Nat.reduceMul, Nat.reduceLeDiff, Nat.reduceLT, Int.reduceNeg, Int.reduceToNat, Int.reduceAdd, Int.reduceSub, Int.reduceMul, Int.reduceLT, Int.reduceLE, Int.reduceEq, rX, dg_cells, dg_fold, List.drop_succ_cons, ↓rF, rG, ne_eq, not_true_eq_false, not_false_eq_true, Int.reduceNe, List.getElem?_cons_zero, List.getElem?_cons_succ, Hp.read_of g, Hp.stA_of g, c, c2', put_rd0]
      exact ⟨_, Hp.sub_refl, h.set ⟨r.b.drop n, 0⟩ .any, .any, rfl⟩
  · have e : takeR r n = (none, r) := by rw [takeR, if_neg c]
    rw [e]
    simp (dsimp := false) (implicitDefEqProofs := false) (maxSteps := 1000000) (disch := first | omega | assumption | (simp only [rL, Nat.reduceAdd]; done) | (simp only [rL, Nat.reduceAdd]; omega)) only [↓rD, rU, ev, ofConst, ofCell, ↓reduceIte, Nat.reduceEqDiff, Nat.reduceAdd, Nat.reduceSub, Nat.reduceMul, Nat.reduceLeDiff, Nat.reduceLT, Int.reduceNeg, Int.reduceToNat, Int.reduceAdd, Int.reduceSub, Int.reduceMul, Int.reduceLT, Int.reduceLE, Int.reduceEq, rX, dg_cells, dg_fold, List.drop_succ_cons, ↓rF, rG, ne_eq, not_true_eq_false, not_false_eq_true, Int.reduceNe, List.getElem?_cons_zero, List.getElem?_cons_succ, Hp.read_of g, c]
    exact ⟨_, Hp.sub_refl, h, .nil, rfl⟩

def byteR (r : Rd) : UInt8 × Rd := ((takeR r 1).1.getD [] |>.headD 0, (takeR r 1).2)
theorem takeR_len {r : Rd} {n : Nat} {bs : List UInt8} (h : (takeR r n).1 = some bs) : bs.length = n := by
  unfold takeR at h
  split at h
  · split at h
    · cases h
    · simp only [Option.some.injEq] at h
      subst h; rw [List.length_take]; omega
  · cases h

theorem rbyte_spec (s0 s : Hp) (l : Nat) (r : Rd) (h : RS s0 l r s) :
    AC Try.prog 71 [.ptr l 0] s fun x s' => RS s0 l (byteR r).2 s' ∧ x = .v (.int .u8 (byteR r).1.toNat) := by
  refine AC_run hm prep71 (by simp) ?_
  simp (dsimp := false) (implicitDefEqProofs := false) (maxSteps := 1000000) (disch := first | omega | assumption | (simp only [rL, Nat.reduceAdd]; done) | (simp only [rL, Nat.reduceAdd]; omega)) only [↓rD, rU, ev, ofConst, ofCell, ↓reduceIte, Nat.reduceEqDiff, Nat.reduceAdd, Nat.reduceSub, Nat.reduceMul, Nat.reduceLeDiff, Nat.reduceLT, Int.reduceNeg, Int.reduceToNat, Int.reduceAdd, Int.reduceSub, Int.reduceMul, Int.reduceLT, Int.reduceLE, Int.reduceEq, rX, dg_cells, dg_fold, List.drop_succ_cons, ↓rF, rG, ne_eq, not_true_eq_false, not_false_eq_true, Int.reduceNe, List.getElem?_cons_zero, List.getElem?_cons_succ]
  refine call_intro (rtake_spec s0 s l r 1 (by omega) h) ?_
  rintro x s1 ⟨h1, ow, rfl⟩
  unfold byteR
  have hl := fun bs => takeR_len (r := r) (n := 1) (bs := bs)
  generalize takeR r 1 = t at *
  obtain ⟨bs, r1⟩ := t
  cases bs with
  | none =>
    simp only [Option.isSome_none, Option.getD_none] at *
    simp (dsimp := false) (implicitDefEqProofs := false) (maxSteps := 1000000) (disch := first | omega | assumption | (simp only [rL, Nat.reduceAdd]; done) | (simp only [rL, Nat.reduceAdd]; omega)) only [↓rD, rU, ev, ofConst, ofCell, ↓reduceIte, Nat.reduceEqDiff, Nat.reduceAdd, Nat.reduceSub, Nat.reduceMul, Nat.reduceLeDiff, Nat.reduceLT, Int.reduceNeg, Int.reduceToNat, Int.reduceAdd, Int.reduceSub, Int.reduceMul, Int.reduceLT, Int.reduceLE, Int.reduceEq, rX, dg_cells, dg_fold, List.drop_succ_cons, ↓rF, rG, ne_eq, not_true_eq_false, not_false_eq_true, Int.reduceNe, List.getElem?_cons_zero, List.getElem?_cons_succ]
    exact ⟨_, Hp.sub_refl, h1, rfl⟩
  | some bs =>
    simp only [Option.isSome_some, Option.getD_some] at *
    have hl := hl bs rfl
    match bs, hl with
    | [b], _ =>
      have e : elA 1 (some (byteAV b)) = some (.rptr [.v (.int .u8 b.toNat)]) := rfl
      simp (dsimp := false) (implicitDefEqProofs := false) (maxSteps := 1000000) (disch := first | omega | assumption | (simp only [rL, Nat.reduceAdd]; done) | (simp only [rL, Nat.reduceAdd]; omega)) only [iaSA_sl, e, ↓rD, rU, ev, ofConst, ofCell, ↓reduceIte, Nat.reduceEqDiff, Nat.reduceAdd, Nat.reduceSub, Nat.reduceMul, Nat.reduceLeDiff, Nat.reduceLT, Int.reduceNeg, Int.reduceToNat, Int.reduceAdd, Int.reduceSub, Int.reduceMul, Int.reduceLT, Int.reduceLE, Int.reduceEq, rX, dg_cells, dg_fold, List.drop_succ_cons, ↓rF, rG, ne_eq, not_true_eq_false, not_false_eq_true, Int.reduceNe, List.getElem?_cons_zero, List.getElem?_cons_succ, List.headD_cons]
      exact ⟨_, Hp.sub_refl, h1⟩

/-- the number that these bytes say -/
def beN (bs : List UInt8) : Nat := bs.foldl (fun u b => u * 256 + b.toNat) 0
def numR (r : Rd) : Int × Rd :=
  match (takeR r 8).1 with
  | none => (0, (takeR r 8).2)
  | some bs => ((BitVec.ofNat 64 (beN bs) ^^^ 9223372036854775808#64).toInt, (takeR r 8).2)
theorem beN_le : ∀ (bs : List UInt8) (u : Nat), bs.foldl (fun u b => u * 256 + b.toNat) u + 1 ≤ (u + 1) * 256 ^ bs.length
  | [], u => by simp
  | b :: bs, u => by
    have h := beN_le bs (u * 256 + b.toNat)
    have hb := b.toNat_lt
    rw [List.foldl_cons, List.length_cons, Nat.pow_succ]
    refine Nat.le_trans h ?_
    rw [Nat.mul_comm (256 ^ bs.length) 256, ← Nat.mul_assoc]
    exact Nat.mul_le_mul_right _ (by omega)
theorem beN_lt (bs : List UInt8) : beN bs < 256 ^ bs.length := by
  have := beN_le bs 0
  rw [beN]; omega
theorem beN_take (bs : List UInt8) (j : Nat) (h : j < bs.length) : beN (bs.take (j + 1)) = beN (bs.take j) * 256 + (bs.getD j 0).toNat := by
  rw [List.take_succ, List.getElem?_eq_getElem h, beN, List.foldl_append]
  simp [beN, List.getD, h]
theorem or_u64 (a b : Nat) (ha : a < 18446744073709551616) (hb : b < 18446744073709551616) : binV .or (.int .u64 a) (.int .u64 b) = some (.int .u64 ((a ||| b : Nat) : Int)) := by
  have h : binV .or (.int .u64 a) (.int .u64 b) = some (.int .u64 (IntKind.u64.wrap (BitVec.ofInt 64 (a : Int) ||| BitVec.ofInt 64 (b : Int)).toNat)) := rfl
  have hlt := (BitVec.ofInt 64 (a : Int) ||| BitVec.ofInt 64 (b : Int)).isLt
  rw [h, wrap_u64 (by omega) (by omega), BitVec.toNat_or, BitVec.ofInt_natCast, BitVec.ofInt_natCast, BitVec.toNat_ofNat, BitVec.toNat_ofNat, Nat.mod_eq_of_lt ha, Nat.mod_eq_of_lt hb]
theorem or_byte (u b : Nat) (hb : b < 256) : u * 256 ||| b = u * 256 + b := by
  have h := Nat.shiftLeft_add_eq_or_of_lt (i := 8) (b := b) (by omega) u
  rw [Nat.shiftLeft_eq] at h
  exact h.symm
theorem shl_u64_8 (a : Nat) (ha : a < 72057594037927936) : binV .shl (.int .u64 a) (.int .u64 8) = some (.int .u64 ((a * 256 : Nat) : Int)) := by
  have h : binV .shl (.int .u64 a) (.int .u64 8) = some (.int .u64 (IntKind.u64.wrap ((a : Int) * 2 ^ 8))) := rfl
  rw [h, wrap_u64 (by omega) (by omega)]
  simp
theorem xor_top (a : Nat) (ha : a < 18446744073709551616) : binV .xor (.int .u64 a) (.int .u64 9223372036854775808) = some (.int .u64 ((BitVec.ofNat 64 a ^^^ 9223372036854775808#64).toNat : Int)) := by
  have h : binV .xor (.int .u64 a) (.int .u64 9223372036854775808) = some (.int .u64 (IntKind.u64.wrap (BitVec.ofInt 64 (a : Int) ^^^ BitVec.ofInt 64 9223372036854775808).toNat)) := rfl
  have hlt := (BitVec.ofNat 64 a ^^^ 9223372036854775808#64).isLt
  have e : BitVec.ofInt 64 9223372036854775808 = 9223372036854775808#64 := by decide
  rw [h, BitVec.ofInt_natCast, e, wrap_u64 (by omega) (by omega)]
theorem wrap_i64_bv (x : BitVec 64) : IntKind.i64.wrap (x.toNat : Int) = x.toInt := by
  have e1 : ((2 : Int) ^ IntKind.i64.bits) = 18446744073709551616 := rfl
  have e2 : ((2 : Int) ^ (IntKind.i64.bits - 1)) = 9223372036854775808 := rfl
  have hlt := x.isLt
  simp only [IntKind.wrap, e1, e2, IntKind.signed, Bool.true_and, decide_eq_true_eq, BitVec.toInt_eq_toNat_cond]
  have : (x.toNat : Int) % 18446744073709551616 = x.toNat := by omega
  rw [this]
  split <;> split <;> omega

theorem rnum_spec (s0 s : Hp) (l : Nat) (r : Rd) (h : RS s0 l r s) :
    AC Try.prog 41 [.ptr l 0] s fun x s' => RS s0 l (numR r).2 s' ∧ x = .v (.int .i64 (numR r).1) := by
  refine AC_run hm prep41 (by simp) ?_
  simp (dsimp := false) (implicitDefEqProofs := false) (maxSteps := 1000000) (disch := first | omega | assumption | (simp only [rL, Nat.reduceAdd]; done) | (simp only [rL, Nat.reduceAdd]; omega)) only [↓rD, rU, ev, ofConst, ofCell, ↓reduceIte, Nat.reduceEqDiff, Nat.reduceAdd, Nat.reduceSub, Nat.reduceMul, Nat.reduceLeDiff, Nat.reduceLT, Int.reduceNeg, Int.reduceToNat, Int.reduceAdd, Int.reduceSub, Int.reduceMul, Int.reduceLT, Int.reduceLE, Int.reduceEq, rX, dg_cells, dg_fold, List.drop_succ_cons, ↓rF, rG, ne_eq, not_true_eq_false, not_false_eq_true, Int.reduceNe, List.getElem?_cons_zero, List.getElem?_cons_succ]
  refine call_intro (rtake_spec s0 s l r 8 (by omega) h) ?_
  rintro x s1 ⟨h1, ow, rfl⟩
  unfold numR
  have hl := fun bs => takeR_len (r := r) (n := 8) (bs := bs)
  generalize takeR r 8 = t at *
  obtain ⟨bs, r1⟩ := t
  cases bs with
  | none =>
    simp only [Option.isSome_none, Option.getD_none] at *
    simp (dsimp := false) (implicitDefEqProofs := false) (maxSteps := 1000000) (disch := first | omega | assumption | (simp only [rL, Nat.reduceAdd]; done) | (simp only [rL, Nat.reduceAdd]; omega)) only [↓rD, rU, ev, ofConst, ofCell, ↓reduceIte, Nat.reduceEqDiff, Nat.reduceAdd, Nat.reduceSub, Nat.reduceMul, Nat.reduceLeDiff, Nat.reduceLT, Int.reduceNeg, Int.reduceToNat, Int.reduceAdd, Int.reduceSub, Int.reduceMul, Int.reduceLT, Int.reduceLE, Int.reduceEq, rX, dg_cells, dg_fold, List.drop_succ_cons, ↓rF, rG, ne_eq, not_true_eq_false, not_false_eq_true, Int.reduceNe, List.getElem?_cons_zero, List.getElem?_cons_succ]
    exact ⟨_, Hp.sub_refl, h1⟩
  | some bs =>
    simp only [Option.isSome_some, Option.getD_some] at *
    have hl := hl bs rfl
    simp (dsimp := false) (implicitDefEqProofs := false) (maxSteps := 1000000) (disch := first | omega | assumption | (simp only [rL, Nat.reduceAdd]; done) | (simp only [rL, Nat.reduceAdd]; omega)) only [↓rD, rU, ev, ofConst, ofCell, ↓reduceIte, Nat.reduceEqDiff, Nat.reduceAdd, Nat.reduceSub, Nat.reduceMul, Nat.reduceLeDiff, Nat.reduceLT, Int.reduceNeg, Int.reduceToNat, Int.reduceAdd, Int.reduceSub, Int.reduceMul, Int.reduceLT, Int.reduceLE, Int.reduceEq, rX, dg_cells, dg_fold, List.drop_succ_cons, ↓rF, rG, ne_eq, not_true_eq_false, not_false_eq_true, Int.reduceNe, List.getElem?_cons_zero, List.getElem?_cons_succ]
    refine loop_intro (fun f s' => ∃ j : Nat, j ≤ 8 ∧ s' = s1 ∧ f 15 = .sl (bs.map byteAV) ow ∧ f 16 = .v (.int .i64 bs.length) ∧ f 17 = .v (.int .i64 j) ∧ f 5 = .v (.int .u64 (beN (bs.take j))))
      (fun f _ => match f 17 with | .v (.int _ n) => (8 - n).toNat | _ => 0) ⟨0, by omega, rfl, ?_⟩ ?_
    · simp (dsimp := false) (implicitDefEqProofs := false) (maxSteps := 1000000) (disch := first | omega | assumption | (simp only [rL, Nat.reduceAdd]; done) | (simp only [rL, Nat.reduceAdd]; omega)) only [↓rD, rU, ev, ofConst, ofCell, ↓reduceIte, Nat.reduceEqDiff, Nat.reduceAdd, Nat.reduceSub, Nat.reduceMul, Nat.reduceLeDiff, Nat.reduceLT, Int.reduceNeg, Int.reduceToNat, Int.reduceAdd, Int.reduceSub, Int.reduceMul, Int.reduceLT, Int.reduceLE, Int.reduceEq, rX, dg_cells, dg_fold, List.drop_succ_cons, ↓rF, rG, ne_eq, not_true_eq_false, not_false_eq_true, Int.reduceNe, List.getElem?_cons_zero, List.getElem?_cons_succ, List.take_zero]
      rfl
    · rintro f sA ⟨j, hj, rfl, f15, f16, f17, f5⟩
      have hb := beN_lt (bs.take j)
      rw [List.length_take] at hb
      by_cases hlt : (j : Int) < bs.length
      · have hj' : j < bs.length := by omega
        have hpow : beN (bs.take j) < 72057594037927936 := by
          refine Nat.lt_of_lt_of_le hb ?_
          refine Nat.le_trans (Nat.pow_le_pow_right (n := 256) (i := min j bs.length) (j := 7) (by omega) (by omega)) (by decide)
        have hel := getB (bs := bs) hj'
        have hbj := beN_take bs j hj'
        generalize hB : bs.getD j 0 = B at *
        have hBl := B.toNat_lt
        have hw : IntKind.u64.wrap (B.toNat : Int) = B.toNat := wrap_u64 (by omega) (by omega)
        generalize beN (bs.take j) = u at *
        have hor : binV .or (.int .u64 ((u * 256 : Nat) : Int)) (.int .u64 (B.toNat : Int)) = some (.int .u64 ((u * 256 + B.toNat : Nat) : Int)) := by
          rw [or_u64 _ _ (by omega) (by omega), or_byte _ _ (by omega)]
        have hel' : elA 1 (bs.map byteAV)[j]? = some (.rptr [.v (.int .u8 B.toNat)]) := by rw [hel]; rfl
        simp (dsimp := false) (implicitDefEqProofs := false) (maxSteps := 1000000) (disch := first | omega | assumption | (simp only [rL, Nat.reduceAdd]; done) | (simp only [rL, Nat.reduceAdd]; omega)) only [f15, f16, f17, f5, hlt, ↓rD, rU, ev, ofConst, ofCell, ↓reduceIte, Nat.reduceEqDiff, Nat.reduceAdd, Nat.reduceSub, Nat.reduceMul, Nat.reduceLeDiff, Nat.reduceLT, Int.reduceNeg, Int.reduceToNat, Int.reduceAdd, Int.reduceSub, Int.reduceMul, Int.reduceLT, Int.reduceLE, Int.reduceEq, rX, dg_cells, dg_fold, List.drop_succ_cons, ↓rF, rG, ne_eq, not_true_eq_false, not_false_eq_true, Int.reduceNe, List.getElem?_cons_zero, List.getElem?_cons_succ, iaSA_sl, hel', shl_u64_8, hw, hor]
        refine ⟨⟨j + 1, by omega, by simp, ?_⟩, by omega⟩
        rw [hbj]
      · obtain rfl : j = 8 := by omega
        have e8 : bs.take 8 = bs := List.take_of_length_le (by omega)
        rw [e8] at f5 hb
        have hb' : beN bs < 18446744073709551616 := by
          refine Nat.lt_of_lt_of_le hb ?_
          rw [hl]; decide
        simp (dsimp := false) (implicitDefEqProofs := false) (maxSteps := 1000000) (disch := first | omega | assumption | (simp only [rL, Nat.reduceAdd]; done) | (simp only [rL, Nat.reduceAdd]; omega)) only [f15, f16, f17, f5, hlt, ↓rD, rU, ev, ofConst, ofCell, ↓reduceIte, Nat.reduceEqDiff, Nat.reduceAdd, Nat.reduceSub, Nat.reduceMul, Nat.reduceLeDiff, Nat.reduceLT, Int.reduceNeg, Int.reduceToNat, Int.reduceAdd, Int.reduceSub, Int.reduceMul, Int.reduceLT, Int.reduceLE, Int.reduceEq, rX, dg_cells, dg_fold, List.drop_succ_cons, ↓rF, rG, ne_eq, not_true_eq_false, not_false_eq_true, Int.reduceNe, List.getElem?_cons_zero, List.getElem?_cons_succ, xor_top, wrap_i64_bv]
        exact ⟨_, Hp.sub_refl, h1⟩

def digR (r : Rd) : List UInt8 × Rd := ((takeR r 32).1.getD zd, (takeR r 32).2)
theorem digR_length (r : Rd) : (digR r).1.length = 32 := by
  unfold digR
  have hl := fun bs => takeR_len (r := r) (n := 32) (bs := bs)
  cases h : (takeR r 32).1 with
  | none => rfl
  | some bs => exact hl bs h
theorem rdigest_spec (s0 s : Hp) (l : Nat) (r : Rd) (h : RS s0 l r s) :
    AC Try.prog 69 [.ptr l 0] s fun x s' => RS s0 l (digR r).2 s' ∧ x = dg (digR r).1 := by
  refine AC_run hm prep69 (by simp) ?_
  have hq := digR_length r
  simp (dsimp := false) (implicitDefEqProofs := false) (maxSteps := 1000000) (disch := first | omega | assumption | (simp only [rL, Nat.reduceAdd]; done) | (simp only [rL, Nat.reduceAdd]; omega)) only [↓rD, rU, ev, ofConst, ofCell, ↓reduceIte, Nat.reduceEqDiff, Nat.reduceAdd, Nat.reduceSub, Nat.reduceMul, Nat.reduceLeDiff, Nat.reduceLT, Int.reduceNeg, Int.reduceToNat, Int.reduceAdd, Int.reduceSub, Int.reduceMul, Int.reduceLT, Int.reduceLE, Int.reduceEq, rX, dg_cells, dg_fold, List.drop_succ_cons, ↓rF, rG, ne_eq, not_true_eq_false, not_false_eq_true, Int.reduceNe, List.getElem?_cons_zero, List.getElem?_cons_succ]
  refine newK_intro fun l2 n2 => ?_
  obtain ⟨d2, e2, h⟩ := h.new (ob := zc) n2
  simp (dsimp := false) (implicitDefEqProofs := false) (maxSteps := 1000000) (disch := first | omega | assumption | (simp only [rL, Nat.reduceAdd]; done) | (simp only [rL, Nat.reduceAdd]; omega)) only [↓rD, rU, ev, ofConst, ofCell, ↓reduceIte, Nat.reduceEqDiff, Nat.reduceAdd, Nat.reduceSub, Nat.reduceMul, Nat.reduceLeDiff, Nat.reduceLT, Int.reduceNeg, Int.reduceToNat, Int.reduceAdd, Int.reduceSub, Int.reduceMul, Int.reduceLT, Int.reduceLE, Int.reduceEq, rX, dg_cells, dg_fold, List.drop_succ_cons, ↓rF, rG, ne_eq, not_true_eq_false, not_false_eq_true, Int.reduceNe, List.getElem?_cons_zero, List.getElem?_cons_succ]
  refine newK_intro fun l3 n3 => ?_
  obtain ⟨d3, e3, h⟩ := h.new (ob := zc) n3
  obtain ⟨d32, e3⟩ := Hp.set_none e3
  simp (dsimp := false) (implicitDefEqProofs := false) (maxSteps := 1000000) (disch := first | omega | assumption | (simp only [rL, Nat.reduceAdd]; done) | (simp only [rL, Nat.reduceAdd]; omega)) only [↓rD, rU, ev, ofConst, ofCell, ↓reduceIte, Nat.reduceEqDiff, Nat.reduceAdd, Nat.reduceSub, Nat.reduceMul, Nat.reduceLeDiff, Nat.reduceLT, Int.reduceNeg, Int.reduceToNat, Int.reduceAdd, Int.reduceSub, Int.reduceMul, Int.reduceLT, Int.reduceLE, Int.reduceEq, rX, dg_cells, dg_fold, List.drop_succ_cons, ↓rF, rG, ne_eq, not_true_eq_false, not_false_eq_true, Int.reduceNe, List.getElem?_cons_zero, List.getElem?_cons_succ]
  refine call_intro (rtake_spec _ _ l r 32 (by omega) h) ?_
  rintro x s1 ⟨h1, ow, rfl⟩
  have g2 := h1.get d2 (by rw [Hp.set_ne _ _ (Ne.symm d32)]; exact Hp.set_same _ _ _)
  have g3 := h1.get d3 (Hp.set_same _ _ _)
  have hfin : ∀ (x y : Ob), RS s0 l (takeR r 32).2 ((s1.set l3 x).set l2 y) := fun x y => by
    have := (h1.other (ob := x) d3).other (ob := y) d2
    rw [Hp.set_set] at this
    refine this.base ?_
    rw [Hp.set_set_comm _ d32, Hp.set_set]
    exact Hp.sub_new (Hp.sub_new Hp.sub_refl e2) e3
  unfold digR at hq ⊢
  have hl := fun bs => takeR_len (r := r) (n := 32) (bs := bs)
  generalize takeR r 32 = t at *
  obtain ⟨bs, r1⟩ := t
  unfold zc at g2 g3
  have hz : (List.replicate 32 (AV.v (Value.int IntKind.u8 0))).length = 32 := rfl
  cases bs with
  | none =>
    simp only [Option.isSome_none, Option.getD_none] at *
    simp (dsimp := false) (implicitDefEqProofs := false) (maxSteps := 1000000) (disch := first | omega | assumption | (simp only [rL, Nat.reduceAdd]; done) | (simp only [rL, Nat.reduceAdd]; omega)) only [↓rD, rU, ev, ofConst, ofCell, ↓reduceIte, Nat.reduceEqDiff, Nat.reduceAdd, Nat.reduceSub, Nat.reduceMul, Nat.reduceLeDiff, Nat.reduceLT, Int.reduceNeg, Int.reduceToNat, Int.reduceAdd, Int.reduceSub, Int.reduceMul, Int.reduceLT, Int.reduceLE, Int.reduceEq, rX, dg_cells, dg_fold, List.drop_succ_cons, ↓rF, rG, ne_eq, not_true_eq_false, not_false_eq_true, Int.reduceNe, List.getElem?_cons_zero, List.getElem?_cons_succ, Hp.read_of g3, Hp.stA_of g3, slcMA_all (Hp.read_of g3)]
    refine cpy_intro ?_ g3 ?_ ?_
    · simp [allLen]
    · simp
    have e : putAt (List.replicate 32 (AV.v (Value.int IntKind.u8 0))) 0 (flat (List.take 32 [])) = zd.map byteAV := rfl
    rw [e]
    simp (dsimp := false) (implicitDefEqProofs := false) (maxSteps := 1000000) (disch := first | omega | assumption | (simp only [rL, Nat.reduceAdd]; done) | (simp only [rL, Nat.reduceAdd]; omega)) only [↓rD, rU, ev, ofConst, ofCell, ↓reduceIte, Nat.reduceEqDiff, Nat.reduceAdd, Nat.reduceSub, Nat.reduceMul, Nat.reduceLeDiff, Nat.reduceLT, Int.reduceNeg, Int.reduceToNat, Int.reduceAdd, Int.reduceSub, Int.reduceMul, Int.reduceLT, Int.reduceLE, Int.reduceEq, rX, dg_cells, dg_fold, List.drop_succ_cons, ↓rF, rG, ne_eq, not_true_eq_false, not_false_eq_true, Int.reduceNe, List.getElem?_cons_zero, List.getElem?_cons_succ, hq, d32, Ne.symm d32, Hp.read_of g2, Hp.stA_of g2]
    exact ⟨_, Hp.sub_refl, hfin _ _⟩
  | some bs =>
    simp only [Option.isSome_some, Option.getD_some] at *
    have hl := hl bs rfl
    simp (dsimp := false) (implicitDefEqProofs := false) (maxSteps := 1000000) (disch := first | omega | assumption | (simp only [rL, Nat.reduceAdd]; done) | (simp only [rL, Nat.reduceAdd]; omega)) only [↓rD, rU, ev, ofConst, ofCell, ↓reduceIte, Nat.reduceEqDiff, Nat.reduceAdd, Nat.reduceSub, Nat.reduceMul, Nat.reduceLeDiff, Nat.reduceLT, Int.reduceNeg, Int.reduceToNat, Int.reduceAdd, Int.reduceSub, Int.reduceMul, Int.reduceLT, Int.reduceLE, Int.reduceEq, rX, dg_cells, dg_fold, List.drop_succ_cons, ↓rF, rG, ne_eq, not_true_eq_false, not_false_eq_true, Int.reduceNe, List.getElem?_cons_zero, List.getElem?_cons_succ, Hp.read_of g3, Hp.stA_of g3, slcMA_all (Hp.read_of g3)]
    refine cpy_intro ?_ g3 ?_ ?_
    · rw [allLen_bytes]; trivial
    · simp
    have e : putAt (List.replicate 32 (AV.v (Value.int IntKind.u8 0))) 0 (flat (List.take 32 (List.map byteAV bs))) = bs.map byteAV := by
      rw [List.take_of_length_le (by simp [hl]), flat_bytes, putAt_all (by simp [hl])]
    rw [e]
    simp (dsimp := false) (implicitDefEqProofs := false) (maxSteps := 1000000) (disch := first | omega | assumption | (simp only [rL, Nat.reduceAdd]; done) | (simp only [rL, Nat.reduceAdd]; omega)) only [↓rD, rU, ev, ofConst, ofCell, ↓reduceIte, Nat.reduceEqDiff, Nat.reduceAdd, Nat.reduceSub, Nat.reduceMul, Nat.reduceLeDiff, Nat.reduceLT, Int.reduceNeg, Int.reduceToNat, Int.reduceAdd, Int.reduceSub, Int.reduceMul, Int.reduceLT, Int.reduceLE, Int.reduceEq, rX, dg_cells, dg_fold, List.drop_succ_cons, ↓rF, rG, ne_eq, not_true_eq_false, not_false_eq_true, Int.reduceNe, List.getElem?_cons_zero, List.getElem?_cons_succ, hl, d32, Ne.symm d32, Hp.read_of g2, Hp.stA_of g2]
    exact ⟨_, Hp.sub_refl, hfin _ _⟩
end Go.Proofs.Ytapjikladjoicaa
/-
  codec.Reader, continued; light.get; slices.Equal.
-/
set_option maxRecDepth 100000
namespace Go.Proofs.Ytapjikladjoicaa
open Go Go.Av

def truthR (r : Rd) : Bool × Rd := (decide ((byteR r).1 = 1), if 1 < (byteR r).1.toNat then failF (byteR r).2 21 else (byteR r).2)
theorem rtruth_spec (s0 s : Hp) (l : Nat) (r : Rd) (h : RS s0 l r s) :
    AC Try.prog 42 [.ptr l 0] s fun x s' => RS s0 l (truthR r).2 s' ∧ x = .v (.bool (truthR r).1) := by
  refine AC_run hm prep42 (by simp) ?_
  simp (dsimp := false) (implicitDefEqProofs := false) (maxSteps := 1000000) (disch := first | omega | assumption | (simp only [rL, Nat.reduceAdd]; done) | (simp only [rL, Nat.reduceAdd]; omega)) only [↓rD, rU, ev, ofConst, ofCell, ↓reduceIte, Nat.reduceEqDiff, Nat.reduceAdd, Nat.reduceSub, Nat.reduceMul, Nat.reduceLeDiff, Nat.reduceLT, Int.reduceNeg, Int.reduceToNat, Int.reduceAdd, Int.reduceSub, Int.reduceMul, Int.reduceLT, Int.reduceLE, Int.reduceEq, rX, dg_cells, dg_fold, List.drop_succ_cons, ↓rF, rG, ne_eq, not_true_eq_false, not_false_eq_true, Int.reduceNe, List.getElem?_cons_zero, List.getElem?_cons_succ]
  refine call_intro (rbyte_spec s0 s l r h) ?_
  rintro x s1 ⟨h1, rfl⟩
  unfold truthR
  generalize byteR r = t at *
  obtain ⟨b, r1⟩ := t
  simp only at h1 ⊢
  have hb : decide ((b.toNat : Int) = 1) = decide (b = 1) := by
    have : ((b.toNat : Int) = 1) ↔ b = 1 := by
      rw [← UInt8.toNat_inj]
      show ((b.toNat : Int) = 1) ↔ b.toNat = 1
      omega
    simp only [this]
  by_cases c : 1 < b.toNat
  · have c' : (1 : Int) < b.toNat := by omega
    simp (dsimp := false) (implicitDefEqProofs := false) (maxSteps := 1000000) (disch := first | omega | assumption | (simp only [rL, Nat.reduceAdd]; done) | (simp only [rL, Nat.reduceAdd]; omega)) only [↓rD, rU, ev, ofConst, ofCell, ↓reduceIte, Nat.reduceEqDiff, Nat.reduceAdd, Nat.reduceSub, Nat.reduceMul, Nat.reduceLeDiff, Nat.reduceLT, Int.reduceNeg, Int.reduceToNat, Int.reduceAdd, Int.reduceSub, Int.reduceMul, Int.reduceLT, Int.reduceLE, Int.reduceEq, rX, dg_cells, dg_fold, List.drop_succ_cons, ↓rF, rG, ne_eq, not_true_eq_false, not_false_eq_true, Int.reduceNe, List.getElem?_cons_zero, List.getElem?_cons_succ, c']
    refine call_intro (fail_spec s0 s1 l r1 21 h1) ?_
    intro x s2 h2
    rw [if_pos c]
    simp (dsimp := false) (implicitDefEqProofs := false) (maxSteps := 1000000) (disch := first | omega | assumption | (simp only [rL, Nat.reduceAdd]; done) | (simp only [rL, Nat.reduceAdd]; omega)) only [↓rD, rU, ev, ofConst, ofCell, ↓reduceIte, Nat.reduceEqDiff, Nat.reduceAdd, Nat.reduceSub, Nat.reduceMul, Nat.reduceLeDiff, Nat.reduceLT, Int.reduceNeg, Int.reduceToNat, Int.reduceAdd, Int.reduceSub, Int.reduceMul, Int.reduceLT, Int.reduceLE, Int.reduceEq, rX, dg_cells, dg_fold, List.drop_succ_cons, ↓rF, rG, ne_eq, not_true_eq_false, not_false_eq_true, Int.reduceNe, List.getElem?_cons_zero, List.getElem?_cons_succ, hb]
    exact ⟨_, Hp.sub_refl, h2⟩
  · have c' : ¬ (1 : Int) < b.toNat := by omega
    rw [if_neg c]
    simp (dsimp := false) (implicitDefEqProofs := false) (maxSteps := 1000000) (disch := first | omega | assumption | (simp only [rL, Nat.reduceAdd]; done) | (simp only [rL, Nat.reduceAdd]; omega)) only [↓rD, rU, ev, ofConst, ofCell, ↓reduceIte, Nat.reduceEqDiff, Nat.reduceAdd, Nat.reduceSub, Nat.reduceMul, Nat.reduceLeDiff, Nat.reduceLT, Int.reduceNeg, Int.reduceToNat, Int.reduceAdd, Int.reduceSub, Int.reduceMul, Int.reduceLT, Int.reduceLE, Int.reduceEq, rX, dg_cells, dg_fold, List.drop_succ_cons, ↓rF, rG, ne_eq, not_true_eq_false, not_false_eq_true, Int.reduceNe, List.getElem?_cons_zero, List.getElem?_cons_succ, c', hb]
    exact ⟨_, Hp.sub_refl, h1⟩

def endR (r : Rd) : Rd := if 0 < r.b.length then failF r 22 else r
theorem rend_spec (s0 s : Hp) (l : Nat) (r : Rd) (h : RS s0 l r s) :
    AC Try.prog 43 [.ptr l 0] s fun x s' => RS s0 l (endR r) s' ∧ x = .v (.int .i64 (endR r).e) := by
  obtain ⟨ow, g⟩ := h.cell
  refine AC_run hm prep43 (by simp) ?_
  unfold endR
  by_cases c : 0 < r.b.length
  · have c' : (0 : Int) < r.b.length := by omega
    simp (dsimp := false) (implicitDefEqProofs := false) (maxSteps := 1000000) (disch := first | omega | assumption | (simp only [rL, Nat.reduceAdd]; done) | (simp only [rL, Nat.reduceAdd]; omega)) only [↓rD, rU, ev, ofConst, ofCell, ↓reduceIte, Nat.reduceEqDiff, Nat.reduceAdd, Nat.reduceSub, Nat.reduceMul, Nat.reduceLeDiff, Nat.reduceLT, Int.reduceNeg, Int.reduceToNat, Int.reduceAdd, Int.reduceSub, Int.reduceMul, Int.reduceLT, Int.reduceLE, Int.reduceEq, rX, dg_cells, dg_fold, List.drop_succ_cons, ↓rF, rG, ne_eq, not_true_eq_false, not_false_eq_true, Int.reduceNe, List.getElem?_cons_zero, List.getElem?_cons_succ, Hp.read_of g, c']
    refine call_intro (fail_spec s0 s l r 22 h) ?_
    intro x s2 h2
    obtain ⟨ow2, g2⟩ := h2.cell
    rw [if_pos c]
    simp (dsimp := false) (implicitDefEqProofs := false) (maxSteps := 1000000) (disch := first | omega | assumption | (simp only [rL, Nat.reduceAdd]; done) | (simp only [rL, Nat.reduceAdd]; omega)) only [↓rD, rU, ev, ofConst, ofCell, ↓reduceIte, Nat.reduceEqDiff, Nat.reduceAdd, Nat.reduceSub, Nat.reduceMul, Nat.reduceLeDiff, Nat.reduceLT, Int.reduceNeg, Int.reduceToNat, Int.reduceAdd, Int.reduceSub, Int.reduceMul, Int.reduceLT, Int.reduceLE, Int.reduceEq, rX, dg_cells, dg_fold, List.drop_succ_cons, ↓rF, rG, ne_eq, not_true_eq_false, not_false_eq_true, Int.reduceNe, List.getElem?_cons_zero, List.getElem?_cons_succ, Hp.read_of g2]
    exact ⟨_, Hp.sub_refl, h2⟩
  · have c' : ¬ (0 : Int) < r.b.length := by omega
    rw [if_neg c]
    simp (dsimp := false) (implicitDefEqProofs := false) (maxSteps := 1000000) (disch := first | omega | assumption | (simp only [rL, Nat.reduceAdd]; done) | (simp only [rL, Nat.reduceAdd]; omega)) only [↓rD, rU, ev, ofConst, ofCell, ↓reduceIte, Nat.reduceEqDiff, Nat.reduceAdd, Nat.reduceSub, Nat.reduceMul, Nat.reduceLeDiff, Nat.reduceLT, Int.reduceNeg, Int.reduceToNat, Int.reduceAdd, Int.reduceSub, Int.reduceMul, Int.reduceLT, Int.reduceLE, Int.reduceEq, rX, dg_cells, dg_fold, List.drop_succ_cons, ↓rF, rG, ne_eq, not_true_eq_false, not_false_eq_true, Int.reduceNe, List.getElem?_cons_zero, List.getElem?_cons_succ, Hp.read_of g, c']
    exact ⟨_, Hp.sub_refl, h⟩

def getR (r : Rd) : Opn × Rd := (⟨(numR r).1, (digR (numR r).2).1, (digR (digR (numR r).2).2).1⟩, (digR (digR (numR r).2).2).2)
theorem getR_ok (r : Rd) : (getR r).1.ok := ⟨digR_length _, digR_length _⟩
theorem lget_spec (s0 s : Hp) (l : Nat) (r : Rd) (h : RS s0 l r s) :
    AC Try.prog 40 [.ptr l 0] s fun x s' => RS s0 l (getR r).2 s' ∧ x = (getR r).1.V := by
  refine AC_run hm prep40 (by simp) ?_
  rw [zo_C]
  have z0 : zo.C.length = 65 := rfl
  simp (dsimp := false) (implicitDefEqProofs := false) (maxSteps := 1000000) (disch := first | omega | assumption | (simp only [rL, Nat.reduceAdd]; done) | (simp only [rL, Nat.reduceAdd]; omega)) only [↓rD, rU, ev, ofConst, ofCell, ↓reduceIte, Nat.reduceEqDiff, Nat.reduceAdd, Nat.reduceSub, Nat.reduceMul, Nat.reduceLeDiff, Nat.reduceLT, Int.reduceNeg, Int.reduceToNat, Int.reduceAdd, Int.reduceSub, Int.reduceMul, Int.reduceLT, Int.reduceLE, Int.reduceEq, rX, dg_cells, dg_fold, List.drop_succ_cons, ↓rF, rG, ne_eq, not_true_eq_false, not_false_eq_true, Int.reduceNe, List.getElem?_cons_zero, List.getElem?_cons_succ]
  refine newK_intro fun l2 n2 => ?_
  obtain ⟨d2, e2, h⟩ := h.new (ob := .cells zo.C) n2
  simp (dsimp := false) (implicitDefEqProofs := false) (maxSteps := 1000000) (disch := first | omega | assumption | (simp only [rL, Nat.reduceAdd]; done) | (simp only [rL, Nat.reduceAdd]; omega)) only [↓rD, rU, ev, ofConst, ofCell, ↓reduceIte, Nat.reduceEqDiff, Nat.reduceAdd, Nat.reduceSub, Nat.reduceMul, Nat.reduceLeDiff, Nat.reduceLT, Int.reduceNeg, Int.reduceToNat, Int.reduceAdd, Int.reduceSub, Int.reduceMul, Int.reduceLT, Int.reduceLE, Int.reduceEq, rX, dg_cells, dg_fold, List.drop_succ_cons, ↓rF, rG, ne_eq, not_true_eq_false, not_false_eq_true, Int.reduceNe, List.getElem?_cons_zero, List.getElem?_cons_succ]
  refine call_intro (rnum_spec _ _ l r h) ?_
  rintro x s1 ⟨h1, rfl⟩
  simp (dsimp := false) (implicitDefEqProofs := false) (maxSteps := 1000000) (disch := first | omega | assumption | (simp only [rL, Nat.reduceAdd]; done) | (simp only [rL, Nat.reduceAdd]; omega)) only [↓rD, rU, ev, ofConst, ofCell, ↓reduceIte, Nat.reduceEqDiff, Nat.reduceAdd, Nat.reduceSub, Nat.reduceMul, Nat.reduceLeDiff, Nat.reduceLT, Int.reduceNeg, Int.reduceToNat, Int.reduceAdd, Int.reduceSub, Int.reduceMul, Int.reduceLT, Int.reduceLE, Int.reduceEq, rX, dg_cells, dg_fold, List.drop_succ_cons, ↓rF, rG, ne_eq, not_true_eq_false, not_false_eq_true, Int.reduceNe, List.getElem?_cons_zero, List.getElem?_cons_succ]
  refine call_intro (rdigest_spec _ _ l _ h1) ?_
  rintro x s2 ⟨h2, rfl⟩
  simp (dsimp := false) (implicitDefEqProofs := false) (maxSteps := 1000000) (disch := first | omega | assumption | (simp only [rL, Nat.reduceAdd]; done) | (simp only [rL, Nat.reduceAdd]; omega)) only [↓rD, rU, ev, ofConst, ofCell, ↓reduceIte, Nat.reduceEqDiff, Nat.reduceAdd, Nat.reduceSub, Nat.reduceMul, Nat.reduceLeDiff, Nat.reduceLT, Int.reduceNeg, Int.reduceToNat, Int.reduceAdd, Int.reduceSub, Int.reduceMul, Int.reduceLT, Int.reduceLE, Int.reduceEq, rX, dg_cells, dg_fold, List.drop_succ_cons, ↓rF, rG, ne_eq, not_true_eq_false, not_false_eq_true, Int.reduceNe, List.getElem?_cons_zero, List.getElem?_cons_succ]
  refine call_intro (rdigest_spec _ _ l _ h2) ?_
  rintro x s3 ⟨h3, rfl⟩
  have g2 := h3.get d2 (Hp.set_same _ _ _)
  have q1 := digR_length (numR r).2
  have q2 := digR_length (digR (numR r).2).2
  have ho := getR_ok r
  unfold getR at ho ⊢
  generalize (numR r).1 = n at *
  generalize (digR (numR r).2).1 = x at *
  generalize (digR (digR (numR r).2).2).1 = y at *
  generalize (digR (digR (numR r).2).2).2 = r3 at *
  have z1 : (opC n zd zd).length = 65 := rfl
  have z2 : (opC n x zd).length = 65 := opC_length q1 rfl
  have z3 : (opC n x y).length = 65 := opC_length q1 q2
  have e0 : putAt zo.C 0 [.v (.int .i64 n)] = opC n zd zd := rfl
  simp (dsimp := false) (implicitDefEqProofs := false) (maxSteps := 1000000) (disch := first | omega | assumption | (simp only [rL, Nat.reduceAdd]; done) | (simp only [rL, Nat.reduceAdd]; omega)) only [↓rD, rU, ev, ofConst, ofCell, ↓reduceIte, Nat.reduceEqDiff, Nat.reduceAdd, Nat.reduceSub, Nat.reduceMul, Nat.reduceLeDiff, Nat.reduceLT, Int.reduceNeg, Int.reduceToNat, Int.reduceAdd, Int.reduceSub, Int.reduceMul, Int.reduceLT, Int.reduceLE, Int.reduceEq, rX, dg_cells, dg_fold, List.drop_succ_cons, ↓rF, rG, ne_eq, not_true_eq_false, not_false_eq_true, Int.reduceNe, List.getElem?_cons_zero, List.getElem?_cons_succ, z0, z1, z2, z3, q1, q2, e0, opC_put1 zd_length q1, opC_put33 q1 zd_length q2, Hp.read_of g2, Hp.stA_of g2]
  have tk : (opC n x y).take 65 = opC n x y := List.take_of_length_le (by omega)
  rw [tk]
  refine ⟨_, Hp.sub_refl, ?_, rfl⟩
  have := h3.other (ob := .cells (opC n x y)) d2
  rw [Hp.set_set] at this
  exact this.base (Hp.sub_new Hp.sub_refl e2)

theorem equal_spec (a b : List UInt8) (o o2 : Own) (s : Hp) (ha : a.length ≤ 70368744177664) :
    AC Try.prog 44 [.sl (a.map byteAV) o, .sl (b.map byteAV) o2] s fun x s' => s' = s ∧ x = .v (.bool (decide (a = b))) := by
  refine AC_run hm prep44 (by simp) ?_
  by_cases c : a.length = b.length
  · have c' : (a.length : Int) = b.length := by omega
    simp (dsimp := false) (implicitDefEqProofs := false) (maxSteps := 1000000) (disch := first | omega | assumption | (simp only [rL, Nat.reduceAdd]; done) | (simp only [rL, Nat.reduceAdd]; omega)) only [↓rD, rU, ev, ofConst, ofCell, ↓reduceIte, Nat.reduceEqDiff, Nat.reduceAdd, Nat.reduceSub, Nat.reduceMul, Nat.reduceLeDiff, Nat.reduceLT, Int.reduceNeg, Int.reduceToNat, Int.reduceAdd, Int.reduceSub, Int.reduceMul, Int.reduceLT, Int.reduceLE, Int.reduceEq, rX, dg_cells, dg_fold, List.drop_succ_cons, ↓rF, rG, ne_eq, not_true_eq_false, not_false_eq_true, Int.reduceNe, List.getElem?_cons_zero, List.getElem?_cons_succ, c']
    rw [← c']
    refine loop_intro (fun f s' => ∃ j : Nat, j ≤ a.length ∧ s' = s ∧ f 0 = .sl (a.map byteAV) o ∧ f 1 = .sl (b.map byteAV) o2 ∧ f 12 = .v (.int .i64 a.length) ∧ f 13 = .v (.int .i64 j) ∧ a.take j = b.take j)
      (fun f _ => match f 13 with | .v (.int _ n) => (a.length - n).toNat | _ => 0) ⟨0, by omega, rfl, ?_⟩ ?_
    · simp (dsimp := false) (implicitDefEqProofs := false) (maxSteps := 1000000) (disch := first | omega | assumption | (simp only [rL, Nat.reduceAdd]; done) | (simp only [rL, Nat.reduceAdd]; omega)) only [↓rD, rU, ev, ofConst, ofCell, ↓reduceIte, Nat.reduceEqDiff, Nat.reduceAdd, Nat.reduceSub, Nat.reduceMul, Nat.reduceLeDiff, Nat.reduceLT, Int.reduceNeg, Int.reduceToNat, Int.reduceAdd, Int.reduceSub, Int.reduceMul, Int.reduceLT, Int.reduceLE, Int.reduceEq, rX, dg_cells, dg_fold, List.drop_succ_cons, ↓rF, rG, ne_eq, not_true_eq_false, not_false_eq_true, Int.reduceNe, List.getElem?_cons_zero, List.getElem?_cons_succ, List.take_zero]
    · rintro f sA ⟨j, hj, rfl, f0, f1, f12, f13, ht⟩
      by_cases hlt : (j : Int) < a.length
      · have hj' : j < a.length := by omega
        have hjb : j < b.length := by omega
        have e1 : elA 1 (a.map byteAV)[j]? = some (.rptr [.v (.int .u8 (a.getD j 0).toNat)]) := by rw [getB hj']; rfl
        have e2 : elA 1 (b.map byteAV)[j]? = some (.rptr [.v (.int .u8 (b.getD j 0).toNat)]) := by rw [getB hjb]; rfl
        simp (dsimp := false) (implicitDefEqProofs := false) (maxSteps := 1000000) (disch := first | omega | assumption | (simp only [rL, Nat.reduceAdd]; done) | (simp only [rL, Nat.reduceAdd]; omega)) only [f0, f1, f12, f13, hlt, iaSA_sl, e1, e2, ↓rD, rU, ev, ofConst, ofCell, ↓reduceIte, Nat.reduceEqDiff, Nat.reduceAdd, Nat.reduceSub, Nat.reduceMul, Nat.reduceLeDiff, Nat.reduceLT, Int.reduceNeg, Int.reduceToNat, Int.reduceAdd, Int.reduceSub, Int.reduceMul, Int.reduceLT, Int.reduceLE, Int.reduceEq, rX, dg_cells, dg_fold, List.drop_succ_cons, ↓rF, rG, ne_eq, not_true_eq_false, not_false_eq_true, Int.reduceNe, List.getElem?_cons_zero, List.getElem?_cons_succ]
        by_cases hx : a.getD j 0 = b.getD j 0
        · have hx' : (((a.getD j 0).toNat : Int) = (b.getD j 0).toNat) = True := by rw [hx]; simp
          simp (dsimp := false) (implicitDefEqProofs := false) (maxSteps := 1000000) (disch := first | omega | assumption | (simp only [rL, Nat.reduceAdd]; done) | (simp only [rL, Nat.reduceAdd]; omega)) only [f0, f1, f12, f13, hlt, hx', ↓rD, rU, ev, ofConst, ofCell, ↓reduceIte, Nat.reduceEqDiff, Nat.reduceAdd, Nat.reduceSub, Nat.reduceMul, Nat.reduceLeDiff, Nat.reduceLT, Int.reduceNeg, Int.reduceToNat, Int.reduceAdd, Int.reduceSub, Int.reduceMul, Int.reduceLT, Int.reduceLE, Int.reduceEq, rX, dg_cells, dg_fold, List.drop_succ_cons, ↓rF, rG, ne_eq, not_true_eq_false, not_false_eq_true, Int.reduceNe, List.getElem?_cons_zero, List.getElem?_cons_succ]
          refine ⟨⟨j + 1, by omega, by simp, ?_⟩, by omega⟩
          rw [List.take_succ, List.take_succ, ht, List.getElem?_eq_getElem hj', List.getElem?_eq_getElem hjb]
          simp [List.getD, hj', hjb] at hx
          rw [hx]
        · have hx' : (((a.getD j 0).toNat : Int) = (b.getD j 0).toNat) = False := by
            simp only [eq_iff_iff, iff_false]
            intro h
            exact hx (UInt8.toNat_inj.1 (by omega))
          simp (dsimp := false) (implicitDefEqProofs := false) (maxSteps := 1000000) (disch := first | omega | assumption | (simp only [rL, Nat.reduceAdd]; done) | (simp only [rL, Nat.reduceAdd]; omega)) only [f0, f1, f12, f13, hlt, hx', ↓rD, rU, ev, ofConst, ofCell, ↓reduceIte, Nat.reduceEqDiff, Nat.reduceAdd, Nat.reduceSub, Nat.reduceMul, Nat.reduceLeDiff, Nat.reduceLT, Int.reduceNeg, Int.reduceToNat, Int.reduceAdd, Int.reduceSub, Int.reduceMul, Int.reduceLT, Int.reduceLE, Int.reduceEq, rX, dg_cells, dg_fold, List.drop_succ_cons, ↓rF, rG, ne_eq, not_true_eq_false, not_false_eq_true, Int.reduceNe, List.getElem?_cons_zero, List.getElem?_cons_succ]
          refine ⟨sA, Hp.sub_refl, rfl, ?_⟩
          have : a ≠ b := by rintro rfl; exact hx rfl
          simp [this]
      · obtain rfl : j = a.length := by omega
        simp (dsimp := false) (implicitDefEqProofs := false) (maxSteps := 1000000) (disch := first | omega | assumption | (simp only [rL, Nat.reduceAdd]; done) | (simp only [rL, Nat.reduceAdd]; omega)) only [f0, f1, f12, f13, hlt, ↓rD, rU, ev, ofConst, ofCell, ↓reduceIte, Nat.reduceEqDiff, Nat.reduceAdd, Nat.reduceSub, Nat.reduceMul, Nat.reduceLeDiff, Nat.reduceLT, Int.reduceNeg, Int.reduceToNat, Int.reduceAdd, Int.reduceSub, Int.reduceMul, Int.reduceLT, Int.reduceLE, Int.reduceEq, rX, dg_cells, dg_fold, List.drop_succ_cons, ↓rF, rG, ne_eq, not_true_eq_false, not_false_eq_true, Int.reduceNe, List.getElem?_cons_zero, List.getElem?_cons_succ]
        refine ⟨sA, Hp.sub_refl, rfl, ?_⟩
        rw [List.take_of_length_le (Nat.le_refl _), List.take_of_length_le (by omega)] at ht
        simp [ht]
  · have c' : ((a.length : Int) = b.length) = False := by simp only [eq_iff_iff, iff_false]; omega
    simp (dsimp := false) (implicitDefEqProofs := false) (maxSteps := 1000000) (disch := first | omega | assumption | (simp only [rL, Nat.reduceAdd]; done) | (simp only [rL, Nat.reduceAdd]; omega)) only [↓rD, rU, ev, ofConst, ofCell, ↓reduceIte, Nat.reduceEqDiff, Nat.reduceAdd, Nat.reduceSub, Nat.reduceMul, Nat.reduceLeDiff, Nat.reduceLT, Int.reduceNeg, Int.reduceToNat, Int.reduceAdd, Int.reduceSub, Int.reduceMul, Int.reduceLT, Int.reduceLE, Int.reduceEq, rX, dg_cells, dg_fold, List.drop_succ_cons, ↓rF, rG, ne_eq, not_true_eq_false, not_false_eq_true, Int.reduceNe, List.getElem?_cons_zero, List.getElem?_cons_succ, c']
    refine ⟨s, Hp.sub_refl, rfl, ?_⟩
    have : a ≠ b := by rintro rfl; exact c rfl
    simp [this]
end Go.Proofs.Ytapjikladjoicaa
/-
  light.Load.
-/
set_option maxRecDepth 100000
namespace Go.Proofs.Ytapjikladjoicaa
open Go Go.Av

/-- what is read of a follower's bytes: the follower, may it be, what is left -/
def loadP (bs : List UInt8) : Fw × Bool × Rd :=
  let g := getR ⟨bs, 0⟩
  let n := numR g.2
  let t := truthR n.2
  let good := rightN g.1.n && (decide (0 ≤ n.1) && decide (n.1 ≤ 1099511627776))
  if t.1 then
    let a := getR t.2
    let b := getR a.2
    (⟨g.1, n.1, some (a.1, b.1)⟩, good && (rightN a.1.n && (rightN b.1.n && (decide (a.1.n ≤ b.1.n) && !decide (a.1.sum = b.1.sum)))), b.2)
  else (⟨g.1, n.1, none⟩, good, t.2)
def loadF (bs : List UInt8) : Option Fw :=
  if (endR (loadP bs).2.2).e = 0 ∧ (loadP bs).2.1 = true ∧ saveB (loadP bs).1 = bs then some (loadP bs).1 else none
theorem loadP_ok (bs : List UInt8) : (loadP bs).1.ok := by
  unfold loadP
  simp only
  split
  · exact ⟨getR_ok _, by rintro a b h; cases h; exact ⟨getR_ok _, getR_ok _⟩⟩
  · exact ⟨getR_ok _, by rintro a b h; cases h⟩

theorem zo2_C : ([AV.v (Value.int IntKind.i64 0)] ++ List.replicate 64 (AV.v (Value.int IntKind.u8 0)) ++ [AV.v (Value.int IntKind.i64 0)] ++ List.replicate 64 (AV.v (Value.int IntKind.u8 0)) : List AV) = zo.C ++ zo.C := rfl
theorem fk_put0 {a b c : Opn} (ha : a.ok) (hc : c.ok) : putAt (a.C ++ b.C) 0 c.C = c.C ++ b.C := by
  rw [putAt, Opn.lenC hc, ← Opn.lenC ha, Nat.zero_add, List.drop_left]; rfl
theorem fk_put1 {a b c : Opn} (ha : a.ok) (hb : b.ok) (hc : c.ok) : putAt (a.C ++ b.C) 65 c.C = a.C ++ c.C := by
  have h1 := Opn.lenC ha
  have h2 := Opn.lenC hb
  have h3 := Opn.lenC hc
  rw [putAt, ← h1, List.take_left, h3]
  simp [List.drop_append, h1, List.drop_of_length_le, h2]

theorem Load_spec (bs : List UInt8) (o : Own) (s : Hp) (ho : o = .nil → bs = []) (hb : bs.length ≤ 1000000) :
    AC Try.prog 21 [.sl (bs.map byteAV) o] s fun r s' =>
      match loadF bs with
      | none => s' = s ∧ r = .tup [.v (.pointer none), .v (.int .i64 21)]
      | some F => ∃ l, s l = none ∧ r = .tup [.ptr l 0, .v (.int .i64 0)] ∧ FS s l F s' := by
  have hlok := loadP_ok bs
  refine AC_run hm prep21 (by simp) ?_
  rw [zo2_C]
  simp (dsimp := false) (implicitDefEqProofs := false) (maxSteps := 1000000) (disch := first | omega | assumption | (simp only [rL, Nat.reduceAdd]; done) | (simp only [rL, Nat.reduceAdd]; omega)) only [↓rD, rU, ev, ofConst, ofCell, ↓reduceIte, Nat.reduceEqDiff, Nat.reduceAdd, Nat.reduceSub, Nat.reduceMul, Nat.reduceLeDiff, Nat.reduceLT, Int.reduceNeg, Int.reduceToNat, Int.reduceAdd, Int.reduceSub, Int.reduceMul, Int.reduceLT, Int.reduceLE, Int.reduceEq, rX, dg_cells, dg_fold, List.drop_succ_cons, ↓rF, rG, ne_eq, not_true_eq_false, not_false_eq_true, Int.reduceNe, List.getElem?_cons_zero, List.getElem?_cons_succ]
  refine call_intro (New_spec bs o s ho (by omega)) ?_
  rintro _ s1 ⟨lr, nr, rfl, h1⟩
  simp (dsimp := false) (implicitDefEqProofs := false) (maxSteps := 1000000) (disch := first | omega | assumption | (simp only [rL, Nat.reduceAdd]; done) | (simp only [rL, Nat.reduceAdd]; omega)) only [↓rD, rU, ev, ofConst, ofCell, ↓reduceIte, Nat.reduceEqDiff, Nat.reduceAdd, Nat.reduceSub, Nat.reduceMul, Nat.reduceLeDiff, Nat.reduceLT, Int.reduceNeg, Int.reduceToNat, Int.reduceAdd, Int.reduceSub, Int.reduceMul, Int.reduceLT, Int.reduceLE, Int.reduceEq, rX, dg_cells, dg_fold, List.drop_succ_cons, ↓rF, rG, ne_eq, not_true_eq_false, not_false_eq_true, Int.reduceNe, List.getElem?_cons_zero, List.getElem?_cons_succ]
  refine call_intro (lget_spec _ _ lr _ h1) ?_
  rintro _ s2 ⟨h2, rfl⟩
  have og := getR_ok ⟨bs, 0⟩
  have lp : loadP bs = loadP bs := rfl
  conv at lp => rhs; unfold loadP
  simp only at lp
  generalize hgr : getR ⟨bs, 0⟩ = g at *
  obtain ⟨op, r1⟩ := g
  simp only at h2 og lp ⊢
  have lO := Opn.lenC og
  have kO := Opn.cells (o := op)
  have fz := fw_zero og
  have w0 := fwC_length (st := 0) (p := .v (.pointer none)) og
  simp (dsimp := false) (implicitDefEqProofs := false) (maxSteps := 1000000) (disch := first | omega | assumption | (simp only [rL, Nat.reduceAdd]; done) | (simp only [rL, Nat.reduceAdd]; omega)) only [↓rD, rU, ev, ofConst, ofCell, ↓reduceIte, Nat.reduceEqDiff, Nat.reduceAdd, Nat.reduceSub, Nat.reduceMul, Nat.reduceLeDiff, Nat.reduceLT, Int.reduceNeg, Int.reduceToNat, Int.reduceAdd, Int.reduceSub, Int.reduceMul, Int.reduceLT, Int.reduceLE, Int.reduceEq, rX, dg_cells, dg_fold, List.drop_succ_cons, ↓rF, rG, ne_eq, not_true_eq_false, not_false_eq_true, Int.reduceNe, List.getElem?_cons_zero, List.getElem?_cons_succ, kO, lO, fz, w0]
  refine newK_intro fun l12 n12 => ?_
  obtain ⟨d12, e12, h2⟩ := h2.new (ob := .cells (fwC op 0 (.v (.pointer none)))) n12
  simp (dsimp := false) (implicitDefEqProofs := false) (maxSteps := 1000000) (disch := first | omega | assumption | (simp only [rL, Nat.reduceAdd]; done) | (simp only [rL, Nat.reduceAdd]; omega)) only [↓rD, rU, ev, ofConst, ofCell, ↓reduceIte, Nat.reduceEqDiff, Nat.reduceAdd, Nat.reduceSub, Nat.reduceMul, Nat.reduceLeDiff, Nat.reduceLT, Int.reduceNeg, Int.reduceToNat, Int.reduceAdd, Int.reduceSub, Int.reduceMul, Int.reduceLT, Int.reduceLE, Int.reduceEq, rX, dg_cells, dg_fold, List.drop_succ_cons, ↓rF, rG, ne_eq, not_true_eq_false, not_false_eq_true, Int.reduceNe, List.getElem?_cons_zero, List.getElem?_cons_succ, kO, lO, fz, w0]
  refine call_intro (rnum_spec _ _ lr _ h2) ?_
  rintro _ s3 ⟨h3, rfl⟩
  generalize hnr : numR r1 = g at *
  obtain ⟨st, r2⟩ := g
  simp only at h3 lp ⊢
  have g3 := h3.get d12 (Hp.set_same _ _ _)
  have h4 := h3.other (ob := .cells (fwC op st (.v (.pointer none)))) d12
  rw [Hp.set_set] at h4
  have w1 := fwC_length (st := st) (p := .v (.pointer none)) og
  have g4 : (s3.set l12 (.cells (fwC op st (.v (.pointer none))))) l12 = some (.cells (fwC op st (.v (.pointer none)))) := Hp.set_same _ _ _
  simp (dsimp := false) (implicitDefEqProofs := false) (maxSteps := 1000000) (disch := first | omega | assumption | (simp only [rL, Nat.reduceAdd]; done) | (simp only [rL, Nat.reduceAdd]; omega)) only [↓rD, rU, ev, ofConst, ofCell, ↓reduceIte, Nat.reduceEqDiff, Nat.reduceAdd, Nat.reduceSub, Nat.reduceMul, Nat.reduceLeDiff, Nat.reduceLT, Int.reduceNeg, Int.reduceToNat, Int.reduceAdd, Int.reduceSub, Int.reduceMul, Int.reduceLT, Int.reduceLE, Int.reduceEq, rX, dg_cells, dg_fold, List.drop_succ_cons, ↓rF, rG, ne_eq, not_true_eq_false, not_false_eq_true, Int.reduceNe, List.getElem?_cons_zero, List.getElem?_cons_succ, Hp.read_of g3, Hp.stA_of g3, w0, w1, fwC_put65 og, fwC_op og, Opn.fold']
  generalize s3.set l12 (.cells (fwC op st (.v (.pointer none)))) = s4 at *
  refine call_intro (right_spec op.n op.h op.d og.1 og.2 _) ?_
  rintro _ s4 ⟨rfl, rfl⟩
  refine runL_mono (Kf := fun g s' => s' = s4 ∧ g 0 = .sl (bs.map byteAV) o ∧ g 4 = .ptr lr 0 ∧ g 5 = .ptr l12 0 ∧ g 6 = .v (.bool (rightN op.n && (decide (0 ≤ st) && decide (st ≤ 1099511627776))))) ?_ _ _ _ ?_
  case _ =>
    rintro f _ ⟨rfl, f0, f4, f5, f6⟩
    have hgood : ∃ good : Bool, good = (rightN op.n && (decide (0 ≤ st) && decide (st ≤ 1099511627776))) := ⟨_, rfl⟩
    obtain ⟨good, hgood⟩ := hgood
    rw [← hgood] at f6 lp
    simp (dsimp := false) (implicitDefEqProofs := false) (maxSteps := 1000000) (disch := first | omega | assumption | (simp only [rL, Nat.reduceAdd]; done) | (simp only [rL, Nat.reduceAdd]; omega)) only [↓rD, rU, ev, ofConst, ofCell, ↓reduceIte, Nat.reduceEqDiff, Nat.reduceAdd, Nat.reduceSub, Nat.reduceMul, Nat.reduceLeDiff, Nat.reduceLT, Int.reduceNeg, Int.reduceToNat, Int.reduceAdd, Int.reduceSub, Int.reduceMul, Int.reduceLT, Int.reduceLE, Int.reduceEq, rX, dg_cells, dg_fold, List.drop_succ_cons, ↓rF, rG, ne_eq, not_true_eq_false, not_false_eq_true, Int.reduceNe, List.getElem?_cons_zero, List.getElem?_cons_succ, f0, f4, f5, f6]
    refine call_intro (rtruth_spec _ _ lr _ h4) ?_
    rintro _ s5 ⟨h5, rfl⟩
    generalize htr : truthR r2 = g at *
    obtain ⟨tb, r3⟩ := g
    simp only at h5 lp ⊢
    have g5 := h5.get d12 (Hp.set_same _ _ _)
    simp (dsimp := false) (implicitDefEqProofs := false) (maxSteps := 1000000) (disch := first | omega | assumption | (simp only [rL, Nat.reduceAdd]; done) | (simp only [rL, Nat.reduceAdd]; omega)) only [↓rD, rU, ev, ofConst, ofCell, ↓reduceIte, Nat.reduceEqDiff, Nat.reduceAdd, Nat.reduceSub, Nat.reduceMul, Nat.reduceLeDiff, Nat.reduceLT, Int.reduceNeg, Int.reduceToNat, Int.reduceAdd, Int.reduceSub, Int.reduceMul, Int.reduceLT, Int.reduceLE, Int.reduceEq, rX, dg_cells, dg_fold, List.drop_succ_cons, ↓rF, rG, ne_eq, not_true_eq_false, not_false_eq_true, Int.reduceNe, List.getElem?_cons_zero, List.getElem?_cons_succ, f0, f4, f5, f6]
    refine cond_join (fun g s' => ∃ base, FS s l12 (loadP bs).1 base ∧ RS base lr (loadP bs).2.2 s' ∧ base lr = none ∧ s l12 = none ∧ g 0 = .sl (bs.map byteAV) o ∧ g 4 = .ptr lr 0 ∧ g 5 = .ptr l12 0 ∧ g 6 = .v (.bool (loadP bs).2.1)) ?_ ?_ ?_
    · rintro rfl
      simp only [if_true] at lp
      have zz : (zo.C ++ zo.C).length = 130 := rfl
      simp (dsimp := false) (implicitDefEqProofs := false) (maxSteps := 1000000) (disch := first | omega | assumption | (simp only [rL, Nat.reduceAdd]; done) | (simp only [rL, Nat.reduceAdd]; omega)) only [↓rD, rU, ev, ofConst, ofCell, ↓reduceIte, Nat.reduceEqDiff, Nat.reduceAdd, Nat.reduceSub, Nat.reduceMul, Nat.reduceLeDiff, Nat.reduceLT, Int.reduceNeg, Int.reduceToNat, Int.reduceAdd, Int.reduceSub, Int.reduceMul, Int.reduceLT, Int.reduceLE, Int.reduceEq, rX, dg_cells, dg_fold, List.drop_succ_cons, ↓rF, rG, ne_eq, not_true_eq_false, not_false_eq_true, Int.reduceNe, List.getElem?_cons_zero, List.getElem?_cons_succ, f0, f4, f5, f6, zz]
      refine newK_intro fun l41 n41 => ?_
      obtain ⟨d41, e41, h6⟩ := h5.new (ob := .cells (zo.C ++ zo.C)) n41
      obtain ⟨d4112, e41⟩ := Hp.set_none e41
      replace h6 := h6.other (l2 := l12) (ob := .cells (fwC op st (.ptr l41 0))) d12
      rw [Hp.set_set_comm _ d4112, Hp.set_set] at h6
      have w2 := fwC_length (st := st) (p := .ptr l41 0) og
      simp (dsimp := false) (implicitDefEqProofs := false) (maxSteps := 1000000) (disch := first | omega | assumption | (simp only [rL, Nat.reduceAdd]; done) | (simp only [rL, Nat.reduceAdd]; omega)) only [↓rD, rU, ev, ofConst, ofCell, ↓reduceIte, Nat.reduceEqDiff, Nat.reduceAdd, Nat.reduceSub, Nat.reduceMul, Nat.reduceLeDiff, Nat.reduceLT, Int.reduceNeg, Int.reduceToNat, Int.reduceAdd, Int.reduceSub, Int.reduceMul, Int.reduceLT, Int.reduceLE, Int.reduceEq, rX, dg_cells, dg_fold, List.drop_succ_cons, ↓rF, rG, ne_eq, not_true_eq_false, not_false_eq_true, Int.reduceNe, List.getElem?_cons_zero, List.getElem?_cons_succ, f0, f4, f5, f6, Hp.read_of g5, Hp.stA_of g5, Ne.symm d4112, w1, fwC_put66 og]
      generalize (s5.set l41 (.cells (zo.C ++ zo.C))).set l12 (.cells (fwC op st (.ptr l41 0))) = s6 at *
      have i6 := h6.get d12 (by rw [Hp.set_ne _ _ (Ne.symm d4112)]; exact Hp.set_same _ _ _)
      simp (dsimp := false) (implicitDefEqProofs := false) (maxSteps := 1000000) (disch := first | omega | assumption | (simp only [rL, Nat.reduceAdd]; done) | (simp only [rL, Nat.reduceAdd]; omega)) only [↓rD, rU, ev, ofConst, ofCell, ↓reduceIte, Nat.reduceEqDiff, Nat.reduceAdd, Nat.reduceSub, Nat.reduceMul, Nat.reduceLeDiff, Nat.reduceLT, Int.reduceNeg, Int.reduceToNat, Int.reduceAdd, Int.reduceSub, Int.reduceMul, Int.reduceLT, Int.reduceLE, Int.reduceEq, rX, dg_cells, dg_fold, List.drop_succ_cons, ↓rF, rG, ne_eq, not_true_eq_false, not_false_eq_true, Int.reduceNe, List.getElem?_cons_zero, List.getElem?_cons_succ, f0, f4, f5, f6, Hp.read_of i6, w2, fwC_66 og]
      refine call_intro (lget_spec _ _ lr _ h6) ?_
      rintro _ s7 ⟨h7, rfl⟩
      have oa := getR_ok r3
      generalize hga : getR r3 = g at *
      obtain ⟨a, r4⟩ := g
      try simp only at h7 lp oa ⊢
      have lA := Opn.lenC oa
      have kA := Opn.cells (o := a)
      have i7 := h7.get d12 (by rw [Hp.set_ne _ _ (Ne.symm d4112)]; exact Hp.set_same _ _ _)
      have j7 := h7.get d41 (Hp.set_same _ _ _)
      have azz : (a.C ++ zo.C).length = 130 := by simp [lA]; rfl
      replace h8 := h7.other (l2 := l41) (ob := .cells (a.C ++ zo.C)) d41
      rw [Hp.set_set] at h8
      simp (dsimp := false) (implicitDefEqProofs := false) (maxSteps := 1000000) (disch := first | omega | assumption | (simp only [rL, Nat.reduceAdd]; done) | (simp only [rL, Nat.reduceAdd]; omega)) only [↓rD, rU, ev, ofConst, ofCell, ↓reduceIte, Nat.reduceEqDiff, Nat.reduceAdd, Nat.reduceSub, Nat.reduceMul, Nat.reduceLeDiff, Nat.reduceLT, Int.reduceNeg, Int.reduceToNat, Int.reduceAdd, Int.reduceSub, Int.reduceMul, Int.reduceLT, Int.reduceLE, Int.reduceEq, rX, dg_cells, dg_fold, List.drop_succ_cons, ↓rF, rG, ne_eq, not_true_eq_false, not_false_eq_true, Int.reduceNe, List.getElem?_cons_zero, List.getElem?_cons_succ, f0, f4, f5, f6, Hp.read_of i7, Hp.stA_of j7, w2, fwC_66 og, lA, kA, zz, fk_put0 zo_ok oa]
      generalize s7.set l41 (.cells (a.C ++ zo.C)) = s8 at *
      have i8 := h8.get d12 (by rw [Hp.set_ne _ _ (Ne.symm d4112)]; exact Hp.set_same _ _ _)
      try (simp (dsimp := false) (implicitDefEqProofs := false) (maxSteps := 1000000) (disch := first | omega | assumption | (simp only [rL, Nat.reduceAdd]; done) | (simp only [rL, Nat.reduceAdd]; omega)) only [↓rD, rU, ev, ofConst, ofCell, ↓reduceIte, Nat.reduceEqDiff, Nat.reduceAdd, Nat.reduceSub, Nat.reduceMul, Nat.reduceLeDiff, Nat.reduceLT, Int.reduceNeg, Int.reduceToNat, Int.reduceAdd, Int.reduceSub, Int.reduceMul, Int.reduceLT, Int.reduceLE, Int.reduceEq, rX, dg_cells, dg_fold, List.drop_succ_cons, ↓rF, rG, ne_eq, not_true_eq_false, not_false_eq_true, Int.reduceNe, List.getElem?_cons_zero, List.getElem?_cons_succ, f0, f4, f5, f6, Hp.read_of i8, w2, fwC_66 og])
      refine call_intro (lget_spec _ _ lr _ h8) ?_
      rintro _ s9 ⟨h9, rfl⟩
      have ob := getR_ok r4
      generalize hgb : getR r4 = g at *
      obtain ⟨b, r5⟩ := g
      try simp only at h9 lp ob ⊢
      have lB := Opn.lenC ob
      have kB := Opn.cells (o := b)
      have i9 := h9.get d12 (by rw [Hp.set_ne _ _ (Ne.symm d4112)]; exact Hp.set_same _ _ _)
      have j9 := h9.get d41 (Hp.set_same _ _ _)
      have abz : (a.C ++ b.C).length = 130 := by simp [lA, lB]
      have fb := Opn.fold ob
      replace h10 := h9.other (l2 := l41) (ob := .cells (a.C ++ b.C)) d41
      rw [Hp.set_set] at h10
      simp (dsimp := false) (implicitDefEqProofs := false) (maxSteps := 1000000) (disch := first | omega | assumption | (simp only [rL, Nat.reduceAdd]; done) | (simp only [rL, Nat.reduceAdd]; omega)) only [↓rD, rU, ev, ofConst, ofCell, ↓reduceIte, Nat.reduceEqDiff, Nat.reduceAdd, Nat.reduceSub, Nat.reduceMul, Nat.reduceLeDiff, Nat.reduceLT, Int.reduceNeg, Int.reduceToNat, Int.reduceAdd, Int.reduceSub, Int.reduceMul, Int.reduceLT, Int.reduceLE, Int.reduceEq, rX, dg_cells, dg_fold, List.drop_succ_cons, ↓rF, rG, ne_eq, not_true_eq_false, not_false_eq_true, Int.reduceNe, List.getElem?_cons_zero, List.getElem?_cons_succ, f0, f4, f5, f6, Hp.read_of i9, Hp.stA_of j9, w2, fwC_66 og, lB, kB, azz, fk_put1 oa zo_ok ob]
      generalize s9.set l41 (.cells (a.C ++ b.C)) = s10 at *
      have i10 := h10.get d12 (by rw [Hp.set_ne _ _ (Ne.symm d4112)]; exact Hp.set_same _ _ _)
      have j10 := h10.get d41 (Hp.set_same _ _ _)
      have fin : ∀ (x : Bool), x = (loadP bs).2.1 → ∃ base, FS s l12 (loadP bs).1 base ∧ RS base lr (loadP bs).2.2 s10 ∧ base lr = none ∧ s l12 = none ∧ (AV.v (.bool x)) = .v (.bool (loadP bs).2.1) := by
        rintro x rfl
        refine ⟨(s.set l12 (.cells (fwC op st (.ptr l41 0)))).set l41 (.cells (a.C ++ b.C)), ?_, ?_, ?_, e12, rfl⟩
        · rw [lp]; exact ⟨l41, e41, d4112, Hp.sub_refl⟩
        · rw [lp]; exact h10
        · rw [Hp.set_ne _ _ (Ne.symm d41), Hp.set_ne _ _ (Ne.symm d12)]; exact nr
      have hfin : (loadP bs).2.1 = (good && (rightN a.n && (rightN b.n && (decide (a.n ≤ b.n) && !decide (a.sum = b.sum))))) := by rw [lp]
      cases good
      · simp (dsimp := false) (implicitDefEqProofs := false) (maxSteps := 1000000) (disch := first | omega | assumption | (simp only [rL, Nat.reduceAdd]; done) | (simp only [rL, Nat.reduceAdd]; omega)) only [↓rD, rU, ev, ofConst, ofCell, ↓reduceIte, Nat.reduceEqDiff, Nat.reduceAdd, Nat.reduceSub, Nat.reduceMul, Nat.reduceLeDiff, Nat.reduceLT, Int.reduceNeg, Int.reduceToNat, Int.reduceAdd, Int.reduceSub, Int.reduceMul, Int.reduceLT, Int.reduceLE, Int.reduceEq, rX, dg_cells, dg_fold, List.drop_succ_cons, ↓rF, rG, ne_eq, not_true_eq_false, not_false_eq_true, Int.reduceNe, List.getElem?_cons_zero, List.getElem?_cons_succ, f0, f4, f5, f6]
        exact fin false (by rw [hfin]; simp)
      have r1' := Hp.read_of i10
      have r2' := Hp.read_of j10
      have q0a := fk_at0 (b := b) oa
      have q1a := fk_at1 (b := b) oa
      have fa := Opn.fold' (o := a)
      simp (dsimp := false) (implicitDefEqProofs := false) (maxSteps := 1000000) (disch := first | omega | assumption | (simp only [rL, Nat.reduceAdd]; done) | (simp only [rL, Nat.reduceAdd]; omega)) only [↓rD, rU, ev, ofConst, ofCell, ↓reduceIte, Nat.reduceEqDiff, Nat.reduceAdd, Nat.reduceSub, Nat.reduceMul, Nat.reduceLeDiff, Nat.reduceLT, Int.reduceNeg, Int.reduceToNat, Int.reduceAdd, Int.reduceSub, Int.reduceMul, Int.reduceLT, Int.reduceLE, Int.reduceEq, rX, dg_cells, dg_fold, List.drop_succ_cons, ↓rF, rG, ne_eq, not_true_eq_false, not_false_eq_true, Int.reduceNe, List.getElem?_cons_zero, List.getElem?_cons_succ, f0, f4, f5, f6, r1', r2', w2, fwC_66 og, abz, q0a, q1a, fa, fb]
      refine call_intro (right_spec a.n a.h a.d oa.1 oa.2 _) ?_
      rintro _ s10 ⟨rfl, rfl⟩
      cases hra : rightN a.n
      · simp (dsimp := false) (implicitDefEqProofs := false) (maxSteps := 1000000) (disch := first | omega | assumption | (simp only [rL, Nat.reduceAdd]; done) | (simp only [rL, Nat.reduceAdd]; omega)) only [↓rD, rU, ev, ofConst, ofCell, ↓reduceIte, Nat.reduceEqDiff, Nat.reduceAdd, Nat.reduceSub, Nat.reduceMul, Nat.reduceLeDiff, Nat.reduceLT, Int.reduceNeg, Int.reduceToNat, Int.reduceAdd, Int.reduceSub, Int.reduceMul, Int.reduceLT, Int.reduceLE, Int.reduceEq, rX, dg_cells, dg_fold, List.drop_succ_cons, ↓rF, rG, ne_eq, not_true_eq_false, not_false_eq_true, Int.reduceNe, List.getElem?_cons_zero, List.getElem?_cons_succ, f0, f4, f5, f6]
        exact fin false (by rw [hfin, hra]; simp)
      simp (dsimp := false) (implicitDefEqProofs := false) (maxSteps := 1000000) (disch := first | omega | assumption | (simp only [rL, Nat.reduceAdd]; done) | (simp only [rL, Nat.reduceAdd]; omega)) only [↓rD, rU, ev, ofConst, ofCell, ↓reduceIte, Nat.reduceEqDiff, Nat.reduceAdd, Nat.reduceSub, Nat.reduceMul, Nat.reduceLeDiff, Nat.reduceLT, Int.reduceNeg, Int.reduceToNat, Int.reduceAdd, Int.reduceSub, Int.reduceMul, Int.reduceLT, Int.reduceLE, Int.reduceEq, rX, dg_cells, dg_fold, List.drop_succ_cons, ↓rF, rG, ne_eq, not_true_eq_false, not_false_eq_true, Int.reduceNe, List.getElem?_cons_zero, List.getElem?_cons_succ, f0, f4, f5, f6, r1', r2', w2, fwC_66 og, abz, q0a, q1a, fa, fb]
      refine call_intro (right_spec b.n b.h b.d ob.1 ob.2 _) ?_
      rintro _ s10 ⟨rfl, rfl⟩
      cases hrb : rightN b.n
      · simp (dsimp := false) (implicitDefEqProofs := false) (maxSteps := 1000000) (disch := first | omega | assumption | (simp only [rL, Nat.reduceAdd]; done) | (simp only [rL, Nat.reduceAdd]; omega)) only [↓rD, rU, ev, ofConst, ofCell, ↓reduceIte, Nat.reduceEqDiff, Nat.reduceAdd, Nat.reduceSub, Nat.reduceMul, Nat.reduceLeDiff, Nat.reduceLT, Int.reduceNeg, Int.reduceToNat, Int.reduceAdd, Int.reduceSub, Int.reduceMul, Int.reduceLT, Int.reduceLE, Int.reduceEq, rX, dg_cells, dg_fold, List.drop_succ_cons, ↓rF, rG, ne_eq, not_true_eq_false, not_false_eq_true, Int.reduceNe, List.getElem?_cons_zero, List.getElem?_cons_succ, f0, f4, f5, f6]
        exact fin false (by rw [hfin, hra, hrb]; simp)
      have m0a : mkv false 1 (a.C ++ b.C) = .v (.int .i64 a.n) := rfl
      simp (dsimp := false) (implicitDefEqProofs := false) (maxSteps := 1000000) (disch := first | omega | assumption | (simp only [rL, Nat.reduceAdd]; done) | (simp only [rL, Nat.reduceAdd]; omega)) only [↓rD, rU, ev, ofConst, ofCell, ↓reduceIte, Nat.reduceEqDiff, Nat.reduceAdd, Nat.reduceSub, Nat.reduceMul, Nat.reduceLeDiff, Nat.reduceLT, Int.reduceNeg, Int.reduceToNat, Int.reduceAdd, Int.reduceSub, Int.reduceMul, Int.reduceLT, Int.reduceLE, Int.reduceEq, rX, dg_cells, dg_fold, List.drop_succ_cons, ↓rF, rG, ne_eq, not_true_eq_false, not_false_eq_true, Int.reduceNe, List.getElem?_cons_zero, List.getElem?_cons_succ, f0, f4, f5, f6, r1', r2', w2, fwC_66 og, abz, q0a, q1a, fa, fb, m0a, Opn.m0]
      by_cases c4 : ¬ a.n ≤ b.n
      · simp (dsimp := false) (implicitDefEqProofs := false) (maxSteps := 1000000) (disch := first | omega | assumption | (simp only [rL, Nat.reduceAdd]; done) | (simp only [rL, Nat.reduceAdd]; omega)) only [↓rD, rU, ev, ofConst, ofCell, ↓reduceIte, Nat.reduceEqDiff, Nat.reduceAdd, Nat.reduceSub, Nat.reduceMul, Nat.reduceLeDiff, Nat.reduceLT, Int.reduceNeg, Int.reduceToNat, Int.reduceAdd, Int.reduceSub, Int.reduceMul, Int.reduceLT, Int.reduceLE, Int.reduceEq, rX, dg_cells, dg_fold, List.drop_succ_cons, ↓rF, rG, ne_eq, not_true_eq_false, not_false_eq_true, Int.reduceNe, List.getElem?_cons_zero, List.getElem?_cons_succ, f0, f4, f5, f6, c4]
        exact fin false (by rw [hfin, hra, hrb]; simp [c4])
      have c4 := Decidable.not_not.1 c4
      simp (dsimp := false) (implicitDefEqProofs := false) (maxSteps := 1000000) (disch := first | omega | assumption | (simp only [rL, Nat.reduceAdd]; done) | (simp only [rL, Nat.reduceAdd]; omega)) only [↓rD, rU, ev, ofConst, ofCell, ↓reduceIte, Nat.reduceEqDiff, Nat.reduceAdd, Nat.reduceSub, Nat.reduceMul, Nat.reduceLeDiff, Nat.reduceLT, Int.reduceNeg, Int.reduceToNat, Int.reduceAdd, Int.reduceSub, Int.reduceMul, Int.reduceLT, Int.reduceLE, Int.reduceEq, rX, dg_cells, dg_fold, List.drop_succ_cons, ↓rF, rG, ne_eq, not_true_eq_false, not_false_eq_true, Int.reduceNe, List.getElem?_cons_zero, List.getElem?_cons_succ, f0, f4, f5, f6, r1', r2', w2, fwC_66 og, abz, q0a, q1a, fa, fb, m0a, Opn.m0, c4]
      refine call_intro (bdigest_spec a.n a.h a.d oa.1 oa.2 _) ?_
      rintro _ s10 ⟨rfl, rfl⟩
      simp (dsimp := false) (implicitDefEqProofs := false) (maxSteps := 1000000) (disch := first | omega | assumption | (simp only [rL, Nat.reduceAdd]; done) | (simp only [rL, Nat.reduceAdd]; omega)) only [↓rD, rU, ev, ofConst, ofCell, ↓reduceIte, Nat.reduceEqDiff, Nat.reduceAdd, Nat.reduceSub, Nat.reduceMul, Nat.reduceLeDiff, Nat.reduceLT, Int.reduceNeg, Int.reduceToNat, Int.reduceAdd, Int.reduceSub, Int.reduceMul, Int.reduceLT, Int.reduceLE, Int.reduceEq, rX, dg_cells, dg_fold, List.drop_succ_cons, ↓rF, rG, ne_eq, not_true_eq_false, not_false_eq_true, Int.reduceNe, List.getElem?_cons_zero, List.getElem?_cons_succ, f0, f4, f5, f6, r1', r2', w2, fwC_66 og, abz, q0a, q1a, fa, fb, m0a, Opn.m0, c4]
      refine call_intro (bdigest_spec b.n b.h b.d ob.1 ob.2 _) ?_
      rintro _ s10 ⟨rfl, rfl⟩
      have qa : a.sum.length = 32 := sha256_length _
      have qb : b.sum.length = 32 := sha256_length _
      have ea : sha256 (digPre a.n a.h a.d) = a.sum := rfl
      have eb : sha256 (digPre b.n b.h b.d) = b.sum := rfl
      rw [ea, eb]
      simp (dsimp := false) (implicitDefEqProofs := false) (maxSteps := 1000000) (disch := first | omega | assumption | (simp only [rL, Nat.reduceAdd]; done) | (simp only [rL, Nat.reduceAdd]; omega)) only [↓rD, rU, ev, ofConst, ofCell, ↓reduceIte, Nat.reduceEqDiff, Nat.reduceAdd, Nat.reduceSub, Nat.reduceMul, Nat.reduceLeDiff, Nat.reduceLT, Int.reduceNeg, Int.reduceToNat, Int.reduceAdd, Int.reduceSub, Int.reduceMul, Int.reduceLT, Int.reduceLE, Int.reduceEq, rX, dg_cells, dg_fold, List.drop_succ_cons, ↓rF, rG, ne_eq, not_true_eq_false, not_false_eq_true, Int.reduceNe, List.getElem?_cons_zero, List.getElem?_cons_succ, f0, f4, f5, f6, qa, qb, eqvK_dg, c4]
      exact fin (!decide (a.sum = b.sum)) (by rw [hfin, hra, hrb]; simp [c4])
    · rintro rfl
      simp only [Bool.false_eq_true, if_false] at lp
      simp (dsimp := false) (implicitDefEqProofs := false) (maxSteps := 1000000) (disch := first | omega | assumption | (simp only [rL, Nat.reduceAdd]; done) | (simp only [rL, Nat.reduceAdd]; omega)) only [↓rD, rU, ev, ofConst, ofCell, ↓reduceIte, Nat.reduceEqDiff, Nat.reduceAdd, Nat.reduceSub, Nat.reduceMul, Nat.reduceLeDiff, Nat.reduceLT, Int.reduceNeg, Int.reduceToNat, Int.reduceAdd, Int.reduceSub, Int.reduceMul, Int.reduceLT, Int.reduceLE, Int.reduceEq, rX, dg_cells, dg_fold, List.drop_succ_cons, ↓rF, rG, ne_eq, not_true_eq_false, not_false_eq_true, Int.reduceNe, List.getElem?_cons_zero, List.getElem?_cons_succ, f0, f4, f5, f6]
      rw [lp]
      refine ⟨_, ?_, h5, ?_, e12, rfl⟩
      · exact Hp.sub_refl
      · rw [Hp.set_ne _ _ (Ne.symm d12)]; exact nr
    · rintro g s6 ⟨base, b1, b2, b3, b4, g0, g4, g5, g6⟩
      simp (dsimp := false) (implicitDefEqProofs := false) (maxSteps := 1000000) (disch := first | omega | assumption | (simp only [rL, Nat.reduceAdd]; done) | (simp only [rL, Nat.reduceAdd]; omega)) only [↓rD, rU, ev, ofConst, ofCell, ↓reduceIte, Nat.reduceEqDiff, Nat.reduceAdd, Nat.reduceSub, Nat.reduceMul, Nat.reduceLeDiff, Nat.reduceLT, Int.reduceNeg, Int.reduceToNat, Int.reduceAdd, Int.reduceSub, Int.reduceMul, Int.reduceLT, Int.reduceLE, Int.reduceEq, rX, dg_cells, dg_fold, List.drop_succ_cons, ↓rF, rG, ne_eq, not_true_eq_false, not_false_eq_true, Int.reduceNe, List.getElem?_cons_zero, List.getElem?_cons_succ, g0, g4, g5, g6]
      refine call_intro (rend_spec _ _ lr _ b2) ?_
      rintro _ s7 ⟨h7, rfl⟩
      have hsub : s.sub s7 := by
        have hs0 : s.sub base := b1.sub b4
        exact Hp.sub_trans hs0 (h7.sub b3)
      have b1' := b1.mono (h7.sub b3)
      clear lp
      unfold loadF
      generalize loadP bs = P at *
      obtain ⟨F, gd, rr⟩ := P
      simp only at b1' h7 hlok g6 ⊢
      by_cases c1 : ¬ (endR rr).e = 0
      · have e : ¬ ((endR rr).e = 0 ∧ gd = true ∧ saveB F = bs) := fun h => c1 h.1
        rw [if_neg e]
        simp (dsimp := false) (implicitDefEqProofs := false) (maxSteps := 1000000) (disch := first | omega | assumption | (simp only [rL, Nat.reduceAdd]; done) | (simp only [rL, Nat.reduceAdd]; omega)) only [↓rD, rU, ev, ofConst, ofCell, ↓reduceIte, Nat.reduceEqDiff, Nat.reduceAdd, Nat.reduceSub, Nat.reduceMul, Nat.reduceLeDiff, Nat.reduceLT, Int.reduceNeg, Int.reduceToNat, Int.reduceAdd, Int.reduceSub, Int.reduceMul, Int.reduceLT, Int.reduceLE, Int.reduceEq, rX, dg_cells, dg_fold, List.drop_succ_cons, ↓rF, rG, ne_eq, not_true_eq_false, not_false_eq_true, Int.reduceNe, List.getElem?_cons_zero, List.getElem?_cons_succ, g0, g4, g5, g6, c1]
        exact ⟨s, hsub, rfl⟩
      have c1 := Decidable.not_not.1 c1
      cases gd
      · rw [if_neg (by simp)]
        simp (dsimp := false) (implicitDefEqProofs := false) (maxSteps := 1000000) (disch := first | omega | assumption | (simp only [rL, Nat.reduceAdd]; done) | (simp only [rL, Nat.reduceAdd]; omega)) only [↓rD, rU, ev, ofConst, ofCell, ↓reduceIte, Nat.reduceEqDiff, Nat.reduceAdd, Nat.reduceSub, Nat.reduceMul, Nat.reduceLeDiff, Nat.reduceLT, Int.reduceNeg, Int.reduceToNat, Int.reduceAdd, Int.reduceSub, Int.reduceMul, Int.reduceLT, Int.reduceLE, Int.reduceEq, rX, dg_cells, dg_fold, List.drop_succ_cons, ↓rF, rG, ne_eq, not_true_eq_false, not_false_eq_true, Int.reduceNe, List.getElem?_cons_zero, List.getElem?_cons_succ, g0, g4, g5, g6, c1]
        exact ⟨s, hsub, rfl⟩
      simp (dsimp := false) (implicitDefEqProofs := false) (maxSteps := 1000000) (disch := first | omega | assumption | (simp only [rL, Nat.reduceAdd]; done) | (simp only [rL, Nat.reduceAdd]; omega)) only [↓rD, rU, ev, ofConst, ofCell, ↓reduceIte, Nat.reduceEqDiff, Nat.reduceAdd, Nat.reduceSub, Nat.reduceMul, Nat.reduceLeDiff, Nat.reduceLT, Int.reduceNeg, Int.reduceToNat, Int.reduceAdd, Int.reduceSub, Int.reduceMul, Int.reduceLT, Int.reduceLE, Int.reduceEq, rX, dg_cells, dg_fold, List.drop_succ_cons, ↓rF, rG, ne_eq, not_true_eq_false, not_false_eq_true, Int.reduceNe, List.getElem?_cons_zero, List.getElem?_cons_succ, g0, g4, g5, g6, c1]
      refine call_intro (Save_spec s s7 l12 F hlok b1') ?_
      rintro _ s8 ⟨o8, h8, rfl⟩
      simp (dsimp := false) (implicitDefEqProofs := false) (maxSteps := 1000000) (disch := first | omega | assumption | (simp only [rL, Nat.reduceAdd]; done) | (simp only [rL, Nat.reduceAdd]; omega)) only [↓rD, rU, ev, ofConst, ofCell, ↓reduceIte, Nat.reduceEqDiff, Nat.reduceAdd, Nat.reduceSub, Nat.reduceMul, Nat.reduceLeDiff, Nat.reduceLT, Int.reduceNeg, Int.reduceToNat, Int.reduceAdd, Int.reduceSub, Int.reduceMul, Int.reduceLT, Int.reduceLE, Int.reduceEq, rX, dg_cells, dg_fold, List.drop_succ_cons, ↓rF, rG, ne_eq, not_true_eq_false, not_false_eq_true, Int.reduceNe, List.getElem?_cons_zero, List.getElem?_cons_succ, g0, g4, g5, g6, c1]
      have := saveB_length hlok
      refine call_intro (equal_spec (saveB F) bs o8 o s8 (by omega)) ?_
      rintro _ s8 ⟨rfl, rfl⟩
      by_cases c3 : saveB F = bs
      · rw [if_pos ⟨c1, rfl, c3⟩]
        simp (dsimp := false) (implicitDefEqProofs := false) (maxSteps := 1000000) (disch := first | omega | assumption | (simp only [rL, Nat.reduceAdd]; done) | (simp only [rL, Nat.reduceAdd]; omega)) only [↓rD, rU, ev, ofConst, ofCell, ↓reduceIte, Nat.reduceEqDiff, Nat.reduceAdd, Nat.reduceSub, Nat.reduceMul, Nat.reduceLeDiff, Nat.reduceLT, Int.reduceNeg, Int.reduceToNat, Int.reduceAdd, Int.reduceSub, Int.reduceMul, Int.reduceLT, Int.reduceLE, Int.reduceEq, rX, dg_cells, dg_fold, List.drop_succ_cons, ↓rF, rG, ne_eq, not_true_eq_false, not_false_eq_true, Int.reduceNe, List.getElem?_cons_zero, List.getElem?_cons_succ, g0, g4, g5, g6, c3]
        exact ⟨_, Hp.sub_refl, l12, b4, rfl, b1'.mono h8.sub⟩
      · rw [if_neg (fun h => c3 h.2.2)]
        simp (dsimp := false) (implicitDefEqProofs := false) (maxSteps := 1000000) (disch := first | omega | assumption | (simp only [rL, Nat.reduceAdd]; done) | (simp only [rL, Nat.reduceAdd]; omega)) only [↓rD, rU, ev, ofConst, ofCell, ↓reduceIte, Nat.reduceEqDiff, Nat.reduceAdd, Nat.reduceSub, Nat.reduceMul, Nat.reduceLeDiff, Nat.reduceLT, Int.reduceNeg, Int.reduceToNat, Int.reduceAdd, Int.reduceSub, Int.reduceMul, Int.reduceLT, Int.reduceLE, Int.reduceEq, rX, dg_cells, dg_fold, List.drop_succ_cons, ↓rF, rG, ne_eq, not_true_eq_false, not_false_eq_true, Int.reduceNe, List.getElem?_cons_zero, List.getElem?_cons_succ, g0, g4, g5, g6, c3]
        exact ⟨s, Hp.sub_trans hsub h8.sub, rfl⟩
  · cases hr : rightN op.n
    · simp (dsimp := false) (implicitDefEqProofs := false) (maxSteps := 1000000) (disch := first | omega | assumption | (simp only [rL, Nat.reduceAdd]; done) | (simp only [rL, Nat.reduceAdd]; omega)) only [↓rD, rU, ev, ofConst, ofCell, ↓reduceIte, Nat.reduceEqDiff, Nat.reduceAdd, Nat.reduceSub, Nat.reduceMul, Nat.reduceLeDiff, Nat.reduceLT, Int.reduceNeg, Int.reduceToNat, Int.reduceAdd, Int.reduceSub, Int.reduceMul, Int.reduceLT, Int.reduceLE, Int.reduceEq, rX, dg_cells, dg_fold, List.drop_succ_cons, ↓rF, rG, ne_eq, not_true_eq_false, not_false_eq_true, Int.reduceNe, List.getElem?_cons_zero, List.getElem?_cons_succ, Hp.read_of g4, w1, fwC_65 og]
    · by_cases c1 : 0 ≤ st
      · simp (dsimp := false) (implicitDefEqProofs := false) (maxSteps := 1000000) (disch := first | omega | assumption | (simp only [rL, Nat.reduceAdd]; done) | (simp only [rL, Nat.reduceAdd]; omega)) only [↓rD, rU, ev, ofConst, ofCell, ↓reduceIte, Nat.reduceEqDiff, Nat.reduceAdd, Nat.reduceSub, Nat.reduceMul, Nat.reduceLeDiff, Nat.reduceLT, Int.reduceNeg, Int.reduceToNat, Int.reduceAdd, Int.reduceSub, Int.reduceMul, Int.reduceLT, Int.reduceLE, Int.reduceEq, rX, dg_cells, dg_fold, List.drop_succ_cons, ↓rF, rG, ne_eq, not_true_eq_false, not_false_eq_true, Int.reduceNe, List.getElem?_cons_zero, List.getElem?_cons_succ, Hp.read_of g4, w1, fwC_65 og, c1]
      · simp (dsimp := false) (implicitDefEqProofs := false) (maxSteps := 1000000) (disch := first | omega | assumption | (simp only [rL, Nat.reduceAdd]; done) | (simp only [rL, Nat.reduceAdd]; omega)) only [↓rD, rU, ev, ofConst, ofCell, ↓reduceIte, Nat.reduceEqDiff, Nat.reduceAdd, Nat.reduceSub, Nat.reduceMul, Nat.reduceLeDiff, Nat.reduceLT, Int.reduceNeg, Int.reduceToNat, Int.reduceAdd, Int.reduceSub, Int.reduceMul, Int.reduceLT, Int.reduceLE, Int.reduceEq, rX, dg_cells, dg_fold, List.drop_succ_cons, ↓rF, rG, ne_eq, not_true_eq_false, not_false_eq_true, Int.reduceNe, List.getElem?_cons_zero, List.getElem?_cons_succ, Hp.read_of g4, w1, fwC_65 og, c1]
end Go.Proofs.Ytapjikladjoicaa
/-
  The plain law of LightKeeps: what grew from a history and has another item at a place makes two unlike texts with one sum.
-/
set_option maxRecDepth 100000
namespace Go.Proofs.Ytapjikladjoicaa
open Go Go.Av

/-- two unlike texts that have one sum -/
def Cl (ts : List (List UInt8)) : Prop := ∃ a ∈ ts, ∃ b ∈ ts, sha256 a = sha256 b ∧ a ≠ b
theorem Cl.mono {a b : List (List UInt8)} (h : Cl a) (hs : ∀ t ∈ a, t ∈ b) : Cl b := by
  obtain ⟨x, hx, y, hy, h1, h2⟩ := h
  exact ⟨x, hs x hx, y, hs y hy, h1, h2⟩
theorem Cl.of {ts : List (List UInt8)} {a b : List UInt8} (ha : a ∈ ts) (hb : b ∈ ts) (h : sha256 a = sha256 b) (hn : a ≠ b) : Cl ts := ⟨a, ha, b, hb, h, hn⟩

theorem leafB_inj {a b : List UInt8} (ha : a.length = 32) (hb : b.length = 32) (h : leafB a = leafB b) : a = b := by
  simpa [leafB, preB, chunk, ha, hb] using h
theorem nodeB_inj {a b c d : List UInt8} (ha : a.length = 32) (hb : b.length = 32) (hc : c.length = 32) (hd : d.length = 32) (h : nodeB a b = nodeB c d) : a = c ∧ b = d := by
  simp only [nodeB, preB, chunk, ha, hb, hc, hd, List.flatMap_cons, List.flatMap_nil, List.append_nil, List.append_assoc, List.cons.injEq, true_and, List.append_cancel_left_eq] at h
  obtain ⟨h1, h2⟩ := List.append_inj h (by rw [ha, hc])
  exact ⟨h1, List.append_cancel_left h2⟩

theorem half_eq {m n : Nat} (h : half n < m) (h2 : m ≤ n) (hn : 2 ≤ n) : half m = half n := by
  have h3 : (m - 1).log2 = (n - 1).log2 := by
    have hk : 2 ^ (n - 1).log2 ≤ m - 1 := by unfold half at h; omega
    have hu : n - 1 < 2 ^ ((n - 1).log2 + 1) := Nat.lt_log2_self
    exact (Nat.log2_eq_iff (by have := Nat.pow_pos (n := (n - 1).log2) (show 0 < 2 by omega); omega)).2 ⟨hk, by omega⟩
  rw [half, half, h3]

theorem takeF_false {ds d1 : List (List UInt8)} {o : List UInt8} {lk : Bool} (h : takeF ds false = (o, d1, lk)) (hd : Digs ds) : o.length = 32 ∧ Digs d1 := by
  obtain ⟨t1, t2, _⟩ := takeF_digs (lk := false) hd
  rw [h] at t1 t2
  exact ⟨t1, t2⟩

theorem up_up : ∀ (N n i : Nat) (u v : List UInt8) (p q : List (List UInt8)), n = N → i < n → u.length = 32 → v.length = 32 → Digs p → Digs q → (upF n i u p).2.2.2 = false → (upF n i v q).2.2.2 = false →
    (upF n i u p).1 = (upF n i v q).1 → u ≠ v → Cl ((upF n i u p).2.2.1 ++ (upF n i v q).2.2.1) := by
  intro N
  induction N using Nat.strongRecOn with
  | _ N ih =>
  intro n i u v p q hN hi hu hv hp hq l1 l2 he hne
  by_cases h : n < 2
  · rw [upF_leaf h, upF_leaf h] at he ⊢
    exact Cl.of (a := leafB u) (b := leafB v) (by simp) (by simp) he fun hh => hne (leafB_inj hu hv hh)
  · generalize ht : takeF p false = tp at *
    obtain ⟨o1, p1, k1⟩ := tp
    generalize ht2 : takeF q false = tq at *
    obtain ⟨o2, q1, k2⟩ := tq
    obtain ⟨e1, e2⟩ := takeF_false ht hp
    obtain ⟨e3, e4⟩ := takeF_false ht2 hq
    cases k1 with
    | true => rw [upF_lack h ht] at l1; cases l1
    | false =>
    cases k2 with
    | true => rw [upF_lack h ht2] at l2; cases l2
    | false =>
    have hlt := half_lt n (by omega)
    have hpos := half_pos n
    by_cases hk : i < half n
    · rw [upF_left h ht hk] at l1 he ⊢
      rw [upF_left h ht2 hk] at l2 he ⊢
      simp only at l1 l2 he ⊢
      have g1 := (upF_ok _ (half n) i u p1 rfl e2).1
      have g2 := (upF_ok _ (half n) i v q1 rfl e4).1
      by_cases hx : (upF (half n) i u p1).1 = (upF (half n) i v q1).1
      · refine (ih (half n) (by omega) (half n) i u v p1 q1 rfl hk hu hv e2 e4 l1 l2 hx hne).mono ?_
        intro t ht; simp only [List.mem_append] at ht ⊢; rcases ht with ht | ht; exact .inl (.inl ht); exact .inr (.inl ht)
      · exact Cl.of (by simp) (by simp) he fun hh => hx (nodeB_inj g1 e1 g2 e3 hh).1
    · rw [upF_right h ht hk] at l1 he ⊢
      rw [upF_right h ht2 hk] at l2 he ⊢
      simp only at l1 l2 he ⊢
      have g1 := (upF_ok _ (n - half n) (i - half n) u p1 rfl e2).1
      have g2 := (upF_ok _ (n - half n) (i - half n) v q1 rfl e4).1
      by_cases hx : (upF (n - half n) (i - half n) u p1).1 = (upF (n - half n) (i - half n) v q1).1
      · refine (ih (n - half n) (by omega) (n - half n) (i - half n) u v p1 q1 rfl (by omega) hu hv e2 e4 l1 l2 hx hne).mono ?_
        intro t ht; simp only [List.mem_append] at ht ⊢; rcases ht with ht | ht; exact .inl (.inl ht); exact .inr (.inl ht)
      · exact Cl.of (by simp) (by simp) he fun hh => hx (nodeB_inj e1 g1 e3 g2 hh).2

theorem keep_up : ∀ (N : Nat) (a : List UInt8) (m n : Nat) (own : Bool) (g : List (List UInt8)) (i : Nat) (u v : List UInt8) (p q : List (List UInt8)), n = N → i < m → m ≤ n → a.length = 32 → Digs g → u.length = 32 → v.length = 32 → Digs p → Digs q →
    (bothF a m n own g).lk = false → (upF m i u p).2.2.2 = false → (upF n i v q).2.2.2 = false → (upF m i u p).1 = (bothF a m n own g).x → (upF n i v q).1 = (bothF a m n own g).y → u ≠ v →
    Cl ((upF m i u p).2.2.1 ++ (upF n i v q).2.2.1 ++ (bothF a m n own g).ts) := by
  intro N
  induction N using Nat.strongRecOn with
  | _ N ih =>
  intro a m n own g i u v p q hN him hmn ha hg hu hv hp hq l0 l1 l2 hx hy hne
  by_cases hmn0 : m = n ∧ own = true
  · obtain ⟨rfl, rfl⟩ := hmn0
    rw [bothF_own] at hx hy
    refine (up_up _ m i u v p q rfl him hu hv hp hq l1 l2 (hx.trans hy.symm) hne).mono ?_
    intro t ht; exact List.mem_append_left _ ht
  · generalize htg : takeF g false = tg at *
    obtain ⟨o0, g1, k0⟩ := tg
    obtain ⟨eo, eg⟩ := takeF_false htg hg
    by_cases h2 : k0 = true ∨ m = n
    · rw [bothF_end hmn0 htg h2] at l0 hx hy ⊢
      simp only at l0 hx hy
      subst l0
      have hm : m = n := by simpa using h2
      subst hm
      refine (up_up _ m i u v p q rfl him hu hv hp hq l1 l2 (hx.trans hy.symm) hne).mono ?_
      intro t ht; exact List.mem_append_left _ ht
    · have hk0 : k0 = false := by cases k0 <;> simp_all
      subst hk0
      have hmn' : m ≠ n := by omega
      have hn2 : ¬ n < 2 := by omega
      have hlt := half_lt n (by omega)
      have hpos := half_pos n
      generalize htq : takeF q false = tq at *
      obtain ⟨o2, q1, k2⟩ := tq
      obtain ⟨e3, e4⟩ := takeF_false htq hq
      cases k2 with
      | true => rw [upF_lack hn2 htq] at l2; cases l2
      | false =>
      by_cases hk : m ≤ half n
      · rw [bothF_left hmn' (by omega) htg hk] at l0 hx hy ⊢
        have hik : i < half n := by omega
        rw [upF_left hn2 htq hik] at l2 hy ⊢
        simp only at l0 l2 hx hy ⊢
        have gb := (bothF_ok _ a m (half n) own g1 rfl (by omega) hk ha eg).2.1
        have g2 := (upF_ok _ (half n) i v q1 rfl e4).1
        by_cases he : (upF (half n) i v q1).1 = (bothF a m (half n) own g1).y
        · refine (ih (half n) (by omega) a m (half n) own g1 i u v p q1 rfl him hk ha eg hu hv hp e4 l0 l1 l2 hx he hne).mono ?_
          intro t ht; simp only [List.mem_append] at ht ⊢
          rcases ht with (ht | ht) | ht
          · exact .inl (.inl ht)
          · exact .inl (.inr (.inl ht))
          · exact .inr (.inl ht)
        · exact Cl.of (by simp) (by simp) hy fun hh => he (nodeB_inj g2 e3 gb eo hh).1
      · have hhm : half m = half n := half_eq (by omega) hmn (by omega)
        have hm2 : ¬ m < 2 := by omega
        rw [bothF_right hmn' (by omega) htg hk] at l0 hx hy ⊢
        generalize htp : takeF p false = tp at *
        obtain ⟨o1, p1, k1⟩ := tp
        obtain ⟨e1, e2⟩ := takeF_false htp hp
        cases k1 with
        | true => rw [upF_lack hm2 htp] at l1; cases l1
        | false =>
        simp only at l0 hx hy ⊢
        obtain ⟨gx, gy, _⟩ := bothF_ok _ a (m - half n) (n - half n) false g1 rfl (by omega) (by omega) ha eg
        by_cases hik : i < half n
        · rw [upF_left hm2 htp (by omega), hhm] at l1 hx ⊢
          rw [upF_left hn2 htq hik] at l2 hy ⊢
          simp only at l1 l2 hx hy ⊢
          have ga := (upF_ok _ (half n) i u p1 rfl e2).1
          have gb := (upF_ok _ (half n) i v q1 rfl e4).1
          by_cases h1 : (upF (half n) i u p1).1 = o0
          · by_cases h3 : (upF (half n) i v q1).1 = o0
            · refine (up_up _ (half n) i u v p1 q1 rfl hik hu hv e2 e4 l1 l2 (h1.trans h3.symm) hne).mono ?_
              intro t ht; simp only [List.mem_append] at ht ⊢
              rcases ht with ht | ht
              · exact .inl (.inl (.inl ht))
              · exact .inl (.inr (.inl ht))
            · exact Cl.of (by simp) (by simp) hy fun hh => h3 (nodeB_inj gb e3 eo gy hh).1
          · exact Cl.of (by simp) (by simp) hx fun hh => h1 (nodeB_inj ga e1 eo gx hh).1
        · rw [upF_right hm2 htp (by omega), hhm] at l1 hx ⊢
          rw [upF_right hn2 htq hik] at l2 hy ⊢
          simp only at l1 l2 hx hy ⊢
          have ga := (upF_ok _ (m - half n) (i - half n) u p1 rfl e2).1
          have gb := (upF_ok _ (n - half n) (i - half n) v q1 rfl e4).1
          by_cases h1 : (upF (m - half n) (i - half n) u p1).1 = (bothF a (m - half n) (n - half n) false g1).x
          · by_cases h3 : (upF (n - half n) (i - half n) v q1).1 = (bothF a (m - half n) (n - half n) false g1).y
            · refine (ih (n - half n) (by omega) a (m - half n) (n - half n) false g1 (i - half n) u v p1 q1 rfl (by omega) (by omega) ha eg hu hv e2 e4 l0 l1 l2 h1 h3 hne).mono ?_
              intro t ht; simp only [List.mem_append] at ht ⊢
              rcases ht with (ht | ht) | ht
              · exact .inl (.inl (.inl ht))
              · exact .inl (.inr (.inl ht))
              · exact .inr (.inl ht)
            · exact Cl.of (by simp) (by simp) hy fun hh => h3 (nodeB_inj e3 gb eo gy hh).2
          · exact Cl.of (by simp) (by simp) hx fun hh => h1 (nodeB_inj e1 ga eo gx hh).2

theorem takeF_snoc {ds : List (List UInt8)} {d : List UInt8} : takeF (ds ++ [d]) false = (d, ds, false) := by simp [takeF]

/-- a path's own sums make the root -/
theorem path_up : ∀ (N : Nat) (l : List (List UInt8)) (i : Nat) (ds : List (List UInt8)), l.length = N → i < l.length →
    (upF l.length i (l.getD i zd) (ds ++ pathD l i)).1 = rootD l ∧ (upF l.length i (l.getD i zd) (ds ++ pathD l i)).2.1 = ds ∧ (upF l.length i (l.getD i zd) (ds ++ pathD l i)).2.2.2 = false := by
  intro N
  induction N using Nat.strongRecOn with
  | _ N ih =>
  intro l i ds hN hi
  by_cases h : l.length < 2
  · rw [upF_leaf h, pathD_leaf h]
    match l, h, hi with
    | [d], _, hi =>
      have : i = 0 := by simpa using hi
      subst this
      exact ⟨(rootD_one d).symm, by simp, rfl⟩
  · have hlt := half_lt l.length (by omega)
    have hpos := half_pos l.length
    by_cases hk : i < half l.length
    · rw [pathD_left h hk, ← List.append_assoc, upF_left h takeF_snoc hk]
      have hl : (l.take (half l.length)).length = half l.length := by simp; omega
      have hg : (l.take (half l.length)).getD i zd = l.getD i zd := by simp [List.getD, hk]
      obtain ⟨a1, a2, a3⟩ := ih (half l.length) (by omega) (l.take (half l.length)) i ds hl (by omega)
      rw [hl, hg] at a1 a2 a3
      exact ⟨by simp only [a1]; exact (rootD_node l (by omega)).symm, a2, a3⟩
    · rw [pathD_right h hk, ← List.append_assoc, upF_right h takeF_snoc hk]
      have hl : (l.drop (half l.length)).length = l.length - half l.length := by simp
      have hg : (l.drop (half l.length)).getD (i - half l.length) zd = l.getD i zd := by
        simp only [List.getD, List.getElem?_drop]; rw [show half l.length + (i - half l.length) = i by omega]
      obtain ⟨a1, a2, a3⟩ := ih (l.length - half l.length) (by omega) (l.drop (half l.length)) (i - half l.length) ds hl (by omega)
      rw [hl, hg] at a1 a2 a3
      exact ⟨by simp only [a1]; exact (rootD_node l (by omega)).symm, a2, a3⟩

/-- the honest growth is taken -/
theorem grow_both : ∀ (N : Nat) (a : List UInt8) (l : List (List UInt8)) (m : Nat) (own : Bool) (ds : List (List UInt8)), l.length = N → 1 ≤ m → m ≤ l.length → (own = true → a = rootD (l.take m)) →
    (bothF a m l.length own (ds ++ restD l m own)).x = rootD (l.take m) ∧ (bothF a m l.length own (ds ++ restD l m own)).y = rootD l ∧ (bothF a m l.length own (ds ++ restD l m own)).ds = ds ∧ (bothF a m l.length own (ds ++ restD l m own)).lk = false := by
  intro N
  induction N using Nat.strongRecOn with
  | _ N ih =>
  intro a l m own ds hN h1 hm ha
  by_cases hml : m = l.length
  · subst hml
    cases own with
    | true => rw [restD_own rfl, bothF_own, ha rfl, List.take_of_length_le (Nat.le_refl _)]; exact ⟨rfl, rfl, by simp, rfl⟩
    | false => rw [restD_all rfl, bothF_end (by simp) takeF_snoc (.inr rfl), List.take_of_length_le (Nat.le_refl _)]; exact ⟨rfl, rfl, rfl, rfl⟩
  · have hlt := half_lt l.length (by omega)
    have hpos := half_pos l.length
    have hr : ¬ (l.length < 2 ∨ m = l.length) := by omega
    by_cases hk : m ≤ half l.length
    · rw [restD_left hr hk, ← List.append_assoc, bothF_left hml (by omega) takeF_snoc hk]
      have hl : (l.take (half l.length)).length = half l.length := by simp; omega
      have ht : (l.take (half l.length)).take m = l.take m := by rw [List.take_take, Nat.min_eq_left hk]
      obtain ⟨a1, a2, a3, a4⟩ := ih (half l.length) (by omega) a (l.take (half l.length)) m own ds hl h1 (by omega) (by rw [ht]; exact ha)
      rw [hl] at a1 a2 a3 a4
      rw [ht] at a1
      exact ⟨a1, by simp only [a2]; exact (rootD_node l (by omega)).symm, a3, a4⟩
    · rw [restD_right hr hk, ← List.append_assoc, bothF_right hml (by omega) takeF_snoc hk]
      have hl : (l.drop (half l.length)).length = l.length - half l.length := by simp
      obtain ⟨a1, a2, a3, a4⟩ := ih (l.length - half l.length) (by omega) a (l.drop (half l.length)) (m - half l.length) false ds hl (by omega) (by omega) (by simp)
      rw [hl] at a1 a2 a3 a4
      have hhm : half m = half l.length := half_eq (by omega) hm (by omega)
      have htl : (l.take m).length = m := by simp; omega
      have e1 : (l.take m).take (half m) = l.take (half l.length) := by rw [List.take_take, hhm, Nat.min_eq_left (by omega)]
      have e2 : (l.take m).drop (half m) = (l.drop (half l.length)).take (m - half l.length) := by rw [hhm, List.drop_take]
      have er := rootD_node (l.take m) (by omega)
      rw [htl, e1, e2] at er
      exact ⟨by simp only [a1]; exact er.symm, by simp only [a2]; exact (rootD_node l (by omega)).symm, a3, a4⟩
end Go.Proofs.Ytapjikladjoicaa
/-
  The document's example in numbers: the digests of two small openings are unlike.
-/
set_option maxRecDepth 100000
namespace Go.Proofs.Ytapjikladjoicaa
open Go Go.Av

def exD (b : UInt8) : List UInt8 := b :: List.replicate 31 0
def exL : List (List UInt8) := [exD 1, exD 2, exD 3]
theorem exL_digs : Digs exL := by
  intro d hd; simp only [exL, List.mem_cons, List.not_mem_nil, or_false] at hd
  rcases hd with rfl | rfl | rfl <;> rfl
def exA : Opn := ⟨1, rootD [exD 1], exD 1⟩
def exB : Opn := ⟨3, rootD exL, exD 3⟩
theorem exA_ok : exA.ok := ⟨rootD_length _, rfl⟩
theorem exB_ok : exB.ok := ⟨rootD_length _, rfl⟩
theorem half2 : half 2 = 1 := by decide
theorem half3 : half 3 = 2 := by decide
theorem root_exL : rootD exL = sha256 (nodeB (sha256 (nodeB (sha256 (leafB (exD 1))) (sha256 (leafB (exD 2))))) (sha256 (leafB (exD 3)))) := by
  rw [rootD_node exL (by simp [exL])]
  have e : half exL.length = 2 := half3
  rw [e]
  have e1 : exL.take 2 = [exD 1, exD 2] := rfl
  have e2 : exL.drop 2 = [exD 3] := rfl
  rw [e1, e2, rootD_one, rootD_node [exD 1, exD 2] (by simp)]
  have e3 : half [exD 1, exD 2].length = 1 := half2
  rw [e3]
  have e4 : [exD 1, exD 2].take 1 = [exD 1] := rfl
  have e5 : [exD 1, exD 2].drop 1 = [exD 2] := rfl
  rw [e4, e5, rootD_one, rootD_one]
theorem ex_ne' : sha256 (digPre 1 (sha256 (leafB (exD 1))) (exD 1)) ≠ sha256 (digPre 3 (sha256 (nodeB (sha256 (nodeB (sha256 (leafB (exD 1))) (sha256 (leafB (exD 2))))) (sha256 (leafB (exD 3))))) (exD 3)) := by
  decide +kernel
theorem ex_ne : exA.sum ≠ exB.sum := by
  unfold Opn.sum exA exB
  simp only
  rw [rootD_one, root_exL]
  exact ex_ne'
theorem ex_grows : growsF exA.h exA.n exB.h exB.n (restD exL 1 true) = true := by
  have h := grow_both _ (rootD [exD 1]) exL 1 true [] rfl (by omega) (by simp [exL]) (fun _ => rfl)
  obtain ⟨h1, h2, h3, h4⟩ := h
  have e1 : exL.take 1 = [exD 1] := rfl
  have e2 : exL.length = 3 := rfl
  rw [List.nil_append, e2] at h1 h2 h3 h4
  rw [e1] at h1
  have ea : exA.n = 1 := rfl
  have eb : exB.n = 3 := rfl
  have eh : exA.h = rootD [exD 1] := rfl
  have eh' : exB.h = rootD exL := rfl
  rw [growsF, ea, eb, eh, eh', if_neg (by omega), if_neg (by omega), show (1 : Int).toNat = 1 from rfl, show (3 : Int).toNat = 3 from rfl, h1, h2, h3, h4]
  simp
end Go.Proofs.Ytapjikladjoicaa
