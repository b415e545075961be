/- Merged by program from smaller texts; what is proved stands in the last text of the claim. -/
import Derived.Test.YtapjikladjoicaaMC
set_option linter.all false
set_option maxRecDepth 100000
namespace Go.Proofs.Ytapjikladjoicaa
open Go Go.Av

def upF (n i : Nat) (x : List UInt8) (ds : List (List UInt8)) : List UInt8 × List (List UInt8) × List (List UInt8) × Bool :=
  if h : n < 2 then (sha256 (leafB x), ds, [leafB x], false)
  else if (takeF ds false).2.2 = true then (zd, (takeF ds false).2.1, [], true)
  else if i < half n then
    let u := upF (half n) i x (takeF ds false).2.1
    (sha256 (nodeB u.1 (takeF ds false).1), u.2.1, u.2.2.1 ++ [nodeB u.1 (takeF ds false).1], u.2.2.2)
  else
    let u := upF (n - half n) (i - half n) x (takeF ds false).2.1
    (sha256 (nodeB (takeF ds false).1 u.1), u.2.1, u.2.2.1 ++ [nodeB (takeF ds false).1 u.1], u.2.2.2)
termination_by n
decreasing_by
  · exact half_lt n (by omega)
  · have := half_pos n; omega

theorem takeF_digs {ds : List (List UInt8)} {lk : Bool} (h : Digs ds) : (takeF ds lk).1.length = 32 ∧ Digs (takeF ds lk).2.1 ∧ (takeF ds lk).2.1.length ≤ ds.length ∧ ((takeF ds lk).2.2 = false → (takeF ds lk).2.1.length + 1 = ds.length) := by
  rcases List.eq_nil_or_concat ds with rfl | ⟨q, d, hqd⟩
  · exact ⟨rfl, by simpa [takeF] using h, by simp [takeF], by simp [takeF]⟩
  · simp only [List.concat_eq_append] at hqd
    subst hqd
    have ht : takeF (q ++ [d]) lk = (d, q, lk) := by simp [takeF]
    rw [ht]
    exact ⟨h d (by simp), fun x hx => h x (by simp [hx]), by simp, by simp⟩

theorem upF_ok : ∀ (N n i : Nat) (x : List UInt8) (ds : List (List UInt8)), n = N → Digs ds → (upF n i x ds).1.length = 32 ∧ Digs (upF n i x ds).2.1 ∧ (upF n i x ds).2.1.length ≤ ds.length ∧ (upF n i x ds).2.2.1.length + (upF n i x ds).2.1.length ≤ ds.length + 1 := by
  intro N
  induction N using Nat.strongRecOn with
  | _ N ih =>
  intro n i x ds hN hd
  rw [upF]
  obtain ⟨t1, t2, t3, t4⟩ := takeF_digs (lk := false) hd
  split
  · exact ⟨sha256_length _, hd, Nat.le_refl _, by simp; omega⟩
  · split
    · exact ⟨rfl, t2, t3, by simp; omega⟩
    · rename_i h2 hlk
      have hlk' := t4 (by simpa using hlk)
      split
      · obtain ⟨u1, u2, u3, u4⟩ := ih (half n) (by have := half_lt n (by omega); omega) (half n) i x _ rfl t2
        exact ⟨sha256_length _, u2, by simp only; omega, by simp only [List.length_append, List.length_cons, List.length_nil]; omega⟩
      · obtain ⟨u1, u2, u3, u4⟩ := ih (n - half n) (by have := half_pos n; omega) (n - half n) (i - half n) x _ rfl t2
        exact ⟨sha256_length _, u2, by simp only; omega, by simp only [List.length_append, List.length_cons, List.length_nil]; omega⟩

theorem upF_leaf {n i : Nat} {x : List UInt8} {ds : List (List UInt8)} (h : n < 2) : upF n i x ds = (sha256 (leafB x), ds, [leafB x], false) := by rw [upF, dif_pos h]
theorem upF_lack {n i : Nat} {x : List UInt8} {ds : List (List UInt8)} (h : ¬ n < 2) {other : List UInt8} {d1 : List (List UInt8)} (ht : takeF ds false = (other, d1, true)) : upF n i x ds = (zd, d1, [], true) := by
  rw [upF, dif_neg h, ht]; simp
theorem upF_left {n i : Nat} {x : List UInt8} {ds : List (List UInt8)} (h : ¬ n < 2) {other : List UInt8} {d1 : List (List UInt8)} (ht : takeF ds false = (other, d1, false)) (hi : i < half n) :
    upF n i x ds = (sha256 (nodeB (upF (half n) i x d1).1 other), (upF (half n) i x d1).2.1, (upF (half n) i x d1).2.2.1 ++ [nodeB (upF (half n) i x d1).1 other], (upF (half n) i x d1).2.2.2) := by
  conv => lhs; rw [upF, dif_neg h, ht]
  simp [hi]
theorem upF_right {n i : Nat} {x : List UInt8} {ds : List (List UInt8)} (h : ¬ n < 2) {other : List UInt8} {d1 : List (List UInt8)} (ht : takeF ds false = (other, d1, false)) (hi : ¬ i < half n) :
    upF n i x ds = (sha256 (nodeB other (upF (n - half n) (i - half n) x d1).1), (upF (n - half n) (i - half n) x d1).2.1, (upF (n - half n) (i - half n) x d1).2.2.1 ++ [nodeB other (upF (n - half n) (i - half n) x d1).1], (upF (n - half n) (i - half n) x d1).2.2.2) := by
  conv => lhs; rw [upF, dif_neg h, ht]
  simp [hi]

theorem PS.read {s0 s : Hp} {l : Nat} {ds ts : List (List UInt8)} {lk : Bool} (h : PS s0 l ds ts lk s) : ∃ a b, s.read l = some [a, b, .v (.bool lk)] := by
  obtain ⟨od, ot, tso, h1, h2⟩ := h
  exact ⟨_, _, Hp.read_of (h2.sub _ _ (Hp.set_same _ _ _))⟩

def zc : Ob := .cells (List.replicate 32 (.v (.int .u8 0)))
def dc (d : List UInt8) : Ob := .cells (d.map byteAV)

theorem up_spec : ∀ (N n i : Nat) (x : List UInt8) (ds ts : List (List UInt8)) (s0 s : Hp) (l : Nat), n = N → 1 ≤ n → n ≤ 1099511627776 → i < n → x.length = 32 → Digs ds → ts.length + ds.length + 1 ≤ 1000000 → PS s0 l ds ts false s →
    AC Try.prog 57 [.ptr l 0, .v (.int .i64 n), .v (.int .i64 i), dg x] s fun r s' => r = dg (upF n i x ds).1 ∧ PS s0 l (upF n i x ds).2.1 (ts ++ (upF n i x ds).2.2.1) (upF n i x ds).2.2.2 s' := by
  intro N
  induction N using Nat.strongRecOn with
  | _ N ih =>
  intro n i x ds ts s0 s l hN hn1 hn hi hx hd hts h
  refine AC_run hm prep57 (by simp) ?_
  simp (dsimp := false) (implicitDefEqProofs := false) (maxSteps := 1000000) (disch := first | omega | assumption | (simp only [rL, Nat.reduceAdd]; done) | (simp only [rL, Nat.reduceAdd]; omega)) only [↓rD, rU, ev, ofConst, ofCell, ↓reduceIte, Nat.reduceEqDiff, Nat.reduceAdd, Nat.reduceSub, Nat.reduceMul, Nat.reduceLeDiff, Nat.reduceLT, Int.reduceNeg, Int.reduceToNat, Int.reduceAdd, Int.reduceSub, Int.reduceMul, Int.reduceLT, Int.reduceLE, Int.reduceEq, rX, dg_cells, dg_fold, List.drop_succ_cons, hx]
  refine newK_intro fun l7 n7 => ?_
  obtain ⟨d7, e7, h⟩ := h.new (ob := dc x) n7
  simp (dsimp := false) (implicitDefEqProofs := false) (maxSteps := 1000000) (disch := first | omega | assumption | (simp only [rL, Nat.reduceAdd]; done) | (simp only [rL, Nat.reduceAdd]; omega)) only [↓rD, rU, ev, ofConst, ofCell, ↓reduceIte, Nat.reduceEqDiff, Nat.reduceAdd, Nat.reduceSub, Nat.reduceMul, Nat.reduceLeDiff, Nat.reduceLT, Int.reduceNeg, Int.reduceToNat, Int.reduceAdd, Int.reduceSub, Int.reduceMul, Int.reduceLT, Int.reduceLE, Int.reduceEq, rX, dg_cells, dg_fold, List.drop_succ_cons, hx]
  refine newK_intro fun l8 n8 => ?_
  obtain ⟨d78, _⟩ := Hp.set_none n8
  obtain ⟨d8, e8, h⟩ := h.new (ob := zc) n8
  obtain ⟨_, e8⟩ := Hp.set_none e8
  simp (dsimp := false) (implicitDefEqProofs := false) (maxSteps := 1000000) (disch := first | omega | assumption | (simp only [rL, Nat.reduceAdd]; done) | (simp only [rL, Nat.reduceAdd]; omega)) only [↓rD, rU, ev, ofConst, ofCell, ↓reduceIte, Nat.reduceEqDiff, Nat.reduceAdd, Nat.reduceSub, Nat.reduceMul, Nat.reduceLeDiff, Nat.reduceLT, Int.reduceNeg, Int.reduceToNat, Int.reduceAdd, Int.reduceSub, Int.reduceMul, Int.reduceLT, Int.reduceLE, Int.reduceEq, rX, dg_cells, dg_fold, List.drop_succ_cons]
  by_cases h1 : n < 2
  · obtain rfl : n = 1 := by omega
    simp (dsimp := false) (implicitDefEqProofs := false) (maxSteps := 1000000) (disch := first | omega | assumption | (simp only [rL, Nat.reduceAdd]; done) | (simp only [rL, Nat.reduceAdd]; omega)) only [↓rD, rU, ev, ofConst, ofCell, ↓reduceIte, Nat.reduceEqDiff, Nat.reduceAdd, Nat.reduceSub, Nat.reduceMul, Nat.reduceLeDiff, Nat.reduceLT, Int.reduceNeg, Int.reduceToNat, Int.reduceAdd, Int.reduceSub, Int.reduceMul, Int.reduceLT, Int.reduceLE, Int.reduceEq, rX, dg_cells, dg_fold, List.drop_succ_cons, hx]
    refine call_intro (leaf_spec x hx _) ?_
    rintro _ s1 ⟨o1, k1, rfl⟩
    simp (dsimp := false) (implicitDefEqProofs := false) (maxSteps := 1000000) (disch := first | omega | assumption | (simp only [rL, Nat.reduceAdd]; done) | (simp only [rL, Nat.reduceAdd]; omega)) only [↓rD, rU, ev, ofConst, ofCell, ↓reduceIte, Nat.reduceEqDiff, Nat.reduceAdd, Nat.reduceSub, Nat.reduceMul, Nat.reduceLeDiff, Nat.reduceLT, Int.reduceNeg, Int.reduceToNat, Int.reduceAdd, Int.reduceSub, Int.reduceMul, Int.reduceLT, Int.reduceLE, Int.reduceEq, rX, dg_cells, dg_fold, List.drop_succ_cons]
    obtain ⟨od, ot, tso, q1, q2⟩ := h
    have h : PS ((s0.set l7 (dc x)).set l8 zc) l ds ts false s1 := ⟨od, ot, tso, q1, q2.mono k1.sub⟩
    refine call_intro (phash_spec _ s1 l ds ts false h (leafB x) o1 (by rw [leafB_length x hx]; omega) (by omega)) ?_
    rintro _ s2 ⟨rfl, h⟩
    have hl8 : s2 l8 = some zc := h.get d8 (Hp.set_same _ _ _)
    have hq := sha256_length (leafB x)
    generalize hge : sha256 (leafB x) = e at *
    unfold zc at hl8
    simp (dsimp := false) (implicitDefEqProofs := false) (maxSteps := 1000000) (disch := first | omega | assumption | (simp only [rL, Nat.reduceAdd]; done) | (simp only [rL, Nat.reduceAdd]; omega)) only [↓rD, rU, ev, ofConst, ofCell, ↓reduceIte, Nat.reduceEqDiff, Nat.reduceAdd, Nat.reduceSub, Nat.reduceMul, Nat.reduceLeDiff, Nat.reduceLT, Int.reduceNeg, Int.reduceToNat, Int.reduceAdd, Int.reduceSub, Int.reduceMul, Int.reduceLT, Int.reduceLE, Int.reduceEq, rX, dg_cells, dg_fold, List.drop_succ_cons, hq, Hp.stA_of hl8, Hp.read_of hl8]
    have h9 := h.set (ob := dc e) d8 (Hp.set_same _ _ _)
    rw [upF_leaf h1]
    refine ⟨_, Hp.sub_refl, ?_, h9.base (Hp.sub_new (Hp.sub_new (Hp.sub_new Hp.sub_refl e7) e8) e8)⟩
    rw [hge]
  · have hn1 : ¬ (n : Int) = 1 := by omega
    simp (dsimp := false) (implicitDefEqProofs := false) (maxSteps := 1000000) (disch := first | omega | assumption | (simp only [rL, Nat.reduceAdd]; done) | (simp only [rL, Nat.reduceAdd]; omega)) only [↓rD, rU, ev, ofConst, ofCell, ↓reduceIte, Nat.reduceEqDiff, Nat.reduceAdd, Nat.reduceSub, Nat.reduceMul, Nat.reduceLeDiff, Nat.reduceLT, Int.reduceNeg, Int.reduceToNat, Int.reduceAdd, Int.reduceSub, Int.reduceMul, Int.reduceLT, Int.reduceLE, Int.reduceEq, rX, dg_cells, dg_fold, List.drop_succ_cons, hn1]
    refine call_intro (half_spec n (by omega) (by omega) _) ?_
    rintro _ _ ⟨rfl, rfl⟩
    have hlt := half_lt n (by omega)
    have hpos := half_pos n
    simp (dsimp := false) (implicitDefEqProofs := false) (maxSteps := 1000000) (disch := first | omega | assumption | (simp only [rL, Nat.reduceAdd]; done) | (simp only [rL, Nat.reduceAdd]; omega)) only [↓rD, rU, ev, ofConst, ofCell, ↓reduceIte, Nat.reduceEqDiff, Nat.reduceAdd, Nat.reduceSub, Nat.reduceMul, Nat.reduceLeDiff, Nat.reduceLT, Int.reduceNeg, Int.reduceToNat, Int.reduceAdd, Int.reduceSub, Int.reduceMul, Int.reduceLT, Int.reduceLE, Int.reduceEq, rX, dg_cells, dg_fold, List.drop_succ_cons]
    refine call_intro (take_spec _ _ l ds ts false hd (by omega) h) ?_
    rintro _ s1 ⟨rfl, h⟩
    obtain ⟨t1, t2, t3, t4⟩ := takeF_digs (lk := false) hd
    generalize htk : takeF ds false = tk at *
    obtain ⟨other, ds1, lk1⟩ := tk
    simp only at t1 t2 t3 t4 h ⊢
    simp (dsimp := false) (implicitDefEqProofs := false) (maxSteps := 1000000) (disch := first | omega | assumption | (simp only [rL, Nat.reduceAdd]; done) | (simp only [rL, Nat.reduceAdd]; omega)) only [↓rD, rU, ev, ofConst, ofCell, ↓reduceIte, Nat.reduceEqDiff, Nat.reduceAdd, Nat.reduceSub, Nat.reduceMul, Nat.reduceLeDiff, Nat.reduceLT, Int.reduceNeg, Int.reduceToNat, Int.reduceAdd, Int.reduceSub, Int.reduceMul, Int.reduceLT, Int.reduceLE, Int.reduceEq, rX, dg_cells, dg_fold, List.drop_succ_cons, t1]
    refine newK_intro fun l10 n10 => ?_
    have g7 : s1 l7 = some (dc x) := h.get d7 (by rw [Hp.set_ne _ _ (Ne.symm d78)]; exact Hp.set_same _ _ _)
    have g8 : s1 l8 = some zc := h.get d8 (Hp.set_same _ _ _)
    have d107 : l10 ≠ l7 := by rintro rfl; rw [n10] at g7; cases g7
    have d108 : l10 ≠ l8 := by rintro rfl; rw [n10] at g8; cases g8
    obtain ⟨d10, e10, h⟩ := h.new (ob := dc other) n10
    obtain ⟨_, e10⟩ := Hp.set_none e10
    obtain ⟨_, e10⟩ := Hp.set_none e10
    obtain ⟨ra, rb, hr⟩ := h.read
    unfold zc at g8
    unfold dc at g7
    simp (dsimp := false) (implicitDefEqProofs := false) (maxSteps := 1000000) (disch := first | omega | assumption | (simp only [rL, Nat.reduceAdd]; done) | (simp only [rL, Nat.reduceAdd]; omega)) only [↓rD, rU, ev, ofConst, ofCell, ↓reduceIte, Nat.reduceEqDiff, Nat.reduceAdd, Nat.reduceSub, Nat.reduceMul, Nat.reduceLeDiff, Nat.reduceLT, Int.reduceNeg, Int.reduceToNat, Int.reduceAdd, Int.reduceSub, Int.reduceMul, Int.reduceLT, Int.reduceLE, Int.reduceEq, rX, dg_cells, dg_fold, List.drop_succ_cons, t1]
    have hr' : s1.read l = some [ra, rb, .v (.bool lk1)] := by rw [← hr, Hp.read_set_ne (Ne.symm d10)]
    simp (dsimp := false) (implicitDefEqProofs := false) (maxSteps := 1000000) (disch := first | omega | assumption | (simp only [rL, Nat.reduceAdd]; done) | (simp only [rL, Nat.reduceAdd]; omega)) only [↓rD, rU, ev, ofConst, ofCell, ↓reduceIte, Nat.reduceEqDiff, Nat.reduceAdd, Nat.reduceSub, Nat.reduceMul, Nat.reduceLeDiff, Nat.reduceLT, Int.reduceNeg, Int.reduceToNat, Int.reduceAdd, Int.reduceSub, Int.reduceMul, Int.reduceLT, Int.reduceLE, Int.reduceEq, rX, dg_cells, dg_fold, List.drop_succ_cons, t1, hr']
    have hbase : s0.sub (((s0.set l7 (dc x)).set l8 zc).set l10 (dc other)) := Hp.sub_new (Hp.sub_new (Hp.sub_new Hp.sub_refl e7) e8) e10
    cases lk1
    · simp (dsimp := false) (implicitDefEqProofs := false) (maxSteps := 1000000) (disch := first | omega | assumption | (simp only [rL, Nat.reduceAdd]; done) | (simp only [rL, Nat.reduceAdd]; omega)) only [↓rD, rU, ev, ofConst, ofCell, ↓reduceIte, Nat.reduceEqDiff, Nat.reduceAdd, Nat.reduceSub, Nat.reduceMul, Nat.reduceLeDiff, Nat.reduceLT, Int.reduceNeg, Int.reduceToNat, Int.reduceAdd, Int.reduceSub, Int.reduceMul, Int.reduceLT, Int.reduceLE, Int.reduceEq, rX, dg_cells, dg_fold, List.drop_succ_cons]
      by_cases hik : i < half n
      · have hik' : (i : Int) < (half n : Nat) := by omega
        simp (dsimp := false) (implicitDefEqProofs := false) (maxSteps := 1000000) (disch := first | omega | assumption | (simp only [rL, Nat.reduceAdd]; done) | (simp only [rL, Nat.reduceAdd]; omega)) only [↓rD, rU, ev, ofConst, ofCell, ↓reduceIte, Nat.reduceEqDiff, Nat.reduceAdd, Nat.reduceSub, Nat.reduceMul, Nat.reduceLeDiff, Nat.reduceLT, Int.reduceNeg, Int.reduceToNat, Int.reduceAdd, Int.reduceSub, Int.reduceMul, Int.reduceLT, Int.reduceLE, Int.reduceEq, rX, dg_cells, dg_fold, List.drop_succ_cons, hik', Hp.read_of g7, Ne.symm d107, hx]
        obtain ⟨u1, u2, u3, u4⟩ := upF_ok _ (half n) i x ds1 rfl t2
        have t5 := t4 rfl
        refine call_intro (ih (half n) (by omega) (half n) i x ds1 ts _ _ l rfl hpos (by omega) hik hx t2 (by omega) h) ?_
        rintro _ s2 ⟨rfl, h⟩
        have hu := upF_left (x := x) h1 htk hik
        generalize upF (half n) i x ds1 = u at *
        obtain ⟨ub, ud, ut, ul⟩ := u
        simp only at u1 u2 u3 u4 h hu ⊢
        simp (dsimp := false) (implicitDefEqProofs := false) (maxSteps := 1000000) (disch := first | omega | assumption | (simp only [rL, Nat.reduceAdd]; done) | (simp only [rL, Nat.reduceAdd]; omega)) only [↓rD, rU, ev, ofConst, ofCell, ↓reduceIte, Nat.reduceEqDiff, Nat.reduceAdd, Nat.reduceSub, Nat.reduceMul, Nat.reduceLeDiff, Nat.reduceLT, Int.reduceNeg, Int.reduceToNat, Int.reduceAdd, Int.reduceSub, Int.reduceMul, Int.reduceLT, Int.reduceLE, Int.reduceEq, rX, dg_cells, dg_fold, List.drop_succ_cons, u1]
        refine newK_intro fun l11 n11 => ?_
        have g8 : s2 l8 = some zc := h.get d8 (by rw [Hp.set_ne _ _ (Ne.symm d108)]; exact Hp.set_same _ _ _)
        have g10 : s2 l10 = some (dc other) := h.get d10 (Hp.set_same _ _ _)
        have d118 : l11 ≠ l8 := by rintro rfl; rw [n11] at g8; cases g8
        have d1110 : l11 ≠ l10 := by rintro rfl; rw [n11] at g10; cases g10
        obtain ⟨d11, e11, h⟩ := h.new (ob := dc ub) n11
        simp (dsimp := false) (implicitDefEqProofs := false) (maxSteps := 1000000) (disch := first | omega | assumption | (simp only [rL, Nat.reduceAdd]; done) | (simp only [rL, Nat.reduceAdd]; omega)) only [↓rD, rU, ev, ofConst, ofCell, ↓reduceIte, Nat.reduceEqDiff, Nat.reduceAdd, Nat.reduceSub, Nat.reduceMul, Nat.reduceLeDiff, Nat.reduceLT, Int.reduceNeg, Int.reduceToNat, Int.reduceAdd, Int.reduceSub, Int.reduceMul, Int.reduceLT, Int.reduceLE, Int.reduceEq, rX, dg_cells, dg_fold, List.drop_succ_cons, u1]
        unfold zc at g8
        unfold dc at g10
        simp (dsimp := false) (implicitDefEqProofs := false) (maxSteps := 1000000) (disch := first | omega | assumption | (simp only [rL, Nat.reduceAdd]; done) | (simp only [rL, Nat.reduceAdd]; omega)) only [↓rD, rU, ev, ofConst, ofCell, ↓reduceIte, Nat.reduceEqDiff, Nat.reduceAdd, Nat.reduceSub, Nat.reduceMul, Nat.reduceLeDiff, Nat.reduceLT, Int.reduceNeg, Int.reduceToNat, Int.reduceAdd, Int.reduceSub, Int.reduceMul, Int.reduceLT, Int.reduceLE, Int.reduceEq, rX, dg_cells, dg_fold, List.drop_succ_cons, Hp.read_of g10, t1, u1]
        refine call_intro (node_spec ub other u1 t1 _) ?_
        rintro _ s3 ⟨o3, k3, rfl⟩
        simp (dsimp := false) (implicitDefEqProofs := false) (maxSteps := 1000000) (disch := first | omega | assumption | (simp only [rL, Nat.reduceAdd]; done) | (simp only [rL, Nat.reduceAdd]; omega)) only [↓rD, rU, ev, ofConst, ofCell, ↓reduceIte, Nat.reduceEqDiff, Nat.reduceAdd, Nat.reduceSub, Nat.reduceMul, Nat.reduceLeDiff, Nat.reduceLT, Int.reduceNeg, Int.reduceToNat, Int.reduceAdd, Int.reduceSub, Int.reduceMul, Int.reduceLT, Int.reduceLE, Int.reduceEq, rX, dg_cells, dg_fold, List.drop_succ_cons]
        obtain ⟨od, ot, tso, q1, q2⟩ := h
        have h : PS ((((s0.set l7 (dc x)).set l8 zc).set l10 (dc other)).set l11 (dc ub)) l ud (ts ++ ut) ul s3 := ⟨od, ot, tso, q1, q2.mono k3.sub⟩
        refine call_intro (phash_spec _ s3 l ud (ts ++ ut) ul h (nodeB ub other) o3 (by rw [nodeB_length ub other u1 t1]; omega) (by simp only [List.length_append]; omega)) ?_
        rintro _ s4 ⟨rfl, h⟩
        have g8 : s4 l8 = some zc := h.get d8 (by rw [Hp.set_ne _ _ (Ne.symm d118), Hp.set_ne _ _ (Ne.symm d108)]; exact Hp.set_same _ _ _)
        have hq := sha256_length (nodeB ub other)
        generalize hge : sha256 (nodeB ub other) = e at *
        unfold zc at g8
        simp (dsimp := false) (implicitDefEqProofs := false) (maxSteps := 1000000) (disch := first | omega | assumption | (simp only [rL, Nat.reduceAdd]; done) | (simp only [rL, Nat.reduceAdd]; omega)) only [↓rD, rU, ev, ofConst, ofCell, ↓reduceIte, Nat.reduceEqDiff, Nat.reduceAdd, Nat.reduceSub, Nat.reduceMul, Nat.reduceLeDiff, Nat.reduceLT, Int.reduceNeg, Int.reduceToNat, Int.reduceAdd, Int.reduceSub, Int.reduceMul, Int.reduceLT, Int.reduceLE, Int.reduceEq, rX, dg_cells, dg_fold, List.drop_succ_cons, hq, Hp.stA_of g8, Hp.read_of g8]
        have h9 := h.set (l2 := l8) (ob := dc e) (ob' := zc) d8 (by rw [Hp.set_ne _ _ (Ne.symm d118), Hp.set_ne _ _ (Ne.symm d108)]; exact Hp.set_same _ _ _)
        rw [List.append_assoc] at h9
        refine ⟨_, Hp.sub_refl, ?_⟩
        rw [hu]
        exact ⟨rfl, h9.base (Hp.sub_new (Hp.sub_new hbase (Hp.sub_none hbase e11)) e8)⟩
      · have hik' : ¬ (i : Int) < (half n : Nat) := by omega
        have ei : (i : Int) - (half n : Nat) = ((i - half n : Nat) : Int) := by omega
        have en : (n : Int) - (half n : Nat) = ((n - half n : Nat) : Int) := by omega
        simp (dsimp := false) (implicitDefEqProofs := false) (maxSteps := 1000000) (disch := first | omega | assumption | (simp only [rL, Nat.reduceAdd]; done) | (simp only [rL, Nat.reduceAdd]; omega)) only [↓rD, rU, ev, ofConst, ofCell, ↓reduceIte, Nat.reduceEqDiff, Nat.reduceAdd, Nat.reduceSub, Nat.reduceMul, Nat.reduceLeDiff, Nat.reduceLT, Int.reduceNeg, Int.reduceToNat, Int.reduceAdd, Int.reduceSub, Int.reduceMul, Int.reduceLT, Int.reduceLE, Int.reduceEq, rX, dg_cells, dg_fold, List.drop_succ_cons, hik', Hp.read_of g7, Ne.symm d107, hx, ei, en]
        obtain ⟨u1, u2, u3, u4⟩ := upF_ok _ (n - half n) (i - half n) x ds1 rfl t2
        have t5 := t4 rfl
        refine call_intro (ih (n - half n) (by omega) (n - half n) (i - half n) x ds1 ts _ _ l rfl (by omega) (by omega) (by omega) hx t2 (by omega) h) ?_
        rintro _ s2 ⟨rfl, h⟩
        have hu := upF_right (x := x) h1 htk hik
        generalize upF (n - half n) (i - half n) x ds1 = u at *
        obtain ⟨ub, ud, ut, ul⟩ := u
        simp only at u1 u2 u3 u4 h hu ⊢
        simp (dsimp := false) (implicitDefEqProofs := false) (maxSteps := 1000000) (disch := first | omega | assumption | (simp only [rL, Nat.reduceAdd]; done) | (simp only [rL, Nat.reduceAdd]; omega)) only [↓rD, rU, ev, ofConst, ofCell, ↓reduceIte, Nat.reduceEqDiff, Nat.reduceAdd, Nat.reduceSub, Nat.reduceMul, Nat.reduceLeDiff, Nat.reduceLT, Int.reduceNeg, Int.reduceToNat, Int.reduceAdd, Int.reduceSub, Int.reduceMul, Int.reduceLT, Int.reduceLE, Int.reduceEq, rX, dg_cells, dg_fold, List.drop_succ_cons, u1]
        refine newK_intro fun l11 n11 => ?_
        have g8 : s2 l8 = some zc := h.get d8 (by rw [Hp.set_ne _ _ (Ne.symm d108)]; exact Hp.set_same _ _ _)
        have g10 : s2 l10 = some (dc other) := h.get d10 (Hp.set_same _ _ _)
        have d118 : l11 ≠ l8 := by rintro rfl; rw [n11] at g8; cases g8
        have d1110 : l11 ≠ l10 := by rintro rfl; rw [n11] at g10; cases g10
        obtain ⟨d11, e11, h⟩ := h.new (ob := dc ub) n11
        simp (dsimp := false) (implicitDefEqProofs := false) (maxSteps := 1000000) (disch := first | omega | assumption | (simp only [rL, Nat.reduceAdd]; done) | (simp only [rL, Nat.reduceAdd]; omega)) only [↓rD, rU, ev, ofConst, ofCell, ↓reduceIte, Nat.reduceEqDiff, Nat.reduceAdd, Nat.reduceSub, Nat.reduceMul, Nat.reduceLeDiff, Nat.reduceLT, Int.reduceNeg, Int.reduceToNat, Int.reduceAdd, Int.reduceSub, Int.reduceMul, Int.reduceLT, Int.reduceLE, Int.reduceEq, rX, dg_cells, dg_fold, List.drop_succ_cons, u1]
        unfold zc at g8
        unfold dc at g10
        simp (dsimp := false) (implicitDefEqProofs := false) (maxSteps := 1000000) (disch := first | omega | assumption | (simp only [rL, Nat.reduceAdd]; done) | (simp only [rL, Nat.reduceAdd]; omega)) only [↓rD, rU, ev, ofConst, ofCell, ↓reduceIte, Nat.reduceEqDiff, Nat.reduceAdd, Nat.reduceSub, Nat.reduceMul, Nat.reduceLeDiff, Nat.reduceLT, Int.reduceNeg, Int.reduceToNat, Int.reduceAdd, Int.reduceSub, Int.reduceMul, Int.reduceLT, Int.reduceLE, Int.reduceEq, rX, dg_cells, dg_fold, List.drop_succ_cons, Hp.read_of g10, t1, u1]
        refine call_intro (node_spec other ub t1 u1 _) ?_
        rintro _ s3 ⟨o3, k3, rfl⟩
        simp (dsimp := false) (implicitDefEqProofs := false) (maxSteps := 1000000) (disch := first | omega | assumption | (simp only [rL, Nat.reduceAdd]; done) | (simp only [rL, Nat.reduceAdd]; omega)) only [↓rD, rU, ev, ofConst, ofCell, ↓reduceIte, Nat.reduceEqDiff, Nat.reduceAdd, Nat.reduceSub, Nat.reduceMul, Nat.reduceLeDiff, Nat.reduceLT, Int.reduceNeg, Int.reduceToNat, Int.reduceAdd, Int.reduceSub, Int.reduceMul, Int.reduceLT, Int.reduceLE, Int.reduceEq, rX, dg_cells, dg_fold, List.drop_succ_cons]
        obtain ⟨od, ot, tso, q1, q2⟩ := h
        have h : PS ((((s0.set l7 (dc x)).set l8 zc).set l10 (dc other)).set l11 (dc ub)) l ud (ts ++ ut) ul s3 := ⟨od, ot, tso, q1, q2.mono k3.sub⟩
        refine call_intro (phash_spec _ s3 l ud (ts ++ ut) ul h (nodeB other ub) o3 (by rw [nodeB_length other ub t1 u1]; omega) (by simp only [List.length_append]; omega)) ?_
        rintro _ s4 ⟨rfl, h⟩
        have g8 : s4 l8 = some zc := h.get d8 (by rw [Hp.set_ne _ _ (Ne.symm d118), Hp.set_ne _ _ (Ne.symm d108)]; exact Hp.set_same _ _ _)
        have hq := sha256_length (nodeB other ub)
        generalize hge : sha256 (nodeB other ub) = e at *
        unfold zc at g8
        simp (dsimp := false) (implicitDefEqProofs := false) (maxSteps := 1000000) (disch := first | omega | assumption | (simp only [rL, Nat.reduceAdd]; done) | (simp only [rL, Nat.reduceAdd]; omega)) only [↓rD, rU, ev, ofConst, ofCell, ↓reduceIte, Nat.reduceEqDiff, Nat.reduceAdd, Nat.reduceSub, Nat.reduceMul, Nat.reduceLeDiff, Nat.reduceLT, Int.reduceNeg, Int.reduceToNat, Int.reduceAdd, Int.reduceSub, Int.reduceMul, Int.reduceLT, Int.reduceLE, Int.reduceEq, rX, dg_cells, dg_fold, List.drop_succ_cons, hq, Hp.stA_of g8, Hp.read_of g8]
        have h9 := h.set (l2 := l8) (ob := dc e) (ob' := zc) d8 (by rw [Hp.set_ne _ _ (Ne.symm d118), Hp.set_ne _ _ (Ne.symm d108)]; exact Hp.set_same _ _ _)
        rw [List.append_assoc] at h9
        refine ⟨_, Hp.sub_refl, ?_⟩
        rw [hu]
        exact ⟨rfl, h9.base (Hp.sub_new (Hp.sub_new hbase (Hp.sub_none hbase e11)) e8)⟩
    · simp (dsimp := false) (implicitDefEqProofs := false) (maxSteps := 1000000) (disch := first | omega | assumption | (simp only [rL, Nat.reduceAdd]; done) | (simp only [rL, Nat.reduceAdd]; omega)) only [↓rD, rU, ev, ofConst, ofCell, ↓reduceIte, Nat.reduceEqDiff, Nat.reduceAdd, Nat.reduceSub, Nat.reduceMul, Nat.reduceLeDiff, Nat.reduceLT, Int.reduceNeg, Int.reduceToNat, Int.reduceAdd, Int.reduceSub, Int.reduceMul, Int.reduceLT, Int.reduceLE, Int.reduceEq, rX, dg_cells, dg_fold, List.drop_succ_cons, Hp.stA_of g8, Ne.symm d108, Hp.read_of g8]
      have h9 := h.set (l2 := l8) (ob := zc) (ob' := zc) d8 (by rw [Hp.set_ne _ _ (Ne.symm d108)]; exact Hp.set_same _ _ _)
      rw [upF_lack h1 htk]
      refine ⟨_, Hp.sub_refl, rfl, ?_⟩
      simp only [List.append_nil]
      exact h9.base (Hp.sub_new hbase e8)
end Go.Proofs.Ytapjikladjoicaa
set_option maxRecDepth 100000
namespace Go.Proofs.Ytapjikladjoicaa
open Go Go.Av

theorem dg_inj {a b : List UInt8} (h : dg a = dg b) : a = b := by
  have h1 : a.map byteAV = b.map byteAV := by simpa [dg] using h
  have h2 := congrArg bytesOf h1
  rw [bytesOf_map, bytesOf_map] at h2
  exact Option.some.inj h2
theorem peq_dg {a b : List UInt8} : peq (.agg (a.map byteAV)) (.agg (b.map byteAV)) = decide (a = b) := by
  by_cases h : a = b
  · subst h; simp [peq_self]
  · have : ¬ peq (.agg (a.map byteAV)) (.agg (b.map byteAV)) = true := fun hp => h (dg_inj ((peq_iff _ _).1 hp))
    simp only [Bool.not_eq_true] at this; simp [this, h]
theorem fitR_dg {a : List UInt8} (h : a.length = 32) : fitR [(32, .int .u8)] (a.map byteAV) := by
  refine ⟨by simp [h], ?_, ?_⟩
  · intro c hc
    obtain ⟨b, _, rfl⟩ := List.mem_map.1 (List.mem_of_mem_take hc)
    rfl
  · simp only [fitR]; rw [List.drop_of_length_le (by simp [h])]

/-- may a path be asked? -/
def pathOk (n i : Int) : Bool := decide (1 ≤ n ∧ n ≤ 1099511627776 ∧ 0 ≤ i ∧ i < n)

theorem inPath_spec (n i : Int) (x : List UInt8) (ds : List (List UInt8)) (o : Own) (s : Hp) (hx : x.length = 32) (hd : Digs ds) (hl : ds.length ≤ 900000) :
    AC Try.prog 31 [.v (.int .i64 n), .v (.int .i64 i), dg x, .sl (ds.map dg) o] s fun r s' =>
      if pathOk n i = true then ∃ l, s l = none ∧ r = .tup [.ptr l 0, dg (upF n.toNat i.toNat x ds).1] ∧ PS s l (upF n.toNat i.toNat x ds).2.1 (upF n.toNat i.toNat x ds).2.2.1 (upF n.toNat i.toNat x ds).2.2.2 s'
      else s' = s ∧ r = .tup [.v (.pointer none), dg zd] := by
  refine AC_run hm prep31 (by simp) ?_
  simp (dsimp := false) (implicitDefEqProofs := false) (maxSteps := 1000000) (disch := first | omega | assumption | (simp only [rL, Nat.reduceAdd]; done) | (simp only [rL, Nat.reduceAdd]; omega)) only [↓rD, rU, ev, ofConst, ofCell, ↓reduceIte, Nat.reduceEqDiff, Nat.reduceAdd, Nat.reduceSub, Nat.reduceMul, Nat.reduceLeDiff, Nat.reduceLT, Int.reduceNeg, Int.reduceToNat, Int.reduceAdd, Int.reduceSub, Int.reduceMul, Int.reduceLT, Int.reduceLE, Int.reduceEq, rX, dg_cells, dg_fold, List.drop_succ_cons, hx]
  refine newK_intro fun l6 n6 => ?_
  simp (dsimp := false) (implicitDefEqProofs := false) (maxSteps := 1000000) (disch := first | omega | assumption | (simp only [rL, Nat.reduceAdd]; done) | (simp only [rL, Nat.reduceAdd]; omega)) only [↓rD, rU, ev, ofConst, ofCell, ↓reduceIte, Nat.reduceEqDiff, Nat.reduceAdd, Nat.reduceSub, Nat.reduceMul, Nat.reduceLeDiff, Nat.reduceLT, Int.reduceNeg, Int.reduceToNat, Int.reduceAdd, Int.reduceSub, Int.reduceMul, Int.reduceLT, Int.reduceLE, Int.reduceEq, rX, dg_cells, dg_fold, List.drop_succ_cons, hx]
  refine newK_intro fun l9 n9 => ?_
  obtain ⟨d96, e9⟩ := Hp.set_none n9
  simp (dsimp := false) (implicitDefEqProofs := false) (maxSteps := 1000000) (disch := first | omega | assumption | (simp only [rL, Nat.reduceAdd]; done) | (simp only [rL, Nat.reduceAdd]; omega)) only [↓rD, rU, ev, ofConst, ofCell, ↓reduceIte, Nat.reduceEqDiff, Nat.reduceAdd, Nat.reduceSub, Nat.reduceMul, Nat.reduceLeDiff, Nat.reduceLT, Int.reduceNeg, Int.reduceToNat, Int.reduceAdd, Int.reduceSub, Int.reduceMul, Int.reduceLT, Int.reduceLE, Int.reduceEq, rX, dg_cells, dg_fold, List.drop_succ_cons]
  have hz : dg zd = .agg (List.replicate 32 (.v (.int .u8 0))) := rfl
  have zt : (List.replicate 32 (AV.v (.int .u8 0))).take 32 = List.replicate 32 (.v (.int .u8 0)) := rfl
  have fin : s.sub ((s.set l6 (.cells (x.map byteAV))).set l9 (.cells (List.replicate 32 (.v (.int .u8 0))))) := Hp.sub_new (Hp.sub_new Hp.sub_refl n6) e9
  by_cases c1 : n < 1
  · have hp : pathOk n i = false := by simp [pathOk]; omega
    simp (dsimp := false) (implicitDefEqProofs := false) (maxSteps := 1000000) (disch := first | omega | assumption | (simp only [rL, Nat.reduceAdd]; done) | (simp only [rL, Nat.reduceAdd]; omega)) only [↓rD, rU, ev, ofConst, ofCell, ↓reduceIte, Nat.reduceEqDiff, Nat.reduceAdd, Nat.reduceSub, Nat.reduceMul, Nat.reduceLeDiff, Nat.reduceLT, Int.reduceNeg, Int.reduceToNat, Int.reduceAdd, Int.reduceSub, Int.reduceMul, Int.reduceLT, Int.reduceLE, Int.reduceEq, rX, dg_cells, dg_fold, List.drop_succ_cons, c1, zt]
    exact ⟨s, fin, by rw [hp]; exact ⟨rfl, rfl⟩⟩
  · by_cases c2 : 1099511627776 < n
    · have hp : pathOk n i = false := by simp [pathOk]; omega
      simp (dsimp := false) (implicitDefEqProofs := false) (maxSteps := 1000000) (disch := first | omega | assumption | (simp only [rL, Nat.reduceAdd]; done) | (simp only [rL, Nat.reduceAdd]; omega)) only [↓rD, rU, ev, ofConst, ofCell, ↓reduceIte, Nat.reduceEqDiff, Nat.reduceAdd, Nat.reduceSub, Nat.reduceMul, Nat.reduceLeDiff, Nat.reduceLT, Int.reduceNeg, Int.reduceToNat, Int.reduceAdd, Int.reduceSub, Int.reduceMul, Int.reduceLT, Int.reduceLE, Int.reduceEq, rX, dg_cells, dg_fold, List.drop_succ_cons, c1, c2, zt]
      exact ⟨s, fin, by rw [hp]; exact ⟨rfl, rfl⟩⟩
    · by_cases c3 : i < 0
      · have hp : pathOk n i = false := by simp [pathOk]; omega
        simp (dsimp := false) (implicitDefEqProofs := false) (maxSteps := 1000000) (disch := first | omega | assumption | (simp only [rL, Nat.reduceAdd]; done) | (simp only [rL, Nat.reduceAdd]; omega)) only [↓rD, rU, ev, ofConst, ofCell, ↓reduceIte, Nat.reduceEqDiff, Nat.reduceAdd, Nat.reduceSub, Nat.reduceMul, Nat.reduceLeDiff, Nat.reduceLT, Int.reduceNeg, Int.reduceToNat, Int.reduceAdd, Int.reduceSub, Int.reduceMul, Int.reduceLT, Int.reduceLE, Int.reduceEq, rX, dg_cells, dg_fold, List.drop_succ_cons, c1, c2, c3, zt]
        exact ⟨s, fin, by rw [hp]; exact ⟨rfl, rfl⟩⟩
      · by_cases c4 : n ≤ i
        · have hp : pathOk n i = false := by simp [pathOk]; omega
          simp (dsimp := false) (implicitDefEqProofs := false) (maxSteps := 1000000) (disch := first | omega | assumption | (simp only [rL, Nat.reduceAdd]; done) | (simp only [rL, Nat.reduceAdd]; omega)) only [↓rD, rU, ev, ofConst, ofCell, ↓reduceIte, Nat.reduceEqDiff, Nat.reduceAdd, Nat.reduceSub, Nat.reduceMul, Nat.reduceLeDiff, Nat.reduceLT, Int.reduceNeg, Int.reduceToNat, Int.reduceAdd, Int.reduceSub, Int.reduceMul, Int.reduceLT, Int.reduceLE, Int.reduceEq, rX, dg_cells, dg_fold, List.drop_succ_cons, c1, c2, c3, c4, zt]
          exact ⟨s, fin, by rw [hp]; exact ⟨rfl, rfl⟩⟩
        · have hp : pathOk n i = true := by simp [pathOk]; omega
          obtain ⟨m, rfl⟩ : ∃ m : Nat, n = m := ⟨n.toNat, by omega⟩
          obtain ⟨j, rfl⟩ : ∃ j : Nat, i = j := ⟨i.toNat, by omega⟩
          have e : putAt [AV.sl [] Own.nil, AV.sl [] Own.nil, AV.v (Value.bool false)] 0 [AV.sl (List.map dg ds) o] = [.sl (ds.map dg) o, .sl [] .nil, .v (.bool false)] := rfl
          simp (dsimp := false) (implicitDefEqProofs := false) (maxSteps := 1000000) (disch := first | omega | assumption | (simp only [rL, Nat.reduceAdd]; done) | (simp only [rL, Nat.reduceAdd]; omega)) only [↓rD, rU, ev, ofConst, ofCell, ↓reduceIte, Nat.reduceEqDiff, Nat.reduceAdd, Nat.reduceSub, Nat.reduceMul, Nat.reduceLeDiff, Nat.reduceLT, Int.reduceNeg, Int.reduceToNat, Int.reduceAdd, Int.reduceSub, Int.reduceMul, Int.reduceLT, Int.reduceLE, Int.reduceEq, rX, dg_cells, dg_fold, List.drop_succ_cons, c1, c2, c3, c4, zt, e]
          refine newK_intro fun l n10 => ?_
          obtain ⟨dl9, k10⟩ := Hp.set_none n10
          obtain ⟨dl6, k10⟩ := Hp.set_none k10
          simp (dsimp := false) (implicitDefEqProofs := false) (maxSteps := 1000000) (disch := first | omega | assumption | (simp only [rL, Nat.reduceAdd]; done) | (simp only [rL, Nat.reduceAdd]; omega)) only [↓rD, rU, ev, ofConst, ofCell, ↓reduceIte, Nat.reduceEqDiff, Nat.reduceAdd, Nat.reduceSub, Nat.reduceMul, Nat.reduceLeDiff, Nat.reduceLT, Int.reduceNeg, Int.reduceToNat, Int.reduceAdd, Int.reduceSub, Int.reduceMul, Int.reduceLT, Int.reduceLE, Int.reduceEq, rX, dg_cells, dg_fold, List.drop_succ_cons, zt, e, hx]
          have hP : PS ((s.set l6 (dc x)).set l9 zc) l ds [] false (((s.set l6 (dc x)).set l9 zc).set l (.cells [.sl (ds.map dg) o, .sl [] .nil, .v (.bool false)])) :=
            ⟨o, .nil, [], rfl, Owned.nil Hp.sub_refl⟩
          refine call_intro (up_spec _ m j x ds [] _ _ l rfl (by omega) (by omega) (by omega) hx hd (by simp; omega) hP) ?_
          rintro _ s2 ⟨rfl, h⟩
          obtain ⟨u1, _⟩ := upF_ok _ m j x ds rfl hd
          rw [hp, Int.toNat_natCast, Int.toNat_natCast]
          simp only [List.nil_append, if_true] at h ⊢
          generalize upF m j x ds = u at *
          obtain ⟨ub, ud, ut, ul⟩ := u
          simp only at u1 h ⊢
          have g9 : s2 l9 = some zc := h.get (Ne.symm dl9) (Hp.set_same _ _ _)
          unfold zc at g9
          simp (dsimp := false) (implicitDefEqProofs := false) (maxSteps := 1000000) (disch := first | omega | assumption | (simp only [rL, Nat.reduceAdd]; done) | (simp only [rL, Nat.reduceAdd]; omega)) only [↓rD, rU, ev, ofConst, ofCell, ↓reduceIte, Nat.reduceEqDiff, Nat.reduceAdd, Nat.reduceSub, Nat.reduceMul, Nat.reduceLeDiff, Nat.reduceLT, Int.reduceNeg, Int.reduceToNat, Int.reduceAdd, Int.reduceSub, Int.reduceMul, Int.reduceLT, Int.reduceLE, Int.reduceEq, rX, dg_cells, dg_fold, List.drop_succ_cons, zt, u1, Hp.stA_of g9, Hp.read_of g9]
          have h9 := h.set (l2 := l9) (ob := dc ub) (ob' := zc) (Ne.symm dl9) (Hp.set_same _ _ _)
          refine ⟨_, Hp.sub_refl, l, k10, rfl, h9.base (Hp.sub_new (Hp.sub_new (Hp.sub_new Hp.sub_refl n6) e9) e9)⟩
end Go.Proofs.Ytapjikladjoicaa
set_option maxRecDepth 100000
namespace Go.Proofs.Ytapjikladjoicaa
open Go Go.Av

theorem eqvK_dg {neg : Bool} {a b : List UInt8} {C : AV → Prop} (ha : a.length = 32) (hb : b.length = 32) : eqvK neg [(32, .int .u8)] (dg a) (dg b) C = C (.v (.bool (xor neg (decide (a = b))))) := by
  have h1 := fitR_dg ha
  have h2 := fitR_dg hb
  show (fitR _ _ ∧ fitR _ _ ∧ C (.v (.bool (xor neg (peq (.agg (a.map byteAV)) (.agg (b.map byteAV))))))) = _
  rw [peq_dg]; simp [h1, h2]

def inPathF (root : List UInt8) (n i : Int) (x : List UInt8) (ds : List (List UInt8)) : Bool :=
  pathOk n i && !(upF n.toNat i.toNat x ds).2.2.2 && decide ((upF n.toNat i.toNat x ds).2.1.length = 0) && decide ((upF n.toNat i.toNat x ds).1 = root)

theorem InPath_spec (root : List UInt8) (n i : Int) (x : List UInt8) (ds : List (List UInt8)) (o : Own) (s : Hp) (hr : root.length = 32) (hx : x.length = 32) (hd : Digs ds) (hl : ds.length ≤ 900000) :
    AC Try.prog 12 [dg root, .v (.int .i64 n), .v (.int .i64 i), dg x, .sl (ds.map dg) o] s fun r s' => s' = s ∧ r = .v (.bool (inPathF root n i x ds)) := by
  refine AC_run hm prep12 (by simp) ?_
  simp (dsimp := false) (implicitDefEqProofs := false) (maxSteps := 1000000) (disch := first | omega | assumption | (simp only [rL, Nat.reduceAdd]; done) | (simp only [rL, Nat.reduceAdd]; omega)) only [↓rD, rU, ev, ofConst, ofCell, ↓reduceIte, Nat.reduceEqDiff, Nat.reduceAdd, Nat.reduceSub, Nat.reduceMul, Nat.reduceLeDiff, Nat.reduceLT, Int.reduceNeg, Int.reduceToNat, Int.reduceAdd, Int.reduceSub, Int.reduceMul, Int.reduceLT, Int.reduceLE, Int.reduceEq, rX, dg_cells, dg_fold, List.drop_succ_cons, hr]
  refine newK_intro fun l5 n5 => ?_
  simp (dsimp := false) (implicitDefEqProofs := false) (maxSteps := 1000000) (disch := first | omega | assumption | (simp only [rL, Nat.reduceAdd]; done) | (simp only [rL, Nat.reduceAdd]; omega)) only [↓rD, rU, ev, ofConst, ofCell, ↓reduceIte, Nat.reduceEqDiff, Nat.reduceAdd, Nat.reduceSub, Nat.reduceMul, Nat.reduceLeDiff, Nat.reduceLT, Int.reduceNeg, Int.reduceToNat, Int.reduceAdd, Int.reduceSub, Int.reduceMul, Int.reduceLT, Int.reduceLE, Int.reduceEq, rX, dg_cells, dg_fold, List.drop_succ_cons, hx]
  refine newK_intro fun l8 n8 => ?_
  obtain ⟨d85, e8⟩ := Hp.set_none n8
  simp (dsimp := false) (implicitDefEqProofs := false) (maxSteps := 1000000) (disch := first | omega | assumption | (simp only [rL, Nat.reduceAdd]; done) | (simp only [rL, Nat.reduceAdd]; omega)) only [↓rD, rU, ev, ofConst, ofCell, ↓reduceIte, Nat.reduceEqDiff, Nat.reduceAdd, Nat.reduceSub, Nat.reduceMul, Nat.reduceLeDiff, Nat.reduceLT, Int.reduceNeg, Int.reduceToNat, Int.reduceAdd, Int.reduceSub, Int.reduceMul, Int.reduceLT, Int.reduceLE, Int.reduceEq, rX, dg_cells, dg_fold, List.drop_succ_cons, hx]
  refine call_intro (inPath_spec n i x ds o _ hx hd hl) ?_
  rintro r s1 h
  by_cases hp : pathOk n i = true
  · rw [if_pos hp] at h
    obtain ⟨l, nl, rfl, h⟩ := h
    obtain ⟨dl8, el⟩ := Hp.set_none nl
    obtain ⟨dl5, el⟩ := Hp.set_none el
    obtain ⟨u1, _⟩ := upF_ok _ n.toNat i.toNat x ds rfl hd
    have hI : inPathF root n i x ds = (!(upF n.toNat i.toNat x ds).2.2.2 && decide ((upF n.toNat i.toNat x ds).2.1.length = 0) && decide ((upF n.toNat i.toNat x ds).1 = root)) := by simp [inPathF, hp]
    rw [hI]
    generalize upF n.toNat i.toNat x ds = u at *
    obtain ⟨ub, ud, ut, ul⟩ := u
    simp only at u1 h ⊢
    have g5 : s1 l5 = some (.cells (root.map byteAV)) := h.get (Ne.symm dl5) (by rw [Hp.set_ne _ _ (Ne.symm d85)]; exact Hp.set_same _ _ _)
    have hb : s.sub s1 := Hp.sub_trans (Hp.sub_new (Hp.sub_new Hp.sub_refl n5) e8) (h.sub nl)
    simp (dsimp := false) (implicitDefEqProofs := false) (maxSteps := 1000000) (disch := first | omega | assumption | (simp only [rL, Nat.reduceAdd]; done) | (simp only [rL, Nat.reduceAdd]; omega)) only [↓rD, rU, ev, ofConst, ofCell, ↓reduceIte, Nat.reduceEqDiff, Nat.reduceAdd, Nat.reduceSub, Nat.reduceMul, Nat.reduceLeDiff, Nat.reduceLT, Int.reduceNeg, Int.reduceToNat, Int.reduceAdd, Int.reduceSub, Int.reduceMul, Int.reduceLT, Int.reduceLE, Int.reduceEq, rX, dg_cells, dg_fold, List.drop_succ_cons, List.getElem?_cons_zero, List.getElem?_cons_succ]
    refine newK_intro fun l12 n12 => ?_
    obtain ⟨d12, e12, h⟩ := h.new (ob := dc ub) n12
    have d125 : l12 ≠ l5 := by rintro rfl; rw [n12] at g5; cases g5
    simp (dsimp := false) (implicitDefEqProofs := false) (maxSteps := 1000000) (disch := first | omega | assumption | (simp only [rL, Nat.reduceAdd]; done) | (simp only [rL, Nat.reduceAdd]; omega)) only [↓rD, rU, ev, ofConst, ofCell, ↓reduceIte, Nat.reduceEqDiff, Nat.reduceAdd, Nat.reduceSub, Nat.reduceMul, Nat.reduceLeDiff, Nat.reduceLT, Int.reduceNeg, Int.reduceToNat, Int.reduceAdd, Int.reduceSub, Int.reduceMul, Int.reduceLT, Int.reduceLE, Int.reduceEq, rX, dg_cells, dg_fold, List.drop_succ_cons, u1]
    refine call_intro (good_spec _ _ l ud ut ul h) ?_
    rintro _ _ ⟨rfl, rfl⟩
    have hf : s.sub (s1.set l12 (.cells (ub.map byteAV))) := Hp.sub_new hb (Hp.sub_none hb n12)
    cases hg : (!ul && decide (ud.length = 0))
    · simp (dsimp := false) (implicitDefEqProofs := false) (maxSteps := 1000000) (disch := first | omega | assumption | (simp only [rL, Nat.reduceAdd]; done) | (simp only [rL, Nat.reduceAdd]; omega)) only [↓rD, rU, ev, ofConst, ofCell, ↓reduceIte, Nat.reduceEqDiff, Nat.reduceAdd, Nat.reduceSub, Nat.reduceMul, Nat.reduceLeDiff, Nat.reduceLT, Int.reduceNeg, Int.reduceToNat, Int.reduceAdd, Int.reduceSub, Int.reduceMul, Int.reduceLT, Int.reduceLE, Int.reduceEq, rX, dg_cells, dg_fold, List.drop_succ_cons]
      exact ⟨s, hf, rfl, by simp⟩
    · simp (dsimp := false) (implicitDefEqProofs := false) (maxSteps := 1000000) (disch := first | omega | assumption | (simp only [rL, Nat.reduceAdd]; done) | (simp only [rL, Nat.reduceAdd]; omega)) only [↓rD, rU, ev, ofConst, ofCell, ↓reduceIte, Nat.reduceEqDiff, Nat.reduceAdd, Nat.reduceSub, Nat.reduceMul, Nat.reduceLeDiff, Nat.reduceLT, Int.reduceNeg, Int.reduceToNat, Int.reduceAdd, Int.reduceSub, Int.reduceMul, Int.reduceLT, Int.reduceLE, Int.reduceEq, rX, dg_cells, dg_fold, List.drop_succ_cons, Hp.read_of g5, Ne.symm d125, u1, hr, eqvK_dg, Bool.false_xor]
      exact ⟨s, hf, rfl, by simp⟩
  · rw [if_neg hp] at h
    obtain ⟨rfl, rfl⟩ := h
    have hI : inPathF root n i x ds = false := by simp [inPathF, hp]
    rw [hI]
    simp (dsimp := false) (implicitDefEqProofs := false) (maxSteps := 1000000) (disch := first | omega | assumption | (simp only [rL, Nat.reduceAdd]; done) | (simp only [rL, Nat.reduceAdd]; omega)) only [↓rD, rU, ev, ofConst, ofCell, ↓reduceIte, Nat.reduceEqDiff, Nat.reduceAdd, Nat.reduceSub, Nat.reduceMul, Nat.reduceLeDiff, Nat.reduceLT, Int.reduceNeg, Int.reduceToNat, Int.reduceAdd, Int.reduceSub, Int.reduceMul, Int.reduceLT, Int.reduceLE, Int.reduceEq, rX, dg_cells, dg_fold, List.drop_succ_cons, List.getElem?_cons_zero, List.getElem?_cons_succ, zd_length]
    refine newK_intro fun l12 n12 => ?_
    simp (dsimp := false) (implicitDefEqProofs := false) (maxSteps := 1000000) (disch := first | omega | assumption | (simp only [rL, Nat.reduceAdd]; done) | (simp only [rL, Nat.reduceAdd]; omega)) only [↓rD, rU, ev, ofConst, ofCell, ↓reduceIte, Nat.reduceEqDiff, Nat.reduceAdd, Nat.reduceSub, Nat.reduceMul, Nat.reduceLeDiff, Nat.reduceLT, Int.reduceNeg, Int.reduceToNat, Int.reduceAdd, Int.reduceSub, Int.reduceMul, Int.reduceLT, Int.reduceLE, Int.reduceEq, rX, dg_cells, dg_fold, List.drop_succ_cons, zd_length, Bool.not_true]
    refine ⟨s, Hp.sub_new (Hp.sub_new (Hp.sub_new Hp.sub_refl n5) e8) ?_, rfl⟩
    exact (Hp.set_none (Hp.set_none n12).2).2

theorem PathPre_spec (n i : Int) (x : List UInt8) (ds : List (List UInt8)) (o : Own) (s : Hp) (hx : x.length = 32) (hd : Digs ds) (hl : ds.length ≤ 900000) :
    AC Try.prog 15 [.v (.int .i64 n), .v (.int .i64 i), dg x, .sl (ds.map dg) o] s fun r s' => ∃ tso o', r = .sl (TX tso) o' ∧ Owned s s' 1 (TX tso) o' ∧ tso.map (·.1) = (if pathOk n i = true then (upF n.toNat i.toNat x ds).2.2.1 else []) := by
  refine AC_run hm prep15 (by simp) ?_
  simp (dsimp := false) (implicitDefEqProofs := false) (maxSteps := 1000000) (disch := first | omega | assumption | (simp only [rL, Nat.reduceAdd]; done) | (simp only [rL, Nat.reduceAdd]; omega)) only [↓rD, rU, ev, ofConst, ofCell, ↓reduceIte, Nat.reduceEqDiff, Nat.reduceAdd, Nat.reduceSub, Nat.reduceMul, Nat.reduceLeDiff, Nat.reduceLT, Int.reduceNeg, Int.reduceToNat, Int.reduceAdd, Int.reduceSub, Int.reduceMul, Int.reduceLT, Int.reduceLE, Int.reduceEq, rX, dg_cells, dg_fold, List.drop_succ_cons, hx]
  refine newK_intro fun l6 n6 => ?_
  simp (dsimp := false) (implicitDefEqProofs := false) (maxSteps := 1000000) (disch := first | omega | assumption | (simp only [rL, Nat.reduceAdd]; done) | (simp only [rL, Nat.reduceAdd]; omega)) only [↓rD, rU, ev, ofConst, ofCell, ↓reduceIte, Nat.reduceEqDiff, Nat.reduceAdd, Nat.reduceSub, Nat.reduceMul, Nat.reduceLeDiff, Nat.reduceLT, Int.reduceNeg, Int.reduceToNat, Int.reduceAdd, Int.reduceSub, Int.reduceMul, Int.reduceLT, Int.reduceLE, Int.reduceEq, rX, dg_cells, dg_fold, List.drop_succ_cons, hx]
  refine call_intro (inPath_spec n i x ds o _ hx hd hl) ?_
  rintro r s1 h
  by_cases hp : pathOk n i = true
  · rw [if_pos hp] at h
    obtain ⟨l, nl, rfl, h⟩ := h
    obtain ⟨dl6, el⟩ := Hp.set_none nl
    obtain ⟨u1, _⟩ := upF_ok _ n.toNat i.toNat x ds rfl hd
    rw [if_pos hp]
    generalize upF n.toNat i.toNat x ds = u at *
    obtain ⟨ub, ud, ut, ul⟩ := u
    simp only at u1 h ⊢
    simp (dsimp := false) (implicitDefEqProofs := false) (maxSteps := 1000000) (disch := first | omega | assumption | (simp only [rL, Nat.reduceAdd]; done) | (simp only [rL, Nat.reduceAdd]; omega)) only [↓rD, rU, ev, ofConst, ofCell, ↓reduceIte, Nat.reduceEqDiff, Nat.reduceAdd, Nat.reduceSub, Nat.reduceMul, Nat.reduceLeDiff, Nat.reduceLT, Int.reduceNeg, Int.reduceToNat, Int.reduceAdd, Int.reduceSub, Int.reduceMul, Int.reduceLT, Int.reduceLE, Int.reduceEq, rX, dg_cells, dg_fold, List.drop_succ_cons, List.getElem?_cons_zero, List.getElem?_cons_succ]
    refine newK_intro fun l12 n12 => ?_
    obtain ⟨d12, e12, h⟩ := h.new (ob := dc ub) n12
    obtain ⟨od, ot, tso, q1, q2⟩ := h
    have hl := q2.sub _ _ (Hp.set_same _ _ _)
    simp (dsimp := false) (implicitDefEqProofs := false) (maxSteps := 1000000) (disch := first | omega | assumption | (simp only [rL, Nat.reduceAdd]; done) | (simp only [rL, Nat.reduceAdd]; omega)) only [↓rD, rU, ev, ofConst, ofCell, ↓reduceIte, Nat.reduceEqDiff, Nat.reduceAdd, Nat.reduceSub, Nat.reduceMul, Nat.reduceLeDiff, Nat.reduceLT, Int.reduceNeg, Int.reduceToNat, Int.reduceAdd, Int.reduceSub, Int.reduceMul, Int.reduceLT, Int.reduceLE, Int.reduceEq, rX, dg_cells, dg_fold, List.drop_succ_cons, u1]
    have hr' : s1.read l = some [.sl (ud.map dg) od, .sl (TX tso) ot, .v (.bool ul)] := by
      have := Hp.read_of hl
      rwa [Hp.read_set_ne (Ne.symm d12)] at this
    simp (dsimp := false) (implicitDefEqProofs := false) (maxSteps := 1000000) (disch := first | omega | assumption | (simp only [rL, Nat.reduceAdd]; done) | (simp only [rL, Nat.reduceAdd]; omega)) only [↓rD, rU, ev, ofConst, ofCell, ↓reduceIte, Nat.reduceEqDiff, Nat.reduceAdd, Nat.reduceSub, Nat.reduceMul, Nat.reduceLeDiff, Nat.reduceLT, Int.reduceNeg, Int.reduceToNat, Int.reduceAdd, Int.reduceSub, Int.reduceMul, Int.reduceLT, Int.reduceLE, Int.reduceEq, rX, dg_cells, dg_fold, List.drop_succ_cons, hr']
    exact ⟨_, Hp.sub_refl, tso, ot, rfl, q2.base (Hp.sub_new (Hp.sub_new (Hp.sub_new Hp.sub_refl n6) (Hp.set_none e12).2) el), q1⟩
  · rw [if_neg hp] at h
    obtain ⟨rfl, rfl⟩ := h
    rw [if_neg hp]
    simp (dsimp := false) (implicitDefEqProofs := false) (maxSteps := 1000000) (disch := first | omega | assumption | (simp only [rL, Nat.reduceAdd]; done) | (simp only [rL, Nat.reduceAdd]; omega)) only [↓rD, rU, ev, ofConst, ofCell, ↓reduceIte, Nat.reduceEqDiff, Nat.reduceAdd, Nat.reduceSub, Nat.reduceMul, Nat.reduceLeDiff, Nat.reduceLT, Int.reduceNeg, Int.reduceToNat, Int.reduceAdd, Int.reduceSub, Int.reduceMul, Int.reduceLT, Int.reduceLE, Int.reduceEq, rX, dg_cells, dg_fold, List.drop_succ_cons, List.getElem?_cons_zero, List.getElem?_cons_succ, zd_length]
    refine newK_intro fun l12 n12 => ?_
    obtain ⟨_, e12⟩ := Hp.set_none n12
    simp (dsimp := false) (implicitDefEqProofs := false) (maxSteps := 1000000) (disch := first | omega | assumption | (simp only [rL, Nat.reduceAdd]; done) | (simp only [rL, Nat.reduceAdd]; omega)) only [↓rD, rU, ev, ofConst, ofCell, ↓reduceIte, Nat.reduceEqDiff, Nat.reduceAdd, Nat.reduceSub, Nat.reduceMul, Nat.reduceLeDiff, Nat.reduceLT, Int.reduceNeg, Int.reduceToNat, Int.reduceAdd, Int.reduceSub, Int.reduceMul, Int.reduceLT, Int.reduceLE, Int.reduceEq, rX, dg_cells, dg_fold, List.drop_succ_cons, zd_length, Bool.not_false]
    exact ⟨_, Hp.sub_refl, [], .nil, rfl, Owned.nil (Hp.sub_new (Hp.sub_new Hp.sub_refl n6) e12), rfl⟩
end Go.Proofs.Ytapjikladjoicaa
set_option maxRecDepth 100000
namespace Go.Proofs.Ytapjikladjoicaa
open Go Go.Av

def pathD (l : List (List UInt8)) (i : Nat) : List (List UInt8) :=
  if h : l.length < 2 then []
  else if i < half l.length then pathD (l.take (half l.length)) i ++ [rootD (l.drop (half l.length))]
  else pathD (l.drop (half l.length)) (i - half l.length) ++ [rootD (l.take (half l.length))]
termination_by l.length
decreasing_by
  · have := half_lt l.length (by omega); simp; omega
  · have := half_pos l.length; simp; omega
theorem pathD_leaf {l : List (List UInt8)} {i : Nat} (h : l.length < 2) : pathD l i = [] := by rw [pathD, dif_pos h]
theorem pathD_left {l : List (List UInt8)} {i : Nat} (h : ¬ l.length < 2) (hi : i < half l.length) : pathD l i = pathD (l.take (half l.length)) i ++ [rootD (l.drop (half l.length))] := by rw [pathD, dif_neg h, if_pos hi]
theorem pathD_right {l : List (List UInt8)} {i : Nat} (h : ¬ l.length < 2) (hi : ¬ i < half l.length) : pathD l i = pathD (l.drop (half l.length)) (i - half l.length) ++ [rootD (l.take (half l.length))] := by rw [pathD, dif_neg h, if_neg hi]
theorem pathD_ok : ∀ (N : Nat) (l : List (List UInt8)) (i : Nat), l.length = N → Digs (pathD l i) ∧ (pathD l i).length ≤ l.length := by
  intro N
  induction N using Nat.strongRecOn with
  | _ N ih =>
  intro l i hN
  by_cases h : l.length < 2
  · rw [pathD_leaf h]; exact ⟨fun d hd => by simp at hd, by simp⟩
  · have hlt := half_lt l.length (by omega)
    have hpos := half_pos l.length
    by_cases hi : i < half l.length
    · rw [pathD_left h hi]
      obtain ⟨a, b⟩ := ih (half l.length) (by omega) (l.take (half l.length)) i (by simp; omega)
      refine ⟨fun d hd => ?_, by simp at b ⊢; omega⟩
      rcases List.mem_append.1 hd with hd | hd
      · exact a d hd
      · simp at hd; subst hd; exact rootD_length _
    · rw [pathD_right h hi]
      obtain ⟨a, b⟩ := ih (l.length - half l.length) (by omega) (l.drop (half l.length)) (i - half l.length) (by simp)
      refine ⟨fun d hd => ?_, by simp at b ⊢; omega⟩
      rcases List.mem_append.1 hd with hd | hd
      · exact a d hd
      · simp at hd; subst hd; exact rootD_length _

theorem mapd_snoc {l : List (List UInt8)} {d : List UInt8} : l.map dg ++ [dg d] = (l ++ [d]).map dg := by simp

theorem app_dig {s s0 : Hp} {xs : List (List UInt8)} {d : List UInt8} {o o2 : Own} {C : AV → Hp → Prop} {de : Dep C} (h : Owned s0 s 32 (xs.map dg) o) (h1 : Digs xs) (h2 : d.length = 32) (h3 : xs.length ≤ 1099511627776)
    (hk : ∀ o' s', Owned s0 s' 32 ((xs ++ [d]).map dg) o' → C (.sl ((xs ++ [d]).map dg) o') s') : appK 32 32 s (.sl (xs.map dg) o) (.sl [dg d] o2) (hid2 C de) := by
  refine app_own h h1.all (by simp [allLen, dg_cells, h2]) (by simp; omega) (by simp; omega) ?_
  rw [mapd_snoc]; exact hk

theorem path_spec : ∀ (N : Nat) (l : List (List UInt8)) (i : Nat) (o : Own) (s : Hp), l.length = N → 1 ≤ l.length → l.length ≤ 1099511627776 → i < l.length → Digs l →
    AC Try.prog 33 [.sl (l.map dg) o, .v (.int .i64 i)] s fun r s' => ∃ o', Owned s s' 32 ((pathD l i).map dg) o' ∧ r = .sl ((pathD l i).map dg) o' := by
  intro N
  induction N using Nat.strongRecOn with
  | _ N ih =>
  intro l i o s hN h1 hle hi hd
  refine AC_run hm prep33 (by simp) ?_
  simp (dsimp := false) (implicitDefEqProofs := false) (maxSteps := 1000000) (disch := first | omega | assumption | (simp only [rL, Nat.reduceAdd]; done) | (simp only [rL, Nat.reduceAdd]; omega)) only [↓rD, rU, ev, ofConst, ofCell, ↓reduceIte, Nat.reduceEqDiff, Nat.reduceAdd, Nat.reduceSub, Nat.reduceMul, Nat.reduceLeDiff, Nat.reduceLT, Int.reduceNeg, Int.reduceToNat, Int.reduceAdd, Int.reduceSub, Int.reduceMul, Int.reduceLT, Int.reduceLE, Int.reduceEq, rX, dg_cells, dg_fold, List.drop_succ_cons]
  by_cases h2 : l.length < 2
  · have e1 : ((l.length : Nat) : Int) = 1 := by omega
    simp (dsimp := false) (implicitDefEqProofs := false) (maxSteps := 1000000) (disch := first | omega | assumption | (simp only [rL, Nat.reduceAdd]; done) | (simp only [rL, Nat.reduceAdd]; omega)) only [↓rD, rU, ev, ofConst, ofCell, ↓reduceIte, Nat.reduceEqDiff, Nat.reduceAdd, Nat.reduceSub, Nat.reduceMul, Nat.reduceLeDiff, Nat.reduceLT, Int.reduceNeg, Int.reduceToNat, Int.reduceAdd, Int.reduceSub, Int.reduceMul, Int.reduceLT, Int.reduceLE, Int.reduceEq, rX, dg_cells, dg_fold, List.drop_succ_cons, e1]
    rw [pathD_leaf h2]
    exact ⟨s, Hp.sub_refl, .nil, Owned.nil Hp.sub_refl, rfl⟩
  · have e1 : ¬ ((l.length : Nat) : Int) = 1 := by omega
    simp (dsimp := false) (implicitDefEqProofs := false) (maxSteps := 1000000) (disch := first | omega | assumption | (simp only [rL, Nat.reduceAdd]; done) | (simp only [rL, Nat.reduceAdd]; omega)) only [↓rD, rU, ev, ofConst, ofCell, ↓reduceIte, Nat.reduceEqDiff, Nat.reduceAdd, Nat.reduceSub, Nat.reduceMul, Nat.reduceLeDiff, Nat.reduceLT, Int.reduceNeg, Int.reduceToNat, Int.reduceAdd, Int.reduceSub, Int.reduceMul, Int.reduceLT, Int.reduceLE, Int.reduceEq, rX, dg_cells, dg_fold, List.drop_succ_cons, e1]
    refine call_intro (half_spec l.length (by omega) (by omega) _) ?_
    rintro _ _ ⟨rfl, rfl⟩
    have hlt := half_lt l.length (by omega)
    have hpos := half_pos l.length
    have hall := hd.all
    have hle' : ((half l.length : Nat) : Int) ≤ ((l.map dg).length : Nat) := by rw [List.length_map]; omega
    have hr1 := rootD_length (l.take (half l.length))
    have hr2 := rootD_length (l.drop (half l.length))
    by_cases hik : i < half l.length
    · have hik' : (i : Int) < (half l.length : Nat) := by omega
      rw [pathD_left h2 hik]
      generalize hk : half l.length = k at *
      simp (dsimp := false) (implicitDefEqProofs := false) (maxSteps := 1000000) (disch := first | omega | assumption | (simp only [rL, Nat.reduceAdd]; done) | (simp only [rL, Nat.reduceAdd]; omega)) only [↓rD, rU, ev, ofConst, ofCell, ↓reduceIte, Nat.reduceEqDiff, Nat.reduceAdd, Nat.reduceSub, Nat.reduceMul, Nat.reduceLeDiff, Nat.reduceLT, Int.reduceNeg, Int.reduceToNat, Int.reduceAdd, Int.reduceSub, Int.reduceMul, Int.reduceLT, Int.reduceLE, Int.reduceEq, rX, dg_cells, dg_fold, List.drop_succ_cons, hik', mapd_take, mapd_drop]
      refine call_intro (ih _ (by rw [← hN, List.length_take]; omega) (l.take k) i .any _ rfl (by rw [List.length_take]; omega) (by rw [List.length_take]; omega) (by rw [List.length_take]; omega) (hd.take k)) ?_
      rintro _ s1 ⟨o1, q1, rfl⟩
      simp (dsimp := false) (implicitDefEqProofs := false) (maxSteps := 1000000) (disch := first | omega | assumption | (simp only [rL, Nat.reduceAdd]; done) | (simp only [rL, Nat.reduceAdd]; omega)) only [↓rD, rU, ev, ofConst, ofCell, ↓reduceIte, Nat.reduceEqDiff, Nat.reduceAdd, Nat.reduceSub, Nat.reduceMul, Nat.reduceLeDiff, Nat.reduceLT, Int.reduceNeg, Int.reduceToNat, Int.reduceAdd, Int.reduceSub, Int.reduceMul, Int.reduceLT, Int.reduceLE, Int.reduceEq, rX, dg_cells, dg_fold, List.drop_succ_cons, hik', mapd_take, mapd_drop]
      refine call_intro (root_spec _ (l.drop k) .any _ rfl (by rw [List.length_drop]; omega) (hd.drop k)) ?_
      rintro _ _ ⟨rfl, rfl⟩
      obtain ⟨p1, p2⟩ := pathD_ok _ (l.take k) i rfl
      rw [List.length_take] at p2
      generalize rootD (l.drop k) = q at *
      generalize pathD (l.take k) i = p at *
      simp (dsimp := false) (implicitDefEqProofs := false) (maxSteps := 1000000) (disch := first | omega | assumption | (simp only [rL, Nat.reduceAdd]; done) | (simp only [rL, Nat.reduceAdd]; omega)) only [↓rD, rU, ev, ofConst, ofCell, ↓reduceIte, Nat.reduceEqDiff, Nat.reduceAdd, Nat.reduceSub, Nat.reduceMul, Nat.reduceLeDiff, Nat.reduceLT, Int.reduceNeg, Int.reduceToNat, Int.reduceAdd, Int.reduceSub, Int.reduceMul, Int.reduceLT, Int.reduceLE, Int.reduceEq, rX, dg_cells, dg_fold, List.drop_succ_cons]
      refine bsl_own Hp.sub_refl (by simp [allLen, dg_cells, hr2]) fun o2 s2 q2 => ?_
      simp (dsimp := false) (implicitDefEqProofs := false) (maxSteps := 1000000) (disch := first | omega | assumption | (simp only [rL, Nat.reduceAdd]; done) | (simp only [rL, Nat.reduceAdd]; omega)) only [↓rD, rU, ev, ofConst, ofCell, ↓reduceIte, Nat.reduceEqDiff, Nat.reduceAdd, Nat.reduceSub, Nat.reduceMul, Nat.reduceLeDiff, Nat.reduceLT, Int.reduceNeg, Int.reduceToNat, Int.reduceAdd, Int.reduceSub, Int.reduceMul, Int.reduceLT, Int.reduceLE, Int.reduceEq, rX, dg_cells, dg_fold, List.drop_succ_cons]
      refine app_dig (q1.mono q2.sub) p1 hr2 (by omega) fun o3 s3 q3 => ?_
      simp (dsimp := false) (implicitDefEqProofs := false) (maxSteps := 1000000) (disch := first | omega | assumption | (simp only [rL, Nat.reduceAdd]; done) | (simp only [rL, Nat.reduceAdd]; omega)) only [↓rD, rU, ev, ofConst, ofCell, ↓reduceIte, Nat.reduceEqDiff, Nat.reduceAdd, Nat.reduceSub, Nat.reduceMul, Nat.reduceLeDiff, Nat.reduceLT, Int.reduceNeg, Int.reduceToNat, Int.reduceAdd, Int.reduceSub, Int.reduceMul, Int.reduceLT, Int.reduceLE, Int.reduceEq, rX, dg_cells, dg_fold, List.drop_succ_cons]
      exact ⟨s3, Hp.sub_refl, o3, q3, rfl⟩
    · have hik' : ¬ (i : Int) < (half l.length : Nat) := by omega
      rw [pathD_right h2 hik]
      generalize hk : half l.length = k at *
      have ei : (i : Int) - (k : Nat) = ((i - k : Nat) : Int) := by omega
      simp (dsimp := false) (implicitDefEqProofs := false) (maxSteps := 1000000) (disch := first | omega | assumption | (simp only [rL, Nat.reduceAdd]; done) | (simp only [rL, Nat.reduceAdd]; omega)) only [↓rD, rU, ev, ofConst, ofCell, ↓reduceIte, Nat.reduceEqDiff, Nat.reduceAdd, Nat.reduceSub, Nat.reduceMul, Nat.reduceLeDiff, Nat.reduceLT, Int.reduceNeg, Int.reduceToNat, Int.reduceAdd, Int.reduceSub, Int.reduceMul, Int.reduceLT, Int.reduceLE, Int.reduceEq, rX, dg_cells, dg_fold, List.drop_succ_cons, hik', mapd_take, mapd_drop, ei]
      refine call_intro (ih _ (by rw [← hN, List.length_drop]; omega) (l.drop k) (i - k) .any _ rfl (by rw [List.length_drop]; omega) (by rw [List.length_drop]; omega) (by rw [List.length_drop]; omega) (hd.drop k)) ?_
      rintro _ s1 ⟨o1, q1, rfl⟩
      simp (dsimp := false) (implicitDefEqProofs := false) (maxSteps := 1000000) (disch := first | omega | assumption | (simp only [rL, Nat.reduceAdd]; done) | (simp only [rL, Nat.reduceAdd]; omega)) only [↓rD, rU, ev, ofConst, ofCell, ↓reduceIte, Nat.reduceEqDiff, Nat.reduceAdd, Nat.reduceSub, Nat.reduceMul, Nat.reduceLeDiff, Nat.reduceLT, Int.reduceNeg, Int.reduceToNat, Int.reduceAdd, Int.reduceSub, Int.reduceMul, Int.reduceLT, Int.reduceLE, Int.reduceEq, rX, dg_cells, dg_fold, List.drop_succ_cons, hik', mapd_take, mapd_drop]
      refine call_intro (root_spec _ (l.take k) .any _ rfl (by rw [List.length_take]; omega) (hd.take k)) ?_
      rintro _ _ ⟨rfl, rfl⟩
      obtain ⟨p1, p2⟩ := pathD_ok _ (l.drop k) (i - k) rfl
      rw [List.length_drop] at p2
      generalize rootD (l.take k) = q at *
      generalize pathD (l.drop k) (i - k) = p at *
      simp (dsimp := false) (implicitDefEqProofs := false) (maxSteps := 1000000) (disch := first | omega | assumption | (simp only [rL, Nat.reduceAdd]; done) | (simp only [rL, Nat.reduceAdd]; omega)) only [↓rD, rU, ev, ofConst, ofCell, ↓reduceIte, Nat.reduceEqDiff, Nat.reduceAdd, Nat.reduceSub, Nat.reduceMul, Nat.reduceLeDiff, Nat.reduceLT, Int.reduceNeg, Int.reduceToNat, Int.reduceAdd, Int.reduceSub, Int.reduceMul, Int.reduceLT, Int.reduceLE, Int.reduceEq, rX, dg_cells, dg_fold, List.drop_succ_cons]
      refine bsl_own Hp.sub_refl (by simp [allLen, dg_cells, hr1]) fun o2 s2 q2 => ?_
      simp (dsimp := false) (implicitDefEqProofs := false) (maxSteps := 1000000) (disch := first | omega | assumption | (simp only [rL, Nat.reduceAdd]; done) | (simp only [rL, Nat.reduceAdd]; omega)) only [↓rD, rU, ev, ofConst, ofCell, ↓reduceIte, Nat.reduceEqDiff, Nat.reduceAdd, Nat.reduceSub, Nat.reduceMul, Nat.reduceLeDiff, Nat.reduceLT, Int.reduceNeg, Int.reduceToNat, Int.reduceAdd, Int.reduceSub, Int.reduceMul, Int.reduceLT, Int.reduceLE, Int.reduceEq, rX, dg_cells, dg_fold, List.drop_succ_cons]
      refine app_dig (q1.mono q2.sub) p1 hr1 (by omega) fun o3 s3 q3 => ?_
      simp (dsimp := false) (implicitDefEqProofs := false) (maxSteps := 1000000) (disch := first | omega | assumption | (simp only [rL, Nat.reduceAdd]; done) | (simp only [rL, Nat.reduceAdd]; omega)) only [↓rD, rU, ev, ofConst, ofCell, ↓reduceIte, Nat.reduceEqDiff, Nat.reduceAdd, Nat.reduceSub, Nat.reduceMul, Nat.reduceLeDiff, Nat.reduceLT, Int.reduceNeg, Int.reduceToNat, Int.reduceAdd, Int.reduceSub, Int.reduceMul, Int.reduceLT, Int.reduceLE, Int.reduceEq, rX, dg_cells, dg_fold, List.drop_succ_cons]
      exact ⟨s3, Hp.sub_refl, o3, q3, rfl⟩

/-- for places that there are -/
theorem Path_spec (l : List (List UInt8)) (i : Nat) (o : Own) (s : Hp) (hle : l.length ≤ 1099511627776) (hi : i < l.length) (hd : Digs l) :
    AC Try.prog 14 [.sl (l.map dg) o, .v (.int .i64 i)] s fun r s' => ∃ o', Owned s s' 32 ((pathD l i).map dg) o' ∧ r = .tup [.sl ((pathD l i).map dg) o', .v (.int .i64 0)] := by
  refine AC_run hm prep14 (by simp) ?_
  have c1 : ¬ (i : Int) < 0 := by omega
  have c2 : ¬ ((l.length : Nat) : Int) ≤ (i : Int) := by omega
  simp (dsimp := false) (implicitDefEqProofs := false) (maxSteps := 1000000) (disch := first | omega | assumption | (simp only [rL, Nat.reduceAdd]; done) | (simp only [rL, Nat.reduceAdd]; omega)) only [↓rD, rU, ev, ofConst, ofCell, ↓reduceIte, Nat.reduceEqDiff, Nat.reduceAdd, Nat.reduceSub, Nat.reduceMul, Nat.reduceLeDiff, Nat.reduceLT, Int.reduceNeg, Int.reduceToNat, Int.reduceAdd, Int.reduceSub, Int.reduceMul, Int.reduceLT, Int.reduceLE, Int.reduceEq, rX, dg_cells, dg_fold, List.drop_succ_cons, c1, c2]
  refine call_intro (path_spec _ l i o _ rfl (by omega) hle hi hd) ?_
  rintro _ s1 ⟨o1, q1, rfl⟩
  simp (dsimp := false) (implicitDefEqProofs := false) (maxSteps := 1000000) (disch := first | omega | assumption | (simp only [rL, Nat.reduceAdd]; done) | (simp only [rL, Nat.reduceAdd]; omega)) only [↓rD, rU, ev, ofConst, ofCell, ↓reduceIte, Nat.reduceEqDiff, Nat.reduceAdd, Nat.reduceSub, Nat.reduceMul, Nat.reduceLeDiff, Nat.reduceLT, Int.reduceNeg, Int.reduceToNat, Int.reduceAdd, Int.reduceSub, Int.reduceMul, Int.reduceLT, Int.reduceLE, Int.reduceEq, rX, dg_cells, dg_fold, List.drop_succ_cons]
  exact ⟨s1, Hp.sub_refl, o1, q1, rfl⟩
end Go.Proofs.Ytapjikladjoicaa
set_option maxRecDepth 100000
namespace Go.Proofs.Ytapjikladjoicaa
open Go Go.Av

def restD (l : List (List UInt8)) (m : Nat) (own : Bool) : List (List UInt8) :=
  if h : l.length < 2 ∨ m = l.length then (if own = true then [] else [rootD l])
  else if m ≤ half l.length then restD (l.take (half l.length)) m own ++ [rootD (l.drop (half l.length))]
  else restD (l.drop (half l.length)) (m - half l.length) false ++ [rootD (l.take (half l.length))]
termination_by l.length
decreasing_by
  · have := half_lt l.length (by omega); simp; omega
  · have := half_pos l.length; simp; omega
theorem restD_own {l : List (List UInt8)} {m : Nat} (h : m = l.length) : restD l m true = [] := by rw [restD, dif_pos (.inr h)]; rfl
theorem restD_all {l : List (List UInt8)} {m : Nat} (h : m = l.length) : restD l m false = [rootD l] := by rw [restD, dif_pos (.inr h)]; rfl
theorem restD_left {l : List (List UInt8)} {m : Nat} {own : Bool} (h : ¬ (l.length < 2 ∨ m = l.length)) (hi : m ≤ half l.length) : restD l m own = restD (l.take (half l.length)) m own ++ [rootD (l.drop (half l.length))] := by rw [restD, dif_neg h, if_pos hi]
theorem restD_right {l : List (List UInt8)} {m : Nat} {own : Bool} (h : ¬ (l.length < 2 ∨ m = l.length)) (hi : ¬ m ≤ half l.length) : restD l m own = restD (l.drop (half l.length)) (m - half l.length) false ++ [rootD (l.take (half l.length))] := by rw [restD, dif_neg h, if_neg hi]
theorem restD_ok : ∀ (N : Nat) (l : List (List UInt8)) (m : Nat) (own : Bool), l.length = N → Digs (restD l m own) ∧ (restD l m own).length ≤ l.length + 1 := by
  intro N
  induction N using Nat.strongRecOn with
  | _ N ih =>
  intro l m own hN
  by_cases h : l.length < 2 ∨ m = l.length
  · rw [restD, dif_pos h]
    cases own
    · exact ⟨fun d hd => by simp at hd; subst hd; exact rootD_length _, by simp⟩
    · exact ⟨fun d hd => by simp at hd, by simp⟩
  · have hlt := half_lt l.length (by omega)
    have hpos := half_pos l.length
    by_cases hi : m ≤ half l.length
    · rw [restD_left h hi]
      obtain ⟨a, b⟩ := ih (half l.length) (by omega) (l.take (half l.length)) m own (by simp; omega)
      refine ⟨fun d hd => ?_, by simp at b ⊢; omega⟩
      rcases List.mem_append.1 hd with hd | hd
      · exact a d hd
      · simp at hd; subst hd; exact rootD_length _
    · rw [restD_right h hi]
      obtain ⟨a, b⟩ := ih (l.length - half l.length) (by omega) (l.drop (half l.length)) (m - half l.length) false (by simp)
      refine ⟨fun d hd => ?_, by simp at b ⊢; omega⟩
      rcases List.mem_append.1 hd with hd | hd
      · exact a d hd
      · simp at hd; subst hd; exact rootD_length _

theorem rest_spec : ∀ (N : Nat) (l : List (List UInt8)) (m : Nat) (own : Bool) (o : Own) (s : Hp), l.length = N → l.length ≤ 1099511627776 → 1 ≤ m → m ≤ l.length → Digs l →
    AC Try.prog 36 [.sl (l.map dg) o, .v (.int .i64 m), .v (.bool own)] s fun r s' => ∃ o', Owned s s' 32 ((restD l m own).map dg) o' ∧ r = .sl ((restD l m own).map dg) o' := by
  intro N
  induction N using Nat.strongRecOn with
  | _ N ih =>
  intro l m own o s hN hle h1 hml hd
  refine AC_run hm prep36 (by simp) ?_
  simp (dsimp := false) (implicitDefEqProofs := false) (maxSteps := 1000000) (disch := first | omega | assumption | (simp only [rL, Nat.reduceAdd]; done) | (simp only [rL, Nat.reduceAdd]; omega)) only [↓rD, rU, ev, ofConst, ofCell, ↓reduceIte, Nat.reduceEqDiff, Nat.reduceAdd, Nat.reduceSub, Nat.reduceMul, Nat.reduceLeDiff, Nat.reduceLT, Int.reduceNeg, Int.reduceToNat, Int.reduceAdd, Int.reduceSub, Int.reduceMul, Int.reduceLT, Int.reduceLE, Int.reduceEq, rX, dg_cells, dg_fold, List.drop_succ_cons]
  have hrl := rootD_length l
  by_cases h2 : m = l.length
  · subst h2
    cases own
    · simp (dsimp := false) (implicitDefEqProofs := false) (maxSteps := 1000000) (disch := first | omega | assumption | (simp only [rL, Nat.reduceAdd]; done) | (simp only [rL, Nat.reduceAdd]; omega)) only [↓rD, rU, ev, ofConst, ofCell, ↓reduceIte, Nat.reduceEqDiff, Nat.reduceAdd, Nat.reduceSub, Nat.reduceMul, Nat.reduceLeDiff, Nat.reduceLT, Int.reduceNeg, Int.reduceToNat, Int.reduceAdd, Int.reduceSub, Int.reduceMul, Int.reduceLT, Int.reduceLE, Int.reduceEq, rX, dg_cells, dg_fold, List.drop_succ_cons]
      rw [restD_all rfl]
      refine call_intro (root_spec _ l o _ rfl hle hd) ?_
      rintro _ _ ⟨rfl, rfl⟩
      generalize rootD l = q at *
      simp (dsimp := false) (implicitDefEqProofs := false) (maxSteps := 1000000) (disch := first | omega | assumption | (simp only [rL, Nat.reduceAdd]; done) | (simp only [rL, Nat.reduceAdd]; omega)) only [↓rD, rU, ev, ofConst, ofCell, ↓reduceIte, Nat.reduceEqDiff, Nat.reduceAdd, Nat.reduceSub, Nat.reduceMul, Nat.reduceLeDiff, Nat.reduceLT, Int.reduceNeg, Int.reduceToNat, Int.reduceAdd, Int.reduceSub, Int.reduceMul, Int.reduceLT, Int.reduceLE, Int.reduceEq, rX, dg_cells, dg_fold, List.drop_succ_cons]
      refine bsl_own Hp.sub_refl (by simp [allLen, dg_cells, hrl]) fun o2 s2 q2 => ?_
      simp (dsimp := false) (implicitDefEqProofs := false) (maxSteps := 1000000) (disch := first | omega | assumption | (simp only [rL, Nat.reduceAdd]; done) | (simp only [rL, Nat.reduceAdd]; omega)) only [↓rD, rU, ev, ofConst, ofCell, ↓reduceIte, Nat.reduceEqDiff, Nat.reduceAdd, Nat.reduceSub, Nat.reduceMul, Nat.reduceLeDiff, Nat.reduceLT, Int.reduceNeg, Int.reduceToNat, Int.reduceAdd, Int.reduceSub, Int.reduceMul, Int.reduceLT, Int.reduceLE, Int.reduceEq, rX, dg_cells, dg_fold, List.drop_succ_cons]
      exact ⟨s2, Hp.sub_refl, o2, q2, rfl⟩
    · simp (dsimp := false) (implicitDefEqProofs := false) (maxSteps := 1000000) (disch := first | omega | assumption | (simp only [rL, Nat.reduceAdd]; done) | (simp only [rL, Nat.reduceAdd]; omega)) only [↓rD, rU, ev, ofConst, ofCell, ↓reduceIte, Nat.reduceEqDiff, Nat.reduceAdd, Nat.reduceSub, Nat.reduceMul, Nat.reduceLeDiff, Nat.reduceLT, Int.reduceNeg, Int.reduceToNat, Int.reduceAdd, Int.reduceSub, Int.reduceMul, Int.reduceLT, Int.reduceLE, Int.reduceEq, rX, dg_cells, dg_fold, List.drop_succ_cons]
      rw [restD_own rfl]
      exact ⟨s, Hp.sub_refl, .nil, Owned.nil Hp.sub_refl, rfl⟩
  · have e1 : ¬ ((m : Nat) : Int) = (l.length : Nat) := by omega
    have h3 : ¬ (l.length < 2 ∨ m = l.length) := by omega
    have hlt := half_lt l.length (by omega)
    have hpos := half_pos l.length
    have hhs := fun s => half_spec l.length (by omega) (by omega) s
    have hall := hd.all
    have hle' : ((half l.length : Nat) : Int) ≤ ((l.map dg).length : Nat) := by rw [List.length_map]; omega
    have hr1 := rootD_length (l.take (half l.length))
    have hr2 := rootD_length (l.drop (half l.length))
    simp (dsimp := false) (implicitDefEqProofs := false) (maxSteps := 1000000) (disch := first | omega | assumption | (simp only [rL, Nat.reduceAdd]; done) | (simp only [rL, Nat.reduceAdd]; omega)) only [↓rD, rU, ev, ofConst, ofCell, ↓reduceIte, Nat.reduceEqDiff, Nat.reduceAdd, Nat.reduceSub, Nat.reduceMul, Nat.reduceLeDiff, Nat.reduceLT, Int.reduceNeg, Int.reduceToNat, Int.reduceAdd, Int.reduceSub, Int.reduceMul, Int.reduceLT, Int.reduceLE, Int.reduceEq, rX, dg_cells, dg_fold, List.drop_succ_cons, e1]
    refine call_intro (hhs _) ?_
    rintro _ _ ⟨rfl, rfl⟩
    by_cases hik : m ≤ half l.length
    · have hik' : (m : Int) ≤ (half l.length : Nat) := by omega
      rw [restD_left h3 hik]
      generalize hk : half l.length = k at *
      simp (dsimp := false) (implicitDefEqProofs := false) (maxSteps := 1000000) (disch := first | omega | assumption | (simp only [rL, Nat.reduceAdd]; done) | (simp only [rL, Nat.reduceAdd]; omega)) only [↓rD, rU, ev, ofConst, ofCell, ↓reduceIte, Nat.reduceEqDiff, Nat.reduceAdd, Nat.reduceSub, Nat.reduceMul, Nat.reduceLeDiff, Nat.reduceLT, Int.reduceNeg, Int.reduceToNat, Int.reduceAdd, Int.reduceSub, Int.reduceMul, Int.reduceLT, Int.reduceLE, Int.reduceEq, rX, dg_cells, dg_fold, List.drop_succ_cons, hik', e1, mapd_take, mapd_drop]
      refine call_intro (hhs _) ?_
      rintro _ _ ⟨rfl, rfl⟩
      simp (dsimp := false) (implicitDefEqProofs := false) (maxSteps := 1000000) (disch := first | omega | assumption | (simp only [rL, Nat.reduceAdd]; done) | (simp only [rL, Nat.reduceAdd]; omega)) only [↓rD, rU, ev, ofConst, ofCell, ↓reduceIte, Nat.reduceEqDiff, Nat.reduceAdd, Nat.reduceSub, Nat.reduceMul, Nat.reduceLeDiff, Nat.reduceLT, Int.reduceNeg, Int.reduceToNat, Int.reduceAdd, Int.reduceSub, Int.reduceMul, Int.reduceLT, Int.reduceLE, Int.reduceEq, rX, dg_cells, dg_fold, List.drop_succ_cons, hik', mapd_take, mapd_drop]
      refine call_intro (ih _ (by rw [← hN, List.length_take]; omega) (l.take k) m own .any _ rfl (by rw [List.length_take]; omega) h1 (by rw [List.length_take]; omega) (hd.take k)) ?_
      rintro _ s1 ⟨o1, q1, rfl⟩
      simp (dsimp := false) (implicitDefEqProofs := false) (maxSteps := 1000000) (disch := first | omega | assumption | (simp only [rL, Nat.reduceAdd]; done) | (simp only [rL, Nat.reduceAdd]; omega)) only [↓rD, rU, ev, ofConst, ofCell, ↓reduceIte, Nat.reduceEqDiff, Nat.reduceAdd, Nat.reduceSub, Nat.reduceMul, Nat.reduceLeDiff, Nat.reduceLT, Int.reduceNeg, Int.reduceToNat, Int.reduceAdd, Int.reduceSub, Int.reduceMul, Int.reduceLT, Int.reduceLE, Int.reduceEq, rX, dg_cells, dg_fold, List.drop_succ_cons, hik', mapd_take, mapd_drop]
      refine call_intro (hhs _) ?_
      rintro _ _ ⟨rfl, rfl⟩
      simp (dsimp := false) (implicitDefEqProofs := false) (maxSteps := 1000000) (disch := first | omega | assumption | (simp only [rL, Nat.reduceAdd]; done) | (simp only [rL, Nat.reduceAdd]; omega)) only [↓rD, rU, ev, ofConst, ofCell, ↓reduceIte, Nat.reduceEqDiff, Nat.reduceAdd, Nat.reduceSub, Nat.reduceMul, Nat.reduceLeDiff, Nat.reduceLT, Int.reduceNeg, Int.reduceToNat, Int.reduceAdd, Int.reduceSub, Int.reduceMul, Int.reduceLT, Int.reduceLE, Int.reduceEq, rX, dg_cells, dg_fold, List.drop_succ_cons, hik', mapd_take, mapd_drop]
      refine call_intro (root_spec _ (l.drop k) .any _ rfl (by rw [List.length_drop]; omega) (hd.drop k)) ?_
      rintro _ _ ⟨rfl, rfl⟩
      obtain ⟨p1, p2⟩ := restD_ok _ (l.take k) m own rfl
      rw [List.length_take] at p2
      generalize rootD (l.drop k) = q at *
      generalize restD (l.take k) m own = p at *
      simp (dsimp := false) (implicitDefEqProofs := false) (maxSteps := 1000000) (disch := first | omega | assumption | (simp only [rL, Nat.reduceAdd]; done) | (simp only [rL, Nat.reduceAdd]; omega)) only [↓rD, rU, ev, ofConst, ofCell, ↓reduceIte, Nat.reduceEqDiff, Nat.reduceAdd, Nat.reduceSub, Nat.reduceMul, Nat.reduceLeDiff, Nat.reduceLT, Int.reduceNeg, Int.reduceToNat, Int.reduceAdd, Int.reduceSub, Int.reduceMul, Int.reduceLT, Int.reduceLE, Int.reduceEq, rX, dg_cells, dg_fold, List.drop_succ_cons]
      refine bsl_own Hp.sub_refl (by simp [allLen, dg_cells, hr2]) fun o2 s2 q2 => ?_
      simp (dsimp := false) (implicitDefEqProofs := false) (maxSteps := 1000000) (disch := first | omega | assumption | (simp only [rL, Nat.reduceAdd]; done) | (simp only [rL, Nat.reduceAdd]; omega)) only [↓rD, rU, ev, ofConst, ofCell, ↓reduceIte, Nat.reduceEqDiff, Nat.reduceAdd, Nat.reduceSub, Nat.reduceMul, Nat.reduceLeDiff, Nat.reduceLT, Int.reduceNeg, Int.reduceToNat, Int.reduceAdd, Int.reduceSub, Int.reduceMul, Int.reduceLT, Int.reduceLE, Int.reduceEq, rX, dg_cells, dg_fold, List.drop_succ_cons]
      refine app_dig (q1.mono q2.sub) p1 hr2 (by omega) fun o3 s3 q3 => ?_
      simp (dsimp := false) (implicitDefEqProofs := false) (maxSteps := 1000000) (disch := first | omega | assumption | (simp only [rL, Nat.reduceAdd]; done) | (simp only [rL, Nat.reduceAdd]; omega)) only [↓rD, rU, ev, ofConst, ofCell, ↓reduceIte, Nat.reduceEqDiff, Nat.reduceAdd, Nat.reduceSub, Nat.reduceMul, Nat.reduceLeDiff, Nat.reduceLT, Int.reduceNeg, Int.reduceToNat, Int.reduceAdd, Int.reduceSub, Int.reduceMul, Int.reduceLT, Int.reduceLE, Int.reduceEq, rX, dg_cells, dg_fold, List.drop_succ_cons]
      exact ⟨s3, Hp.sub_refl, o3, q3, rfl⟩
    · have hik' : ¬ (m : Int) ≤ (half l.length : Nat) := by omega
      rw [restD_right h3 hik]
      generalize hk : half l.length = k at *
      have ei : (m : Int) - (k : Nat) = ((m - k : Nat) : Int) := by omega
      simp (dsimp := false) (implicitDefEqProofs := false) (maxSteps := 1000000) (disch := first | omega | assumption | (simp only [rL, Nat.reduceAdd]; done) | (simp only [rL, Nat.reduceAdd]; omega)) only [↓rD, rU, ev, ofConst, ofCell, ↓reduceIte, Nat.reduceEqDiff, Nat.reduceAdd, Nat.reduceSub, Nat.reduceMul, Nat.reduceLeDiff, Nat.reduceLT, Int.reduceNeg, Int.reduceToNat, Int.reduceAdd, Int.reduceSub, Int.reduceMul, Int.reduceLT, Int.reduceLE, Int.reduceEq, rX, dg_cells, dg_fold, List.drop_succ_cons, hik', e1, mapd_take, mapd_drop, ei]
      refine call_intro (hhs _) ?_
      rintro _ _ ⟨rfl, rfl⟩
      simp (dsimp := false) (implicitDefEqProofs := false) (maxSteps := 1000000) (disch := first | omega | assumption | (simp only [rL, Nat.reduceAdd]; done) | (simp only [rL, Nat.reduceAdd]; omega)) only [↓rD, rU, ev, ofConst, ofCell, ↓reduceIte, Nat.reduceEqDiff, Nat.reduceAdd, Nat.reduceSub, Nat.reduceMul, Nat.reduceLeDiff, Nat.reduceLT, Int.reduceNeg, Int.reduceToNat, Int.reduceAdd, Int.reduceSub, Int.reduceMul, Int.reduceLT, Int.reduceLE, Int.reduceEq, rX, dg_cells, dg_fold, List.drop_succ_cons, mapd_take, mapd_drop, ei]
      refine call_intro (hhs _) ?_
      rintro _ _ ⟨rfl, rfl⟩
      simp (dsimp := false) (implicitDefEqProofs := false) (maxSteps := 1000000) (disch := first | omega | assumption | (simp only [rL, Nat.reduceAdd]; done) | (simp only [rL, Nat.reduceAdd]; omega)) only [↓rD, rU, ev, ofConst, ofCell, ↓reduceIte, Nat.reduceEqDiff, Nat.reduceAdd, Nat.reduceSub, Nat.reduceMul, Nat.reduceLeDiff, Nat.reduceLT, Int.reduceNeg, Int.reduceToNat, Int.reduceAdd, Int.reduceSub, Int.reduceMul, Int.reduceLT, Int.reduceLE, Int.reduceEq, rX, dg_cells, dg_fold, List.drop_succ_cons, mapd_take, mapd_drop, ei]
      refine call_intro (ih _ (by rw [← hN, List.length_drop]; omega) (l.drop k) (m - k) false .any _ rfl (by rw [List.length_drop]; omega) (by omega) (by rw [List.length_drop]; omega) (hd.drop k)) ?_
      rintro _ s1 ⟨o1, q1, rfl⟩
      simp (dsimp := false) (implicitDefEqProofs := false) (maxSteps := 1000000) (disch := first | omega | assumption | (simp only [rL, Nat.reduceAdd]; done) | (simp only [rL, Nat.reduceAdd]; omega)) only [↓rD, rU, ev, ofConst, ofCell, ↓reduceIte, Nat.reduceEqDiff, Nat.reduceAdd, Nat.reduceSub, Nat.reduceMul, Nat.reduceLeDiff, Nat.reduceLT, Int.reduceNeg, Int.reduceToNat, Int.reduceAdd, Int.reduceSub, Int.reduceMul, Int.reduceLT, Int.reduceLE, Int.reduceEq, rX, dg_cells, dg_fold, List.drop_succ_cons, mapd_take, mapd_drop]
      refine call_intro (hhs _) ?_
      rintro _ _ ⟨rfl, rfl⟩
      simp (dsimp := false) (implicitDefEqProofs := false) (maxSteps := 1000000) (disch := first | omega | assumption | (simp only [rL, Nat.reduceAdd]; done) | (simp only [rL, Nat.reduceAdd]; omega)) only [↓rD, rU, ev, ofConst, ofCell, ↓reduceIte, Nat.reduceEqDiff, Nat.reduceAdd, Nat.reduceSub, Nat.reduceMul, Nat.reduceLeDiff, Nat.reduceLT, Int.reduceNeg, Int.reduceToNat, Int.reduceAdd, Int.reduceSub, Int.reduceMul, Int.reduceLT, Int.reduceLE, Int.reduceEq, rX, dg_cells, dg_fold, List.drop_succ_cons, mapd_take, mapd_drop]
      refine call_intro (root_spec _ (l.take k) .any _ rfl (by rw [List.length_take]; omega) (hd.take k)) ?_
      rintro _ _ ⟨rfl, rfl⟩
      obtain ⟨p1, p2⟩ := restD_ok _ (l.drop k) (m - k) false rfl
      rw [List.length_drop] at p2
      generalize rootD (l.take k) = q at *
      generalize restD (l.drop k) (m - k) false = p at *
      simp (dsimp := false) (implicitDefEqProofs := false) (maxSteps := 1000000) (disch := first | omega | assumption | (simp only [rL, Nat.reduceAdd]; done) | (simp only [rL, Nat.reduceAdd]; omega)) only [↓rD, rU, ev, ofConst, ofCell, ↓reduceIte, Nat.reduceEqDiff, Nat.reduceAdd, Nat.reduceSub, Nat.reduceMul, Nat.reduceLeDiff, Nat.reduceLT, Int.reduceNeg, Int.reduceToNat, Int.reduceAdd, Int.reduceSub, Int.reduceMul, Int.reduceLT, Int.reduceLE, Int.reduceEq, rX, dg_cells, dg_fold, List.drop_succ_cons]
      refine bsl_own Hp.sub_refl (by simp [allLen, dg_cells, hr1]) fun o2 s2 q2 => ?_
      simp (dsimp := false) (implicitDefEqProofs := false) (maxSteps := 1000000) (disch := first | omega | assumption | (simp only [rL, Nat.reduceAdd]; done) | (simp only [rL, Nat.reduceAdd]; omega)) only [↓rD, rU, ev, ofConst, ofCell, ↓reduceIte, Nat.reduceEqDiff, Nat.reduceAdd, Nat.reduceSub, Nat.reduceMul, Nat.reduceLeDiff, Nat.reduceLT, Int.reduceNeg, Int.reduceToNat, Int.reduceAdd, Int.reduceSub, Int.reduceMul, Int.reduceLT, Int.reduceLE, Int.reduceEq, rX, dg_cells, dg_fold, List.drop_succ_cons]
      refine app_dig (q1.mono q2.sub) p1 hr1 (by omega) fun o3 s3 q3 => ?_
      simp (dsimp := false) (implicitDefEqProofs := false) (maxSteps := 1000000) (disch := first | omega | assumption | (simp only [rL, Nat.reduceAdd]; done) | (simp only [rL, Nat.reduceAdd]; omega)) only [↓rD, rU, ev, ofConst, ofCell, ↓reduceIte, Nat.reduceEqDiff, Nat.reduceAdd, Nat.reduceSub, Nat.reduceMul, Nat.reduceLeDiff, Nat.reduceLT, Int.reduceNeg, Int.reduceToNat, Int.reduceAdd, Int.reduceSub, Int.reduceMul, Int.reduceLT, Int.reduceLE, Int.reduceEq, rX, dg_cells, dg_fold, List.drop_succ_cons]
      exact ⟨s3, Hp.sub_refl, o3, q3, rfl⟩

/-- of lists that are as long, at least -/
theorem Growth_spec (l : List (List UInt8)) (m : Nat) (o : Own) (s : Hp) (hle : l.length ≤ 1099511627776) (h1 : 1 ≤ m) (hm' : m ≤ l.length) (hd : Digs l) :
    AC Try.prog 18 [.sl (l.map dg) o, .v (.int .i64 m)] s fun r s' => ∃ o', Owned s s' 32 ((restD l m true).map dg) o' ∧ r = .tup [.sl ((restD l m true).map dg) o', .v (.int .i64 0)] := by
  refine AC_run hm prep18 (by simp) ?_
  have c1 : ¬ (m : Int) < 0 := by omega
  have c2 : ¬ ((l.length : Nat) : Int) < (m : Int) := by omega
  have c3 : ¬ (m : Int) = 0 := by omega
  simp (dsimp := false) (implicitDefEqProofs := false) (maxSteps := 1000000) (disch := first | omega | assumption | (simp only [rL, Nat.reduceAdd]; done) | (simp only [rL, Nat.reduceAdd]; omega)) only [↓rD, rU, ev, ofConst, ofCell, ↓reduceIte, Nat.reduceEqDiff, Nat.reduceAdd, Nat.reduceSub, Nat.reduceMul, Nat.reduceLeDiff, Nat.reduceLT, Int.reduceNeg, Int.reduceToNat, Int.reduceAdd, Int.reduceSub, Int.reduceMul, Int.reduceLT, Int.reduceLE, Int.reduceEq, rX, dg_cells, dg_fold, List.drop_succ_cons, c1, c2, c3]
  refine call_intro (rest_spec _ l m true o _ rfl hle h1 hm' hd) ?_
  rintro _ s1 ⟨o1, q1, rfl⟩
  simp (dsimp := false) (implicitDefEqProofs := false) (maxSteps := 1000000) (disch := first | omega | assumption | (simp only [rL, Nat.reduceAdd]; done) | (simp only [rL, Nat.reduceAdd]; omega)) only [↓rD, rU, ev, ofConst, ofCell, ↓reduceIte, Nat.reduceEqDiff, Nat.reduceAdd, Nat.reduceSub, Nat.reduceMul, Nat.reduceLeDiff, Nat.reduceLT, Int.reduceNeg, Int.reduceToNat, Int.reduceAdd, Int.reduceSub, Int.reduceMul, Int.reduceLT, Int.reduceLE, Int.reduceEq, rX, dg_cells, dg_fold, List.drop_succ_cons]
  exact ⟨s1, Hp.sub_refl, o1, q1, rfl⟩
end Go.Proofs.Ytapjikladjoicaa
set_option maxRecDepth 100000
set_option maxHeartbeats 1000000
namespace Go.Proofs.Ytapjikladjoicaa
open Go Go.Av

structure BF where
  x : List UInt8
  y : List UInt8
  ds : List (List UInt8)
  ts : List (List UInt8)
  lk : Bool

def bothF (a : List UInt8) (m n : Nat) (own : Bool) (ds : List (List UInt8)) : BF :=
  if h : m = n ∧ own = true then ⟨a, a, ds, [], false⟩
  else if h2 : (takeF ds false).2.2 = true ∨ m = n ∨ n < 2 then ⟨(takeF ds false).1, (takeF ds false).1, (takeF ds false).2.1, [], (takeF ds false).2.2⟩
  else if m ≤ half n then
    let u := bothF a m (half n) own (takeF ds false).2.1
    ⟨u.x, sha256 (nodeB u.y (takeF ds false).1), u.ds, u.ts ++ [nodeB u.y (takeF ds false).1], u.lk⟩
  else
    let u := bothF a (m - half n) (n - half n) false (takeF ds false).2.1
    ⟨sha256 (nodeB (takeF ds false).1 u.x), sha256 (nodeB (takeF ds false).1 u.y), u.ds, u.ts ++ [nodeB (takeF ds false).1 u.x, nodeB (takeF ds false).1 u.y], u.lk⟩
termination_by n
decreasing_by
  · exact half_lt n (by omega)
  · have := half_pos n; omega

theorem bothF_own {a : List UInt8} {n : Nat} {ds : List (List UInt8)} : bothF a n n true ds = ⟨a, a, ds, [], false⟩ := by rw [bothF, dif_pos ⟨rfl, rfl⟩]
theorem bothF_end {a : List UInt8} {m n : Nat} {own : Bool} {ds d1 : List (List UInt8)} {other : List UInt8} {lk : Bool} (h : ¬ (m = n ∧ own = true)) (ht : takeF ds false = (other, d1, lk)) (h2 : lk = true ∨ m = n) : bothF a m n own ds = ⟨other, other, d1, [], lk⟩ := by
  rw [bothF, dif_neg h, ht, dif_pos (by rcases h2 with h2 | h2; exact .inl h2; exact .inr (.inl h2))]
theorem bothF_left {a : List UInt8} {m n : Nat} {own : Bool} {ds d1 : List (List UInt8)} {other : List UInt8} (h : m ≠ n) (hn : 2 ≤ n) (ht : takeF ds false = (other, d1, false)) (hk : m ≤ half n) :
    bothF a m n own ds = ⟨(bothF a m (half n) own d1).x, sha256 (nodeB (bothF a m (half n) own d1).y other), (bothF a m (half n) own d1).ds, (bothF a m (half n) own d1).ts ++ [nodeB (bothF a m (half n) own d1).y other], (bothF a m (half n) own d1).lk⟩ := by
  conv => lhs; rw [bothF, dif_neg (fun hh => h hh.1), ht, dif_neg (by simp; omega), if_pos hk]
theorem bothF_right {a : List UInt8} {m n : Nat} {own : Bool} {ds d1 : List (List UInt8)} {other : List UInt8} (h : m ≠ n) (hn : 2 ≤ n) (ht : takeF ds false = (other, d1, false)) (hk : ¬ m ≤ half n) :
    bothF a m n own ds = ⟨sha256 (nodeB other (bothF a (m - half n) (n - half n) false d1).x), sha256 (nodeB other (bothF a (m - half n) (n - half n) false d1).y), (bothF a (m - half n) (n - half n) false d1).ds,
      (bothF a (m - half n) (n - half n) false d1).ts ++ [nodeB other (bothF a (m - half n) (n - half n) false d1).x, nodeB other (bothF a (m - half n) (n - half n) false d1).y], (bothF a (m - half n) (n - half n) false d1).lk⟩ := by
  conv => lhs; rw [bothF, dif_neg (fun hh => h hh.1), ht, dif_neg (by simp; omega), if_neg hk]

theorem bothF_ok : ∀ (N : Nat) (a : List UInt8) (m n : Nat) (own : Bool) (ds : List (List UInt8)), n = N → 1 ≤ m → m ≤ n → a.length = 32 → Digs ds →
    (bothF a m n own ds).x.length = 32 ∧ (bothF a m n own ds).y.length = 32 ∧ Digs (bothF a m n own ds).ds ∧ (bothF a m n own ds).ds.length ≤ ds.length ∧ (bothF a m n own ds).ts.length + 2 * (bothF a m n own ds).ds.length ≤ 2 * ds.length := by
  intro N
  induction N using Nat.strongRecOn with
  | _ N ih =>
  intro a m n own ds hN h1 hmn ha hd
  obtain ⟨t1, t2, t3, t4⟩ := takeF_digs (lk := false) hd
  by_cases h : m = n ∧ own = true
  · obtain ⟨rfl, rfl⟩ := h
    rw [bothF_own]; exact ⟨ha, ha, hd, Nat.le_refl _, by simp⟩
  · generalize htk : takeF ds false = tk at *
    obtain ⟨other, d1, lk⟩ := tk
    simp only at t1 t2 t3 t4
    by_cases h2 : lk = true ∨ m = n
    · rw [bothF_end h htk h2]
      exact ⟨t1, t1, t2, t3, by simp; omega⟩
    · have hlk : lk = false := by cases lk <;> simp_all
      subst hlk
      have hmn' : m ≠ n := by omega
      have t5 := t4 rfl
      have hlt := half_lt n (by omega)
      have hpos := half_pos n
      by_cases hk : m ≤ half n
      · rw [bothF_left hmn' (by omega) htk hk]
        obtain ⟨u1, u2, u3, u4, u5⟩ := ih (half n) (by omega) a m (half n) own d1 rfl h1 hk ha t2
        exact ⟨u1, sha256_length _, u3, by simp only; omega, by simp only [List.length_append, List.length_cons, List.length_nil]; omega⟩
      · rw [bothF_right hmn' (by omega) htk hk]
        obtain ⟨u1, u2, u3, u4, u5⟩ := ih (n - half n) (by omega) a (m - half n) (n - half n) false d1 rfl (by omega) (by omega) ha t2
        exact ⟨sha256_length _, sha256_length _, u3, by simp only; omega, by simp only [List.length_append, List.length_cons, List.length_nil]; omega⟩

theorem both_spec : ∀ (N : Nat) (a : List UInt8) (m n : Nat) (own : Bool) (ds ts : List (List UInt8)) (s0 s : Hp) (l : Nat), n = N → 1 ≤ m → m ≤ n → n ≤ 1099511627776 → a.length = 32 → Digs ds → ts.length + 2 * ds.length ≤ 900000 → PS s0 l ds ts false s →
    AC Try.prog 35 [.ptr l 0, dg a, .v (.int .i64 m), .v (.int .i64 n), .v (.bool own)] s fun r s' => r = .tup [dg (bothF a m n own ds).x, dg (bothF a m n own ds).y] ∧ PS s0 l (bothF a m n own ds).ds (ts ++ (bothF a m n own ds).ts) (bothF a m n own ds).lk s' := by
  intro N
  induction N using Nat.strongRecOn with
  | _ N ih =>
  intro a m n own ds ts s0 s l hN h1 hmn hn ha hd hts h
  refine AC_run hm prep35 (by simp) ?_
  simp (dsimp := false) (implicitDefEqProofs := false) (maxSteps := 1000000) (disch := first | omega | assumption | (simp only [rL, Nat.reduceAdd]; done) | (simp only [rL, Nat.reduceAdd]; omega)) only [↓rD, rU, ev, ofConst, ofCell, ↓reduceIte, Nat.reduceEqDiff, Nat.reduceAdd, Nat.reduceSub, Nat.reduceMul, Nat.reduceLeDiff, Nat.reduceLT, Int.reduceNeg, Int.reduceToNat, Int.reduceAdd, Int.reduceSub, Int.reduceMul, Int.reduceLT, Int.reduceLE, Int.reduceEq, rX, dg_cells, dg_fold, List.drop_succ_cons, ha]
  refine newK_intro fun l6 n6 => ?_
  obtain ⟨d6, e6, h⟩ := h.new (ob := dc a) n6
  simp (dsimp := false) (implicitDefEqProofs := false) (maxSteps := 1000000) (disch := first | omega | assumption | (simp only [rL, Nat.reduceAdd]; done) | (simp only [rL, Nat.reduceAdd]; omega)) only [↓rD, rU, ev, ofConst, ofCell, ↓reduceIte, Nat.reduceEqDiff, Nat.reduceAdd, Nat.reduceSub, Nat.reduceMul, Nat.reduceLeDiff, Nat.reduceLT, Int.reduceNeg, Int.reduceToNat, Int.reduceAdd, Int.reduceSub, Int.reduceMul, Int.reduceLT, Int.reduceLE, Int.reduceEq, rX, dg_cells, dg_fold, List.drop_succ_cons, ha]
  refine newK_intro fun l10 n10 => ?_
  obtain ⟨d106, _⟩ := Hp.set_none n10
  obtain ⟨d10, e10, h⟩ := h.new (ob := zc) n10
  simp (dsimp := false) (implicitDefEqProofs := false) (maxSteps := 1000000) (disch := first | omega | assumption | (simp only [rL, Nat.reduceAdd]; done) | (simp only [rL, Nat.reduceAdd]; omega)) only [↓rD, rU, ev, ofConst, ofCell, ↓reduceIte, Nat.reduceEqDiff, Nat.reduceAdd, Nat.reduceSub, Nat.reduceMul, Nat.reduceLeDiff, Nat.reduceLT, Int.reduceNeg, Int.reduceToNat, Int.reduceAdd, Int.reduceSub, Int.reduceMul, Int.reduceLT, Int.reduceLE, Int.reduceEq, rX, dg_cells, dg_fold, List.drop_succ_cons]
  refine newK_intro fun l11 n11 => ?_
  obtain ⟨d1110, n11'⟩ := Hp.set_none n11
  obtain ⟨d116, _⟩ := Hp.set_none n11'
  obtain ⟨d11, e11, h⟩ := h.new (ob := zc) n11
  have hbase : s0.sub (((s0.set l6 (dc a)).set l10 zc).set l11 zc) := Hp.sub_new (Hp.sub_new (Hp.sub_new Hp.sub_refl e6) (Hp.set_none e10).2) (Hp.set_none (Hp.set_none e11).2).2
  have e10' := (Hp.set_none e10).2
  have e11' := (Hp.set_none (Hp.set_none e11).2).2
  simp (dsimp := false) (implicitDefEqProofs := false) (maxSteps := 1000000) (disch := first | omega | assumption | (simp only [rL, Nat.reduceAdd]; done) | (simp only [rL, Nat.reduceAdd]; omega)) only [↓rD, rU, ev, ofConst, ofCell, ↓reduceIte, Nat.reduceEqDiff, Nat.reduceAdd, Nat.reduceSub, Nat.reduceMul, Nat.reduceLeDiff, Nat.reduceLT, Int.reduceNeg, Int.reduceToNat, Int.reduceAdd, Int.reduceSub, Int.reduceMul, Int.reduceLT, Int.reduceLE, Int.reduceEq, rX, dg_cells, dg_fold, List.drop_succ_cons]
  by_cases hown : m = n ∧ own = true
  · obtain ⟨rfl, rfl⟩ := hown
    simp (dsimp := false) (implicitDefEqProofs := false) (maxSteps := 1000000) (disch := first | omega | assumption | (simp only [rL, Nat.reduceAdd]; done) | (simp only [rL, Nat.reduceAdd]; omega)) only [↓rD, rU, ev, ofConst, ofCell, ↓reduceIte, Nat.reduceEqDiff, Nat.reduceAdd, Nat.reduceSub, Nat.reduceMul, Nat.reduceLeDiff, Nat.reduceLT, Int.reduceNeg, Int.reduceToNat, Int.reduceAdd, Int.reduceSub, Int.reduceMul, Int.reduceLT, Int.reduceLE, Int.reduceEq, rX, dg_cells, dg_fold, List.drop_succ_cons, d106, d116, d1110, Ne.symm d106, Ne.symm d116, Ne.symm d1110, ha]
    have h9 := (h.set (l2 := l10) (ob := dc a) (ob' := zc) d10 (by rw [Hp.set_ne _ _ (Ne.symm d1110)]; exact Hp.set_same _ _ _)).set (l2 := l11) (ob := dc a) (ob' := zc) d11 (by rw [Hp.set_ne _ _ d1110]; exact Hp.set_same _ _ _)
    simp only [Hp.set_in1 d1110, Hp.set_set] at h9
    refine ⟨_, Hp.sub_refl, ?_⟩
    rw [bothF_own]
    refine ⟨rfl, ?_⟩
    simp only [List.append_nil]
    exact h9.base (Hp.sub_new (Hp.sub_new (Hp.sub_new Hp.sub_refl e6) e10') e11')
  · obtain ⟨t1, t2, t3, t4⟩ := takeF_digs (lk := false) hd
    have htake := take_spec _ _ l ds ts false hd (by omega) h
    generalize htk : takeF ds false = tk at *
    obtain ⟨other, ds1, lk1⟩ := tk
    simp only at t1 t2 t3 t4 htake
    -- where the sum that was taken is told twice
    have fin : ∀ (s1 : Hp) (l12 : Nat) (lk : Bool), PS (((s0.set l6 (dc a)).set l10 zc).set l11 zc) l ds1 ts lk s1 → s1 l12 = none → bothF a m n own ds = ⟨other, other, ds1, [], lk⟩ →
        s1 l10 = some zc ∧ s1 l11 = some zc ∧ l12 ≠ l10 ∧ l12 ≠ l11 ∧ PS s0 l (bothF a m n own ds).ds (ts ++ (bothF a m n own ds).ts) (bothF a m n own ds).lk (((s1.set l12 (dc other)).set l10 (dc other)).set l11 (dc other)) := by
      intro s1 l12 lk h n12 hb
      have g10 : s1 l10 = some zc := h.get d10 (by rw [Hp.set_ne _ _ (Ne.symm d1110)]; exact Hp.set_same _ _ _)
      have g11 : s1 l11 = some zc := h.get d11 (Hp.set_same _ _ _)
      have d1210 : l12 ≠ l10 := by rintro rfl; rw [n12] at g10; cases g10
      have d1211 : l12 ≠ l11 := by rintro rfl; rw [n12] at g11; cases g11
      obtain ⟨d12, e12, h⟩ := h.new (ob := dc other) n12
      have e12' := (Hp.set_none (Hp.set_none (Hp.set_none e12).2).2).2
      have h9 := (h.set (l2 := l10) (ob := dc other) (ob' := zc) d10 (by rw [Hp.set_ne _ _ (Ne.symm d1210), Hp.set_ne _ _ (Ne.symm d1110)]; exact Hp.set_same _ _ _)).set (l2 := l11) (ob := dc other) (ob' := zc) d11 (by rw [Hp.set_ne _ _ d1110, Hp.set_ne _ _ (Ne.symm d1211)]; exact Hp.set_same _ _ _)
      rw [hb]
      simp only [List.append_nil]
      exact ⟨g10, g11, d1210, d1211, h9.base (Hp.sub_new (Hp.sub_new (Hp.sub_new hbase e12') e10') e11')⟩
    by_cases hmn2 : m = n
    · have hof : own = false := by cases own <;> simp_all
      subst hof
      subst hmn2
      simp (dsimp := false) (implicitDefEqProofs := false) (maxSteps := 1000000) (disch := first | omega | assumption | (simp only [rL, Nat.reduceAdd]; done) | (simp only [rL, Nat.reduceAdd]; omega)) only [↓rD, rU, ev, ofConst, ofCell, ↓reduceIte, Nat.reduceEqDiff, Nat.reduceAdd, Nat.reduceSub, Nat.reduceMul, Nat.reduceLeDiff, Nat.reduceLT, Int.reduceNeg, Int.reduceToNat, Int.reduceAdd, Int.reduceSub, Int.reduceMul, Int.reduceLT, Int.reduceLE, Int.reduceEq, rX, dg_cells, dg_fold, List.drop_succ_cons]
      refine call_intro htake ?_
      rintro _ s1 ⟨rfl, h⟩
      simp (dsimp := false) (implicitDefEqProofs := false) (maxSteps := 1000000) (disch := first | omega | assumption | (simp only [rL, Nat.reduceAdd]; done) | (simp only [rL, Nat.reduceAdd]; omega)) only [↓rD, rU, ev, ofConst, ofCell, ↓reduceIte, Nat.reduceEqDiff, Nat.reduceAdd, Nat.reduceSub, Nat.reduceMul, Nat.reduceLeDiff, Nat.reduceLT, Int.reduceNeg, Int.reduceToNat, Int.reduceAdd, Int.reduceSub, Int.reduceMul, Int.reduceLT, Int.reduceLE, Int.reduceEq, rX, dg_cells, dg_fold, List.drop_succ_cons, t1]
      refine newK_intro fun l12 n12 => ?_
      obtain ⟨g10, g11, d1210, d1211, hfin⟩ := fin s1 l12 lk1 h n12 (bothF_end hown htk (.inr rfl))
      obtain ⟨ra, rb, hr⟩ := h.read
      have d12 : l12 ≠ l := (h.new (ob := zc) n12).1
      unfold zc at g10 g11
      cases lk1
      · simp (dsimp := false) (implicitDefEqProofs := false) (maxSteps := 1000000) (disch := first | omega | assumption | (simp only [rL, Nat.reduceAdd]; done) | (simp only [rL, Nat.reduceAdd]; omega)) only [↓rD, rU, ev, ofConst, ofCell, ↓reduceIte, Nat.reduceEqDiff, Nat.reduceAdd, Nat.reduceSub, Nat.reduceMul, Nat.reduceLeDiff, Nat.reduceLT, Int.reduceNeg, Int.reduceToNat, Int.reduceAdd, Int.reduceSub, Int.reduceMul, Int.reduceLT, Int.reduceLE, Int.reduceEq, rX, dg_cells, dg_fold, List.drop_succ_cons, t1, Ne.symm d12, hr, Hp.stA_of g10, Hp.stA_of g11, Ne.symm d1210, Ne.symm d1211, d1210, d1211, d1110, Ne.symm d1110]
        exact ⟨_, Hp.sub_refl, by rw [bothF_end hown htk (.inr rfl)], hfin⟩
      · simp (dsimp := false) (implicitDefEqProofs := false) (maxSteps := 1000000) (disch := first | omega | assumption | (simp only [rL, Nat.reduceAdd]; done) | (simp only [rL, Nat.reduceAdd]; omega)) only [↓rD, rU, ev, ofConst, ofCell, ↓reduceIte, Nat.reduceEqDiff, Nat.reduceAdd, Nat.reduceSub, Nat.reduceMul, Nat.reduceLeDiff, Nat.reduceLT, Int.reduceNeg, Int.reduceToNat, Int.reduceAdd, Int.reduceSub, Int.reduceMul, Int.reduceLT, Int.reduceLE, Int.reduceEq, rX, dg_cells, dg_fold, List.drop_succ_cons, t1, Ne.symm d12, hr, Hp.stA_of g10, Hp.stA_of g11, Ne.symm d1210, Ne.symm d1211, d1210, d1211, d1110, Ne.symm d1110]
        exact ⟨_, Hp.sub_refl, by rw [bothF_end hown htk (.inr rfl)], hfin⟩
    · have hmn3 : ¬ (m : Int) = (n : Nat) := by omega
      simp (dsimp := false) (implicitDefEqProofs := false) (maxSteps := 1000000) (disch := first | omega | assumption | (simp only [rL, Nat.reduceAdd]; done) | (simp only [rL, Nat.reduceAdd]; omega)) only [↓rD, rU, ev, ofConst, ofCell, ↓reduceIte, Nat.reduceEqDiff, Nat.reduceAdd, Nat.reduceSub, Nat.reduceMul, Nat.reduceLeDiff, Nat.reduceLT, Int.reduceNeg, Int.reduceToNat, Int.reduceAdd, Int.reduceSub, Int.reduceMul, Int.reduceLT, Int.reduceLE, Int.reduceEq, rX, dg_cells, dg_fold, List.drop_succ_cons, hmn3]
      refine call_intro htake ?_
      rintro _ s1 ⟨rfl, h⟩
      simp (dsimp := false) (implicitDefEqProofs := false) (maxSteps := 1000000) (disch := first | omega | assumption | (simp only [rL, Nat.reduceAdd]; done) | (simp only [rL, Nat.reduceAdd]; omega)) only [↓rD, rU, ev, ofConst, ofCell, ↓reduceIte, Nat.reduceEqDiff, Nat.reduceAdd, Nat.reduceSub, Nat.reduceMul, Nat.reduceLeDiff, Nat.reduceLT, Int.reduceNeg, Int.reduceToNat, Int.reduceAdd, Int.reduceSub, Int.reduceMul, Int.reduceLT, Int.reduceLE, Int.reduceEq, rX, dg_cells, dg_fold, List.drop_succ_cons, t1]
      refine newK_intro fun l12 n12 => ?_
      obtain ⟨ra, rb, hr⟩ := h.read
      have d12 : l12 ≠ l := (h.new (ob := zc) n12).1
      cases lk1
      · simp (dsimp := false) (implicitDefEqProofs := false) (maxSteps := 1000000) (disch := first | omega | assumption | (simp only [rL, Nat.reduceAdd]; done) | (simp only [rL, Nat.reduceAdd]; omega)) only [↓rD, rU, ev, ofConst, ofCell, ↓reduceIte, Nat.reduceEqDiff, Nat.reduceAdd, Nat.reduceSub, Nat.reduceMul, Nat.reduceLeDiff, Nat.reduceLT, Int.reduceNeg, Int.reduceToNat, Int.reduceAdd, Int.reduceSub, Int.reduceMul, Int.reduceLT, Int.reduceLE, Int.reduceEq, rX, dg_cells, dg_fold, List.drop_succ_cons, t1, Ne.symm d12, hr, hmn3]
        refine call_intro (half_spec n (by omega) (by omega) _) ?_
        rintro _ _ ⟨rfl, rfl⟩
        have hlt := half_lt n (by omega)
        have hpos := half_pos n
        have t5 := t4 rfl
        have g6 : s1 l6 = some (dc a) := h.get d6 (by rw [Hp.set_ne _ _ (Ne.symm d116), Hp.set_ne _ _ (Ne.symm d106)]; exact Hp.set_same _ _ _)
        have d126 : l12 ≠ l6 := by rintro rfl; rw [n12] at g6; cases g6
        have g10 : s1 l10 = some zc := h.get d10 (by rw [Hp.set_ne _ _ (Ne.symm d1110)]; exact Hp.set_same _ _ _)
        have g11 : s1 l11 = some zc := h.get d11 (Hp.set_same _ _ _)
        have d1210 : l12 ≠ l10 := by rintro rfl; rw [n12] at g10; cases g10
        have d1211 : l12 ≠ l11 := by rintro rfl; rw [n12] at g11; cases g11
        obtain ⟨_, e12, h⟩ := h.new (ob := dc other) n12
        have e12' := (Hp.set_none (Hp.set_none (Hp.set_none e12).2).2).2
        have hb2 : s0.sub ((((s0.set l6 (dc a)).set l10 zc).set l11 zc).set l12 (dc other)) := Hp.sub_new hbase e12'
        unfold dc at g6
        by_cases hk : m ≤ half n
        · have hk' : (m : Int) ≤ (half n : Nat) := by omega
          simp (dsimp := false) (implicitDefEqProofs := false) (maxSteps := 1000000) (disch := first | omega | assumption | (simp only [rL, Nat.reduceAdd]; done) | (simp only [rL, Nat.reduceAdd]; omega)) only [↓rD, rU, ev, ofConst, ofCell, ↓reduceIte, Nat.reduceEqDiff, Nat.reduceAdd, Nat.reduceSub, Nat.reduceMul, Nat.reduceLeDiff, Nat.reduceLT, Int.reduceNeg, Int.reduceToNat, Int.reduceAdd, Int.reduceSub, Int.reduceMul, Int.reduceLT, Int.reduceLE, Int.reduceEq, rX, dg_cells, dg_fold, List.drop_succ_cons, hk', Hp.read_of g6, Ne.symm d126, ha]
          obtain ⟨u1, u2, u3, u4, u5⟩ := bothF_ok _ a m (half n) own ds1 rfl h1 hk ha t2
          refine call_intro (ih (half n) (by omega) a m (half n) own ds1 ts _ _ l rfl h1 hk (by omega) ha t2 (by omega) h) ?_
          rintro _ s2 ⟨rfl, h⟩
          have hu := bothF_left (a := a) (own := own) hmn2 (by omega) htk hk
          generalize bothF a m (half n) own ds1 = u at *
          obtain ⟨ux, uy, ud, ut, ul⟩ := u
          simp only at u1 u2 u3 u4 u5 h hu ⊢
          simp (dsimp := false) (implicitDefEqProofs := false) (maxSteps := 1000000) (disch := first | omega | assumption | (simp only [rL, Nat.reduceAdd]; done) | (simp only [rL, Nat.reduceAdd]; omega)) only [↓rD, rU, ev, ofConst, ofCell, ↓reduceIte, Nat.reduceEqDiff, Nat.reduceAdd, Nat.reduceSub, Nat.reduceMul, Nat.reduceLeDiff, Nat.reduceLT, Int.reduceNeg, Int.reduceToNat, Int.reduceAdd, Int.reduceSub, Int.reduceMul, Int.reduceLT, Int.reduceLE, Int.reduceEq, rX, dg_cells, dg_fold, List.drop_succ_cons, List.getElem?_cons_zero, List.getElem?_cons_succ]
          refine newK_intro fun lA nA => ?_
          have g10 : s2 l10 = some zc := h.get d10 (by rw [Hp.set_ne _ _ (Ne.symm d1210), Hp.set_ne _ _ (Ne.symm d1110)]; exact Hp.set_same _ _ _)
          have g11 : s2 l11 = some zc := h.get d11 (by rw [Hp.set_ne _ _ (Ne.symm d1211)]; exact Hp.set_same _ _ _)
          have g12 : s2 l12 = some (dc other) := h.get d12 (Hp.set_same _ _ _)
          have dA10 : lA ≠ l10 := by rintro rfl; rw [nA] at g10; cases g10
          have dA11 : lA ≠ l11 := by rintro rfl; rw [nA] at g11; cases g11
          have dA12 : lA ≠ l12 := by rintro rfl; rw [nA] at g12; cases g12
          obtain ⟨dA, eA, h⟩ := h.new (ob := dc ux) nA
          have eA' := Hp.sub_none hb2 eA
          simp (dsimp := false) (implicitDefEqProofs := false) (maxSteps := 1000000) (disch := first | omega | assumption | (simp only [rL, Nat.reduceAdd]; done) | (simp only [rL, Nat.reduceAdd]; omega)) only [↓rD, rU, ev, ofConst, ofCell, ↓reduceIte, Nat.reduceEqDiff, Nat.reduceAdd, Nat.reduceSub, Nat.reduceMul, Nat.reduceLeDiff, Nat.reduceLT, Int.reduceNeg, Int.reduceToNat, Int.reduceAdd, Int.reduceSub, Int.reduceMul, Int.reduceLT, Int.reduceLE, Int.reduceEq, rX, dg_cells, dg_fold, List.drop_succ_cons, u1, u2]
          refine newK_intro fun lB nB => ?_
          obtain ⟨dBA, nB'⟩ := Hp.set_none nB
          have dB10 : lB ≠ l10 := by rintro rfl; rw [nB'] at g10; cases g10
          have dB11 : lB ≠ l11 := by rintro rfl; rw [nB'] at g11; cases g11
          have dB12 : lB ≠ l12 := by rintro rfl; rw [nB'] at g12; cases g12
          have nB'' : (s2.set lA (dc ux)) lB = none := by rw [Hp.set_ne _ _ dBA]; exact nB'
          obtain ⟨dB, eB, h⟩ := h.new (ob := dc uy) nB''
          have eB' := Hp.sub_none hb2 (Hp.set_none eB).2
          have hb3 : s0.sub ((((((s0.set l6 (dc a)).set l10 zc).set l11 zc).set l12 (dc other)).set lA (dc ux)).set lB (dc uy)) := Hp.sub_new (Hp.sub_new hb2 eA') eB'
          unfold dc at g12
          simp (dsimp := false) (implicitDefEqProofs := false) (maxSteps := 1000000) (disch := first | omega | assumption | (simp only [rL, Nat.reduceAdd]; done) | (simp only [rL, Nat.reduceAdd]; omega)) only [↓rD, rU, ev, ofConst, ofCell, ↓reduceIte, Nat.reduceEqDiff, Nat.reduceAdd, Nat.reduceSub, Nat.reduceMul, Nat.reduceLeDiff, Nat.reduceLT, Int.reduceNeg, Int.reduceToNat, Int.reduceAdd, Int.reduceSub, Int.reduceMul, Int.reduceLT, Int.reduceLE, Int.reduceEq, rX, dg_cells, dg_fold, List.drop_succ_cons, u1, u2, dBA, Ne.symm dBA, Hp.read_of g12, Ne.symm dA12, Ne.symm dB12, t1]
          refine call_intro (node_spec uy other u2 t1 _) ?_
          rintro _ s3 ⟨o3, k3, rfl⟩
          obtain ⟨od, ot, tso, q1, q2⟩ := h
          have h : PS ((((((s0.set l6 (dc a)).set l10 zc).set l11 zc).set l12 (dc other)).set lA (dc ux)).set lB (dc uy)) l ud (ts ++ ut) ul s3 := ⟨od, ot, tso, q1, q2.mono k3.sub⟩
          have gA : s3 lA = some (dc ux) := h.get dA (by rw [Hp.set_ne _ _ (Ne.symm dBA)]; exact Hp.set_same _ _ _)
          unfold dc at gA
          simp (dsimp := false) (implicitDefEqProofs := false) (maxSteps := 1000000) (disch := first | omega | assumption | (simp only [rL, Nat.reduceAdd]; done) | (simp only [rL, Nat.reduceAdd]; omega)) only [↓rD, rU, ev, ofConst, ofCell, ↓reduceIte, Nat.reduceEqDiff, Nat.reduceAdd, Nat.reduceSub, Nat.reduceMul, Nat.reduceLeDiff, Nat.reduceLT, Int.reduceNeg, Int.reduceToNat, Int.reduceAdd, Int.reduceSub, Int.reduceMul, Int.reduceLT, Int.reduceLE, Int.reduceEq, rX, dg_cells, dg_fold, List.drop_succ_cons, u1, u2, Hp.read_of gA]
          refine call_intro (phash_spec _ s3 l ud (ts ++ ut) ul h (nodeB uy other) o3 (by rw [nodeB_length uy other u2 t1]; omega) (by simp only [List.length_append]; omega)) ?_
          rintro _ s4 ⟨rfl, h⟩
          have gA : s4 lA = some (dc ux) := h.get dA (by rw [Hp.set_ne _ _ (Ne.symm dBA)]; exact Hp.set_same _ _ _)
          have b10 : ((((((s0.set l6 (dc a)).set l10 zc).set l11 zc).set l12 (dc other)).set lA (dc ux)).set lB (dc uy)) l10 = some zc := by
            rw [Hp.set_ne _ _ (Ne.symm dB10), Hp.set_ne _ _ (Ne.symm dA10), Hp.set_ne _ _ (Ne.symm d1210), Hp.set_ne _ _ (Ne.symm d1110)]; exact Hp.set_same _ _ _
          have b11 : ((((((s0.set l6 (dc a)).set l10 zc).set l11 zc).set l12 (dc other)).set lA (dc ux)).set lB (dc uy)) l11 = some zc := by
            rw [Hp.set_ne _ _ (Ne.symm dB11), Hp.set_ne _ _ (Ne.symm dA11), Hp.set_ne _ _ (Ne.symm d1211)]; exact Hp.set_same _ _ _
          have g10 : s4 l10 = some zc := h.get d10 b10
          have g11 : s4 l11 = some zc := h.get d11 b11
          have hq := sha256_length (nodeB uy other)
          generalize hge : sha256 (nodeB uy other) = e at *
          unfold zc at g10 g11
          unfold dc at gA
          simp (dsimp := false) (implicitDefEqProofs := false) (maxSteps := 1000000) (disch := first | omega | assumption | (simp only [rL, Nat.reduceAdd]; done) | (simp only [rL, Nat.reduceAdd]; omega)) only [↓rD, rU, ev, ofConst, ofCell, ↓reduceIte, Nat.reduceEqDiff, Nat.reduceAdd, Nat.reduceSub, Nat.reduceMul, Nat.reduceLeDiff, Nat.reduceLT, Int.reduceNeg, Int.reduceToNat, Int.reduceAdd, Int.reduceSub, Int.reduceMul, Int.reduceLT, Int.reduceLE, Int.reduceEq, rX, dg_cells, dg_fold, List.drop_succ_cons, u1, u2, Hp.read_of gA, Hp.stA_of g10, Hp.stA_of g11, d1110, Ne.symm d1110, hq, Hp.read_of g10, Hp.read_of g11]
          have h9 := (h.set (l2 := l10) (ob := dc ux) (ob' := zc) d10 b10).set (l2 := l11) (ob := dc e) (ob' := zc) d11 (by rw [Hp.set_ne _ _ d1110]; exact b11)
          rw [List.append_assoc] at h9
          refine ⟨_, Hp.sub_refl, ?_⟩
          rw [hu]
          exact ⟨rfl, h9.base (Hp.sub_new (Hp.sub_new hb3 e10') e11')⟩
        · have hk' : ¬ (m : Int) ≤ (half n : Nat) := by omega
          have em : (m : Int) - (half n : Nat) = ((m - half n : Nat) : Int) := by omega
          have en : (n : Int) - (half n : Nat) = ((n - half n : Nat) : Int) := by omega
          simp (dsimp := false) (implicitDefEqProofs := false) (maxSteps := 1000000) (disch := first | omega | assumption | (simp only [rL, Nat.reduceAdd]; done) | (simp only [rL, Nat.reduceAdd]; omega)) only [↓rD, rU, ev, ofConst, ofCell, ↓reduceIte, Nat.reduceEqDiff, Nat.reduceAdd, Nat.reduceSub, Nat.reduceMul, Nat.reduceLeDiff, Nat.reduceLT, Int.reduceNeg, Int.reduceToNat, Int.reduceAdd, Int.reduceSub, Int.reduceMul, Int.reduceLT, Int.reduceLE, Int.reduceEq, rX, dg_cells, dg_fold, List.drop_succ_cons, hk', Hp.read_of g6, Ne.symm d126, ha, em, en]
          obtain ⟨u1, u2, u3, u4, u5⟩ := bothF_ok _ a (m - half n) (n - half n) false ds1 rfl (by omega) (by omega) ha t2
          refine call_intro (ih (n - half n) (by omega) a (m - half n) (n - half n) false ds1 ts _ _ l rfl (by omega) (by omega) (by omega) ha t2 (by omega) h) ?_
          rintro _ s2 ⟨rfl, h⟩
          have hu := bothF_right (a := a) (own := own) hmn2 (by omega) htk hk
          generalize bothF a (m - half n) (n - half n) false ds1 = u at *
          obtain ⟨ux, uy, ud, ut, ul⟩ := u
          simp only at u1 u2 u3 u4 u5 h hu ⊢
          simp (dsimp := false) (implicitDefEqProofs := false) (maxSteps := 1000000) (disch := first | omega | assumption | (simp only [rL, Nat.reduceAdd]; done) | (simp only [rL, Nat.reduceAdd]; omega)) only [↓rD, rU, ev, ofConst, ofCell, ↓reduceIte, Nat.reduceEqDiff, Nat.reduceAdd, Nat.reduceSub, Nat.reduceMul, Nat.reduceLeDiff, Nat.reduceLT, Int.reduceNeg, Int.reduceToNat, Int.reduceAdd, Int.reduceSub, Int.reduceMul, Int.reduceLT, Int.reduceLE, Int.reduceEq, rX, dg_cells, dg_fold, List.drop_succ_cons, List.getElem?_cons_zero, List.getElem?_cons_succ]
          refine newK_intro fun lA nA => ?_
          have g10 : s2 l10 = some zc := h.get d10 (by rw [Hp.set_ne _ _ (Ne.symm d1210), Hp.set_ne _ _ (Ne.symm d1110)]; exact Hp.set_same _ _ _)
          have g11 : s2 l11 = some zc := h.get d11 (by rw [Hp.set_ne _ _ (Ne.symm d1211)]; exact Hp.set_same _ _ _)
          have g12 : s2 l12 = some (dc other) := h.get d12 (Hp.set_same _ _ _)
          have dA10 : lA ≠ l10 := by rintro rfl; rw [nA] at g10; cases g10
          have dA11 : lA ≠ l11 := by rintro rfl; rw [nA] at g11; cases g11
          have dA12 : lA ≠ l12 := by rintro rfl; rw [nA] at g12; cases g12
          obtain ⟨dA, eA, h⟩ := h.new (ob := dc ux) nA
          have eA' := Hp.sub_none hb2 eA
          simp (dsimp := false) (implicitDefEqProofs := false) (maxSteps := 1000000) (disch := first | omega | assumption | (simp only [rL, Nat.reduceAdd]; done) | (simp only [rL, Nat.reduceAdd]; omega)) only [↓rD, rU, ev, ofConst, ofCell, ↓reduceIte, Nat.reduceEqDiff, Nat.reduceAdd, Nat.reduceSub, Nat.reduceMul, Nat.reduceLeDiff, Nat.reduceLT, Int.reduceNeg, Int.reduceToNat, Int.reduceAdd, Int.reduceSub, Int.reduceMul, Int.reduceLT, Int.reduceLE, Int.reduceEq, rX, dg_cells, dg_fold, List.drop_succ_cons, u1, u2]
          refine newK_intro fun lB nB => ?_
          obtain ⟨dBA, nB'⟩ := Hp.set_none nB
          have dB10 : lB ≠ l10 := by rintro rfl; rw [nB'] at g10; cases g10
          have dB11 : lB ≠ l11 := by rintro rfl; rw [nB'] at g11; cases g11
          have dB12 : lB ≠ l12 := by rintro rfl; rw [nB'] at g12; cases g12
          have nB'' : (s2.set lA (dc ux)) lB = none := by rw [Hp.set_ne _ _ dBA]; exact nB'
          obtain ⟨dB, eB, h⟩ := h.new (ob := dc uy) nB''
          have eB' := Hp.sub_none hb2 (Hp.set_none eB).2
          have hb3 : s0.sub ((((((s0.set l6 (dc a)).set l10 zc).set l11 zc).set l12 (dc other)).set lA (dc ux)).set lB (dc uy)) := Hp.sub_new (Hp.sub_new hb2 eA') eB'
          unfold dc at g12
          simp (dsimp := false) (implicitDefEqProofs := false) (maxSteps := 1000000) (disch := first | omega | assumption | (simp only [rL, Nat.reduceAdd]; done) | (simp only [rL, Nat.reduceAdd]; omega)) only [↓rD, rU, ev, ofConst, ofCell, ↓reduceIte, Nat.reduceEqDiff, Nat.reduceAdd, Nat.reduceSub, Nat.reduceMul, Nat.reduceLeDiff, Nat.reduceLT, Int.reduceNeg, Int.reduceToNat, Int.reduceAdd, Int.reduceSub, Int.reduceMul, Int.reduceLT, Int.reduceLE, Int.reduceEq, rX, dg_cells, dg_fold, List.drop_succ_cons, u1, u2, dBA, Ne.symm dBA, Hp.read_of g12, Ne.symm dA12, Ne.symm dB12, t1]
          refine call_intro (node_spec other ux t1 u1 _) ?_
          rintro _ s3 ⟨o3, k3, rfl⟩
          obtain ⟨od, ot, tso, q1, q2⟩ := h
          have h : PS ((((((s0.set l6 (dc a)).set l10 zc).set l11 zc).set l12 (dc other)).set lA (dc ux)).set lB (dc uy)) l ud (ts ++ ut) ul s3 := ⟨od, ot, tso, q1, q2.mono k3.sub⟩
          have b12 : ((((((s0.set l6 (dc a)).set l10 zc).set l11 zc).set l12 (dc other)).set lA (dc ux)).set lB (dc uy)) l12 = some (dc other) := by
            rw [Hp.set_ne _ _ (Ne.symm dB12), Hp.set_ne _ _ (Ne.symm dA12)]; exact Hp.set_same _ _ _
          have b10 : ((((((s0.set l6 (dc a)).set l10 zc).set l11 zc).set l12 (dc other)).set lA (dc ux)).set lB (dc uy)) l10 = some zc := by
            rw [Hp.set_ne _ _ (Ne.symm dB10), Hp.set_ne _ _ (Ne.symm dA10), Hp.set_ne _ _ (Ne.symm d1210), Hp.set_ne _ _ (Ne.symm d1110)]; exact Hp.set_same _ _ _
          have b11 : ((((((s0.set l6 (dc a)).set l10 zc).set l11 zc).set l12 (dc other)).set lA (dc ux)).set lB (dc uy)) l11 = some zc := by
            rw [Hp.set_ne _ _ (Ne.symm dB11), Hp.set_ne _ _ (Ne.symm dA11), Hp.set_ne _ _ (Ne.symm d1211)]; exact Hp.set_same _ _ _
          have gB : s3 lB = some (dc uy) := h.get dB (Hp.set_same _ _ _)
          have gC : s3 l12 = some (dc other) := h.get d12 b12
          unfold dc at gB gC
          simp (dsimp := false) (implicitDefEqProofs := false) (maxSteps := 1000000) (disch := first | omega | assumption | (simp only [rL, Nat.reduceAdd]; done) | (simp only [rL, Nat.reduceAdd]; omega)) only [↓rD, rU, ev, ofConst, ofCell, ↓reduceIte, Nat.reduceEqDiff, Nat.reduceAdd, Nat.reduceSub, Nat.reduceMul, Nat.reduceLeDiff, Nat.reduceLT, Int.reduceNeg, Int.reduceToNat, Int.reduceAdd, Int.reduceSub, Int.reduceMul, Int.reduceLT, Int.reduceLE, Int.reduceEq, rX, dg_cells, dg_fold, List.drop_succ_cons, u1, u2, t1, Hp.read_of gB, Hp.read_of gC]
          refine call_intro (phash_spec _ s3 l ud (ts ++ ut) ul h (nodeB other ux) o3 (by rw [nodeB_length other ux t1 u1]; omega) (by simp only [List.length_append]; omega)) ?_
          rintro _ s4 ⟨rfl, h⟩
          have gB : s4 lB = some (dc uy) := h.get dB (Hp.set_same _ _ _)
          have gC : s4 l12 = some (dc other) := h.get d12 b12
          have hq := sha256_length (nodeB other ux)
          generalize hge : sha256 (nodeB other ux) = e at *
          unfold dc at gB gC
          simp (dsimp := false) (implicitDefEqProofs := false) (maxSteps := 1000000) (disch := first | omega | assumption | (simp only [rL, Nat.reduceAdd]; done) | (simp only [rL, Nat.reduceAdd]; omega)) only [↓rD, rU, ev, ofConst, ofCell, ↓reduceIte, Nat.reduceEqDiff, Nat.reduceAdd, Nat.reduceSub, Nat.reduceMul, Nat.reduceLeDiff, Nat.reduceLT, Int.reduceNeg, Int.reduceToNat, Int.reduceAdd, Int.reduceSub, Int.reduceMul, Int.reduceLT, Int.reduceLE, Int.reduceEq, rX, dg_cells, dg_fold, List.drop_succ_cons, u1, u2, t1, Hp.read_of gB, Hp.read_of gC]
          refine call_intro (node_spec other uy t1 u2 _) ?_
          rintro _ s5 ⟨o5, k5, rfl⟩
          obtain ⟨od', ot', tso', q1', q2'⟩ := h
          have h : PS ((((((s0.set l6 (dc a)).set l10 zc).set l11 zc).set l12 (dc other)).set lA (dc ux)).set lB (dc uy)) l ud (ts ++ ut ++ [nodeB other ux]) ul s5 := ⟨od', ot', tso', q1', q2'.mono k5.sub⟩
          simp (dsimp := false) (implicitDefEqProofs := false) (maxSteps := 1000000) (disch := first | omega | assumption | (simp only [rL, Nat.reduceAdd]; done) | (simp only [rL, Nat.reduceAdd]; omega)) only [↓rD, rU, ev, ofConst, ofCell, ↓reduceIte, Nat.reduceEqDiff, Nat.reduceAdd, Nat.reduceSub, Nat.reduceMul, Nat.reduceLeDiff, Nat.reduceLT, Int.reduceNeg, Int.reduceToNat, Int.reduceAdd, Int.reduceSub, Int.reduceMul, Int.reduceLT, Int.reduceLE, Int.reduceEq, rX, dg_cells, dg_fold, List.drop_succ_cons]
          refine call_intro (phash_spec _ s5 l ud _ ul h (nodeB other uy) o5 (by rw [nodeB_length other uy t1 u2]; omega) (by simp only [List.length_append, List.length_cons, List.length_nil]; omega)) ?_
          rintro _ s6 ⟨rfl, h⟩
          have g10 : s6 l10 = some zc := h.get d10 b10
          have g11 : s6 l11 = some zc := h.get d11 b11
          have hq2 := sha256_length (nodeB other uy)
          generalize hge2 : sha256 (nodeB other uy) = e2 at *
          unfold zc at g10 g11
          simp (dsimp := false) (implicitDefEqProofs := false) (maxSteps := 1000000) (disch := first | omega | assumption | (simp only [rL, Nat.reduceAdd]; done) | (simp only [rL, Nat.reduceAdd]; omega)) only [↓rD, rU, ev, ofConst, ofCell, ↓reduceIte, Nat.reduceEqDiff, Nat.reduceAdd, Nat.reduceSub, Nat.reduceMul, Nat.reduceLeDiff, Nat.reduceLT, Int.reduceNeg, Int.reduceToNat, Int.reduceAdd, Int.reduceSub, Int.reduceMul, Int.reduceLT, Int.reduceLE, Int.reduceEq, rX, dg_cells, dg_fold, List.drop_succ_cons, u1, u2, Hp.stA_of g10, Hp.stA_of g11, d1110, Ne.symm d1110, hq, hq2, Hp.read_of g10, Hp.read_of g11]
          have h9 := (h.set (l2 := l10) (ob := dc e) (ob' := zc) d10 b10).set (l2 := l11) (ob := dc e2) (ob' := zc) d11 (by rw [Hp.set_ne _ _ d1110]; exact b11)
          rw [List.append_assoc, List.append_assoc] at h9
          refine ⟨_, Hp.sub_refl, ?_⟩
          rw [hu]
          exact ⟨rfl, h9.base (Hp.sub_new (Hp.sub_new hb3 e10') e11')⟩
      · obtain ⟨g10, g11, d1210, d1211, hfin⟩ := fin s1 l12 true h n12 (bothF_end hown htk (.inl rfl))
        unfold zc at g10 g11
        simp (dsimp := false) (implicitDefEqProofs := false) (maxSteps := 1000000) (disch := first | omega | assumption | (simp only [rL, Nat.reduceAdd]; done) | (simp only [rL, Nat.reduceAdd]; omega)) only [↓rD, rU, ev, ofConst, ofCell, ↓reduceIte, Nat.reduceEqDiff, Nat.reduceAdd, Nat.reduceSub, Nat.reduceMul, Nat.reduceLeDiff, Nat.reduceLT, Int.reduceNeg, Int.reduceToNat, Int.reduceAdd, Int.reduceSub, Int.reduceMul, Int.reduceLT, Int.reduceLE, Int.reduceEq, rX, dg_cells, dg_fold, List.drop_succ_cons, t1, Ne.symm d12, hr, Hp.stA_of g10, Hp.stA_of g11, Ne.symm d1210, Ne.symm d1211, d1210, d1211, d1110, Ne.symm d1110]
        exact ⟨_, Hp.sub_refl, by rw [bothF_end hown htk (.inl rfl)], hfin⟩
end Go.Proofs.Ytapjikladjoicaa
set_option maxRecDepth 100000
set_option maxHeartbeats 1000000
namespace Go.Proofs.Ytapjikladjoicaa
open Go Go.Av

/-- may a growth be asked, from the first block on? -/
def growOk (m n : Int) : Bool := decide (1 ≤ m ∧ m ≤ n ∧ n ≤ 1099511627776)

theorem GrowPre_spec (a : List UInt8) (m n : Int) (ds : List (List UInt8)) (o : Own) (s : Hp) (ha : a.length = 32) (hd : Digs ds) (hl : ds.length ≤ 400000) :
    AC Try.prog 17 [dg a, .v (.int .i64 m), .v (.int .i64 n), .sl (ds.map dg) o] s fun r s' => ∃ tso o', r = .sl (TX tso) o' ∧ Owned s s' 1 (TX tso) o' ∧ tso.map (·.1) = (if growOk m n = true then (bothF a m.toNat n.toNat true ds).ts else []) := by
  refine AC_run hm prep17 (by simp) ?_
  simp (dsimp := false) (implicitDefEqProofs := false) (maxSteps := 1000000) (disch := first | omega | assumption | (simp only [rL, Nat.reduceAdd]; done) | (simp only [rL, Nat.reduceAdd]; omega)) only [↓rD, rU, ev, ofConst, ofCell, ↓reduceIte, Nat.reduceEqDiff, Nat.reduceAdd, Nat.reduceSub, Nat.reduceMul, Nat.reduceLeDiff, Nat.reduceLT, Int.reduceNeg, Int.reduceToNat, Int.reduceAdd, Int.reduceSub, Int.reduceMul, Int.reduceLT, Int.reduceLE, Int.reduceEq, rX, dg_cells, dg_fold, List.drop_succ_cons, ha]
  refine newK_intro fun l4 n4 => ?_
  simp (dsimp := false) (implicitDefEqProofs := false) (maxSteps := 1000000) (disch := first | omega | assumption | (simp only [rL, Nat.reduceAdd]; done) | (simp only [rL, Nat.reduceAdd]; omega)) only [↓rD, rU, ev, ofConst, ofCell, ↓reduceIte, Nat.reduceEqDiff, Nat.reduceAdd, Nat.reduceSub, Nat.reduceMul, Nat.reduceLeDiff, Nat.reduceLT, Int.reduceNeg, Int.reduceToNat, Int.reduceAdd, Int.reduceSub, Int.reduceMul, Int.reduceLT, Int.reduceLE, Int.reduceEq, rX, dg_cells, dg_fold, List.drop_succ_cons, ha]
  have fin : s.sub (s.set l4 (.cells (a.map byteAV))) := Hp.sub_new Hp.sub_refl n4
  by_cases c1 : m < 1
  · have hp : growOk m n = false := by simp [growOk]; omega
    simp (dsimp := false) (implicitDefEqProofs := false) (maxSteps := 1000000) (disch := first | omega | assumption | (simp only [rL, Nat.reduceAdd]; done) | (simp only [rL, Nat.reduceAdd]; omega)) only [↓rD, rU, ev, ofConst, ofCell, ↓reduceIte, Nat.reduceEqDiff, Nat.reduceAdd, Nat.reduceSub, Nat.reduceMul, Nat.reduceLeDiff, Nat.reduceLT, Int.reduceNeg, Int.reduceToNat, Int.reduceAdd, Int.reduceSub, Int.reduceMul, Int.reduceLT, Int.reduceLE, Int.reduceEq, rX, dg_cells, dg_fold, List.drop_succ_cons, c1]
    exact ⟨_, Hp.sub_refl, [], .nil, rfl, Owned.nil fin, by rw [hp]; rfl⟩
  · by_cases c2 : n < m
    · have hp : growOk m n = false := by simp [growOk]; omega
      simp (dsimp := false) (implicitDefEqProofs := false) (maxSteps := 1000000) (disch := first | omega | assumption | (simp only [rL, Nat.reduceAdd]; done) | (simp only [rL, Nat.reduceAdd]; omega)) only [↓rD, rU, ev, ofConst, ofCell, ↓reduceIte, Nat.reduceEqDiff, Nat.reduceAdd, Nat.reduceSub, Nat.reduceMul, Nat.reduceLeDiff, Nat.reduceLT, Int.reduceNeg, Int.reduceToNat, Int.reduceAdd, Int.reduceSub, Int.reduceMul, Int.reduceLT, Int.reduceLE, Int.reduceEq, rX, dg_cells, dg_fold, List.drop_succ_cons, c1, c2]
      exact ⟨_, Hp.sub_refl, [], .nil, rfl, Owned.nil fin, by rw [hp]; rfl⟩
    · by_cases c3 : 1099511627776 < n
      · have hp : growOk m n = false := by simp [growOk]; omega
        simp (dsimp := false) (implicitDefEqProofs := false) (maxSteps := 1000000) (disch := first | omega | assumption | (simp only [rL, Nat.reduceAdd]; done) | (simp only [rL, Nat.reduceAdd]; omega)) only [↓rD, rU, ev, ofConst, ofCell, ↓reduceIte, Nat.reduceEqDiff, Nat.reduceAdd, Nat.reduceSub, Nat.reduceMul, Nat.reduceLeDiff, Nat.reduceLT, Int.reduceNeg, Int.reduceToNat, Int.reduceAdd, Int.reduceSub, Int.reduceMul, Int.reduceLT, Int.reduceLE, Int.reduceEq, rX, dg_cells, dg_fold, List.drop_succ_cons, c1, c2, c3]
        exact ⟨_, Hp.sub_refl, [], .nil, rfl, Owned.nil fin, by rw [hp]; rfl⟩
      · have hp : growOk m n = true := by simp [growOk]; omega
        obtain ⟨m, rfl⟩ : ∃ k : Nat, m = k := ⟨m.toNat, by omega⟩
        obtain ⟨n, rfl⟩ : ∃ k : Nat, n = k := ⟨n.toNat, by omega⟩
        have e : putAt [AV.sl [] Own.nil, AV.sl [] Own.nil, AV.v (Value.bool false)] 0 [AV.sl (List.map dg ds) o] = [.sl (ds.map dg) o, .sl [] .nil, .v (.bool false)] := rfl
        simp (dsimp := false) (implicitDefEqProofs := false) (maxSteps := 1000000) (disch := first | omega | assumption | (simp only [rL, Nat.reduceAdd]; done) | (simp only [rL, Nat.reduceAdd]; omega)) only [↓rD, rU, ev, ofConst, ofCell, ↓reduceIte, Nat.reduceEqDiff, Nat.reduceAdd, Nat.reduceSub, Nat.reduceMul, Nat.reduceLeDiff, Nat.reduceLT, Int.reduceNeg, Int.reduceToNat, Int.reduceAdd, Int.reduceSub, Int.reduceMul, Int.reduceLT, Int.reduceLE, Int.reduceEq, rX, dg_cells, dg_fold, List.drop_succ_cons, c1, c2, c3, e]
        refine newK_intro fun l n10 => ?_
        obtain ⟨dl4, el⟩ := Hp.set_none n10
        simp (dsimp := false) (implicitDefEqProofs := false) (maxSteps := 1000000) (disch := first | omega | assumption | (simp only [rL, Nat.reduceAdd]; done) | (simp only [rL, Nat.reduceAdd]; omega)) only [↓rD, rU, ev, ofConst, ofCell, ↓reduceIte, Nat.reduceEqDiff, Nat.reduceAdd, Nat.reduceSub, Nat.reduceMul, Nat.reduceLeDiff, Nat.reduceLT, Int.reduceNeg, Int.reduceToNat, Int.reduceAdd, Int.reduceSub, Int.reduceMul, Int.reduceLT, Int.reduceLE, Int.reduceEq, rX, dg_cells, dg_fold, List.drop_succ_cons, e, ha]
        have hP : PS (s.set l4 (dc a)) l ds [] false ((s.set l4 (dc a)).set l (.cells [.sl (ds.map dg) o, .sl [] .nil, .v (.bool false)])) := ⟨o, .nil, [], rfl, Owned.nil Hp.sub_refl⟩
        refine call_intro (both_spec _ a m n true ds [] _ _ l rfl (by omega) (by omega) (by omega) ha hd (by simp; omega) hP) ?_
        rintro _ s2 ⟨rfl, h⟩
        rw [hp, Int.toNat_natCast, Int.toNat_natCast]
        simp only [List.nil_append, if_true] at h ⊢
        generalize bothF a m n true ds = u at *
        obtain ⟨od, ot, tso, q1, q2⟩ := h
        have hl := q2.sub _ _ (Hp.set_same _ _ _)
        simp (dsimp := false) (implicitDefEqProofs := false) (maxSteps := 1000000) (disch := first | omega | assumption | (simp only [rL, Nat.reduceAdd]; done) | (simp only [rL, Nat.reduceAdd]; omega)) only [↓rD, rU, ev, ofConst, ofCell, ↓reduceIte, Nat.reduceEqDiff, Nat.reduceAdd, Nat.reduceSub, Nat.reduceMul, Nat.reduceLeDiff, Nat.reduceLT, Int.reduceNeg, Int.reduceToNat, Int.reduceAdd, Int.reduceSub, Int.reduceMul, Int.reduceLT, Int.reduceLE, Int.reduceEq, rX, dg_cells, dg_fold, List.drop_succ_cons, Hp.read_of hl]
        exact ⟨_, Hp.sub_refl, tso, ot, rfl, q2.base (Hp.sub_new fin el), q1⟩

def growsF (a : List UInt8) (m : Int) (b : List UInt8) (n : Int) (ds : List (List UInt8)) : Bool :=
  if m < 0 ∨ n < m ∨ 1099511627776 < n then false
  else if m = 0 then decide (a = sha256 (preB 72 [])) && decide (ds.length = 0)
  else !(bothF a m.toNat n.toNat true ds).lk && decide ((bothF a m.toNat n.toNat true ds).ds.length = 0) && decide ((bothF a m.toNat n.toNat true ds).x = a) && decide ((bothF a m.toNat n.toNat true ds).y = b)

theorem Grows_spec (a : List UInt8) (m : Int) (b : List UInt8) (n : Int) (ds : List (List UInt8)) (o : Own) (s : Hp) (ha : a.length = 32) (hb : b.length = 32) (hd : Digs ds) (hl : ds.length ≤ 400000) :
    AC Try.prog 30 [dg a, .v (.int .i64 m), dg b, .v (.int .i64 n), .sl (ds.map dg) o] s fun r s' => s' = s ∧ r = .v (.bool (growsF a m b n ds)) := by
  refine AC_run hm prep30 (by simp) ?_
  simp (dsimp := false) (implicitDefEqProofs := false) (maxSteps := 1000000) (disch := first | omega | assumption | (simp only [rL, Nat.reduceAdd]; done) | (simp only [rL, Nat.reduceAdd]; omega)) only [↓rD, rU, ev, ofConst, ofCell, ↓reduceIte, Nat.reduceEqDiff, Nat.reduceAdd, Nat.reduceSub, Nat.reduceMul, Nat.reduceLeDiff, Nat.reduceLT, Int.reduceNeg, Int.reduceToNat, Int.reduceAdd, Int.reduceSub, Int.reduceMul, Int.reduceLT, Int.reduceLE, Int.reduceEq, rX, dg_cells, dg_fold, List.drop_succ_cons, ha]
  refine newK_intro fun l5 n5 => ?_
  simp (dsimp := false) (implicitDefEqProofs := false) (maxSteps := 1000000) (disch := first | omega | assumption | (simp only [rL, Nat.reduceAdd]; done) | (simp only [rL, Nat.reduceAdd]; omega)) only [↓rD, rU, ev, ofConst, ofCell, ↓reduceIte, Nat.reduceEqDiff, Nat.reduceAdd, Nat.reduceSub, Nat.reduceMul, Nat.reduceLeDiff, Nat.reduceLT, Int.reduceNeg, Int.reduceToNat, Int.reduceAdd, Int.reduceSub, Int.reduceMul, Int.reduceLT, Int.reduceLE, Int.reduceEq, rX, dg_cells, dg_fold, List.drop_succ_cons, hb]
  refine newK_intro fun l7 n7 => ?_
  obtain ⟨d75, e7⟩ := Hp.set_none n7
  have fin : s.sub ((s.set l5 (.cells (a.map byteAV))).set l7 (.cells (b.map byteAV))) := Hp.sub_new (Hp.sub_new Hp.sub_refl n5) e7
  simp (dsimp := false) (implicitDefEqProofs := false) (maxSteps := 1000000) (disch := first | omega | assumption | (simp only [rL, Nat.reduceAdd]; done) | (simp only [rL, Nat.reduceAdd]; omega)) only [↓rD, rU, ev, ofConst, ofCell, ↓reduceIte, Nat.reduceEqDiff, Nat.reduceAdd, Nat.reduceSub, Nat.reduceMul, Nat.reduceLeDiff, Nat.reduceLT, Int.reduceNeg, Int.reduceToNat, Int.reduceAdd, Int.reduceSub, Int.reduceMul, Int.reduceLT, Int.reduceLE, Int.reduceEq, rX, dg_cells, dg_fold, List.drop_succ_cons]
  by_cases c1 : m < 0
  · have hp : growsF a m b n ds = false := by simp [growsF, c1]
    simp (dsimp := false) (implicitDefEqProofs := false) (maxSteps := 1000000) (disch := first | omega | assumption | (simp only [rL, Nat.reduceAdd]; done) | (simp only [rL, Nat.reduceAdd]; omega)) only [↓rD, rU, ev, ofConst, ofCell, ↓reduceIte, Nat.reduceEqDiff, Nat.reduceAdd, Nat.reduceSub, Nat.reduceMul, Nat.reduceLeDiff, Nat.reduceLT, Int.reduceNeg, Int.reduceToNat, Int.reduceAdd, Int.reduceSub, Int.reduceMul, Int.reduceLT, Int.reduceLE, Int.reduceEq, rX, dg_cells, dg_fold, List.drop_succ_cons, c1]
    exact ⟨s, fin, rfl, by rw [hp]⟩
  · by_cases c2 : n < m
    · have hp : growsF a m b n ds = false := by simp [growsF, c2]
      simp (dsimp := false) (implicitDefEqProofs := false) (maxSteps := 1000000) (disch := first | omega | assumption | (simp only [rL, Nat.reduceAdd]; done) | (simp only [rL, Nat.reduceAdd]; omega)) only [↓rD, rU, ev, ofConst, ofCell, ↓reduceIte, Nat.reduceEqDiff, Nat.reduceAdd, Nat.reduceSub, Nat.reduceMul, Nat.reduceLeDiff, Nat.reduceLT, Int.reduceNeg, Int.reduceToNat, Int.reduceAdd, Int.reduceSub, Int.reduceMul, Int.reduceLT, Int.reduceLE, Int.reduceEq, rX, dg_cells, dg_fold, List.drop_succ_cons, c1, c2]
      exact ⟨s, fin, rfl, by rw [hp]⟩
    · by_cases c3 : 1099511627776 < n
      · have hp : growsF a m b n ds = false := by simp [growsF, c3]
        simp (dsimp := false) (implicitDefEqProofs := false) (maxSteps := 1000000) (disch := first | omega | assumption | (simp only [rL, Nat.reduceAdd]; done) | (simp only [rL, Nat.reduceAdd]; omega)) only [↓rD, rU, ev, ofConst, ofCell, ↓reduceIte, Nat.reduceEqDiff, Nat.reduceAdd, Nat.reduceSub, Nat.reduceMul, Nat.reduceLeDiff, Nat.reduceLT, Int.reduceNeg, Int.reduceToNat, Int.reduceAdd, Int.reduceSub, Int.reduceMul, Int.reduceLT, Int.reduceLE, Int.reduceEq, rX, dg_cells, dg_fold, List.drop_succ_cons, c1, c2, c3]
        exact ⟨s, fin, rfl, by rw [hp]⟩
      · by_cases c4 : m = 0
        · have hp : growsF a m b n ds = (decide (a = sha256 (preB 72 [])) && decide (ds.length = 0)) := by
            rw [growsF, if_neg (by omega), if_pos c4]
          rw [hp]
          subst c4
          simp (dsimp := false) (implicitDefEqProofs := false) (maxSteps := 1000000) (disch := first | omega | assumption | (simp only [rL, Nat.reduceAdd]; done) | (simp only [rL, Nat.reduceAdd]; omega)) only [↓rD, rU, ev, ofConst, ofCell, ↓reduceIte, Nat.reduceEqDiff, Nat.reduceAdd, Nat.reduceSub, Nat.reduceMul, Nat.reduceLeDiff, Nat.reduceLT, Int.reduceNeg, Int.reduceToNat, Int.reduceAdd, Int.reduceSub, Int.reduceMul, Int.reduceLT, Int.reduceLE, Int.reduceEq, rX, dg_cells, dg_fold, List.drop_succ_cons, c1, c2, c3, Ne.symm d75, ha]
          refine call_intro (hash_spec 72 [] .nil (by simp [preB]) _) ?_
          rintro _ _ ⟨rfl, rfl⟩
          have hq := sha256_length (preB 72 [])
          simp only [List.map_nil]
          generalize sha256 (preB 72 []) = d at *
          simp (dsimp := false) (implicitDefEqProofs := false) (maxSteps := 1000000) (disch := first | omega | assumption | (simp only [rL, Nat.reduceAdd]; done) | (simp only [rL, Nat.reduceAdd]; omega)) only [↓rD, rU, ev, ofConst, ofCell, ↓reduceIte, Nat.reduceEqDiff, Nat.reduceAdd, Nat.reduceSub, Nat.reduceMul, Nat.reduceLeDiff, Nat.reduceLT, Int.reduceNeg, Int.reduceToNat, Int.reduceAdd, Int.reduceSub, Int.reduceMul, Int.reduceLT, Int.reduceLE, Int.reduceEq, rX, dg_cells, dg_fold, List.drop_succ_cons, Ne.symm d75, ha, eqvK_dg, Bool.false_xor]
          cases hda : decide (a = d)
          · simp (dsimp := false) (implicitDefEqProofs := false) (maxSteps := 1000000) (disch := first | omega | assumption | (simp only [rL, Nat.reduceAdd]; done) | (simp only [rL, Nat.reduceAdd]; omega)) only [↓rD, rU, ev, ofConst, ofCell, ↓reduceIte, Nat.reduceEqDiff, Nat.reduceAdd, Nat.reduceSub, Nat.reduceMul, Nat.reduceLeDiff, Nat.reduceLT, Int.reduceNeg, Int.reduceToNat, Int.reduceAdd, Int.reduceSub, Int.reduceMul, Int.reduceLT, Int.reduceLE, Int.reduceEq, rX, dg_cells, dg_fold, List.drop_succ_cons]
            exact ⟨s, fin, rfl, rfl⟩
          · simp (dsimp := false) (implicitDefEqProofs := false) (maxSteps := 1000000) (disch := first | omega | assumption | (simp only [rL, Nat.reduceAdd]; done) | (simp only [rL, Nat.reduceAdd]; omega)) only [↓rD, rU, ev, ofConst, ofCell, ↓reduceIte, Nat.reduceEqDiff, Nat.reduceAdd, Nat.reduceSub, Nat.reduceMul, Nat.reduceLeDiff, Nat.reduceLT, Int.reduceNeg, Int.reduceToNat, Int.reduceAdd, Int.reduceSub, Int.reduceMul, Int.reduceLT, Int.reduceLE, Int.reduceEq, rX, dg_cells, dg_fold, List.drop_succ_cons]
            refine ⟨s, fin, rfl, ?_⟩
            simp
        · have c1' : 1 ≤ m := by omega
          obtain ⟨m, rfl⟩ : ∃ k : Nat, m = k := ⟨m.toNat, by omega⟩
          obtain ⟨n, rfl⟩ : ∃ k : Nat, n = k := ⟨n.toNat, by omega⟩
          have hp : growsF a m b n ds = (!(bothF a m n true ds).lk && decide ((bothF a m n true ds).ds.length = 0) && decide ((bothF a m n true ds).x = a) && decide ((bothF a m n true ds).y = b)) := by
            rw [growsF, if_neg (by omega), if_neg c4, Int.toNat_natCast, Int.toNat_natCast]
          rw [hp]
          have e : putAt [AV.sl [] Own.nil, AV.sl [] Own.nil, AV.v (Value.bool false)] 0 [AV.sl (List.map dg ds) o] = [.sl (ds.map dg) o, .sl [] .nil, .v (.bool false)] := rfl
          simp (dsimp := false) (implicitDefEqProofs := false) (maxSteps := 1000000) (disch := first | omega | assumption | (simp only [rL, Nat.reduceAdd]; done) | (simp only [rL, Nat.reduceAdd]; omega)) only [↓rD, rU, ev, ofConst, ofCell, ↓reduceIte, Nat.reduceEqDiff, Nat.reduceAdd, Nat.reduceSub, Nat.reduceMul, Nat.reduceLeDiff, Nat.reduceLT, Int.reduceNeg, Int.reduceToNat, Int.reduceAdd, Int.reduceSub, Int.reduceMul, Int.reduceLT, Int.reduceLE, Int.reduceEq, rX, dg_cells, dg_fold, List.drop_succ_cons, c1, c2, c3, c4, e]
          refine newK_intro fun l n10 => ?_
          obtain ⟨dl7, el⟩ := Hp.set_none n10
          obtain ⟨dl5, el⟩ := Hp.set_none el
          simp (dsimp := false) (implicitDefEqProofs := false) (maxSteps := 1000000) (disch := first | omega | assumption | (simp only [rL, Nat.reduceAdd]; done) | (simp only [rL, Nat.reduceAdd]; omega)) only [↓rD, rU, ev, ofConst, ofCell, ↓reduceIte, Nat.reduceEqDiff, Nat.reduceAdd, Nat.reduceSub, Nat.reduceMul, Nat.reduceLeDiff, Nat.reduceLT, Int.reduceNeg, Int.reduceToNat, Int.reduceAdd, Int.reduceSub, Int.reduceMul, Int.reduceLT, Int.reduceLE, Int.reduceEq, rX, dg_cells, dg_fold, List.drop_succ_cons, e, ha, Ne.symm dl5, Ne.symm d75]
          have hP : PS ((s.set l5 (dc a)).set l7 (dc b)) l ds [] false (((s.set l5 (dc a)).set l7 (dc b)).set l (.cells [.sl (ds.map dg) o, .sl [] .nil, .v (.bool false)])) := ⟨o, .nil, [], rfl, Owned.nil Hp.sub_refl⟩
          refine call_intro (both_spec _ a m n true ds [] _ _ l rfl (by omega) (by omega) (by omega) ha hd (by simp; omega) hP) ?_
          rintro _ s2 ⟨rfl, h⟩
          obtain ⟨u1, u2, _⟩ := bothF_ok _ a m n true ds rfl (by omega) (by omega) ha hd
          generalize bothF a m n true ds = u at *
          obtain ⟨ux, uy, ud, ut, ul⟩ := u
          simp only at u1 u2 h ⊢
          have g5 : s2 l5 = some (dc a) := h.get (Ne.symm dl5) (by rw [Hp.set_ne _ _ (Ne.symm d75)]; exact Hp.set_same _ _ _)
          have g7 : s2 l7 = some (dc b) := h.get (Ne.symm dl7) (Hp.set_same _ _ _)
          have hb2 : s.sub s2 := Hp.sub_trans fin (h.sub (by rw [Hp.set_ne _ _ dl7, Hp.set_ne _ _ dl5]; exact el))
          simp (dsimp := false) (implicitDefEqProofs := false) (maxSteps := 1000000) (disch := first | omega | assumption | (simp only [rL, Nat.reduceAdd]; done) | (simp only [rL, Nat.reduceAdd]; omega)) only [↓rD, rU, ev, ofConst, ofCell, ↓reduceIte, Nat.reduceEqDiff, Nat.reduceAdd, Nat.reduceSub, Nat.reduceMul, Nat.reduceLeDiff, Nat.reduceLT, Int.reduceNeg, Int.reduceToNat, Int.reduceAdd, Int.reduceSub, Int.reduceMul, Int.reduceLT, Int.reduceLE, Int.reduceEq, rX, dg_cells, dg_fold, List.drop_succ_cons, List.getElem?_cons_zero, List.getElem?_cons_succ]
          refine newK_intro fun lA nA => ?_
          have dA5 : lA ≠ l5 := by rintro rfl; rw [nA] at g5; cases g5
          have dA7 : lA ≠ l7 := by rintro rfl; rw [nA] at g7; cases g7
          obtain ⟨dA, eA, h⟩ := h.new (ob := dc ux) nA
          simp (dsimp := false) (implicitDefEqProofs := false) (maxSteps := 1000000) (disch := first | omega | assumption | (simp only [rL, Nat.reduceAdd]; done) | (simp only [rL, Nat.reduceAdd]; omega)) only [↓rD, rU, ev, ofConst, ofCell, ↓reduceIte, Nat.reduceEqDiff, Nat.reduceAdd, Nat.reduceSub, Nat.reduceMul, Nat.reduceLeDiff, Nat.reduceLT, Int.reduceNeg, Int.reduceToNat, Int.reduceAdd, Int.reduceSub, Int.reduceMul, Int.reduceLT, Int.reduceLE, Int.reduceEq, rX, dg_cells, dg_fold, List.drop_succ_cons, u1, u2]
          refine newK_intro fun lB nB => ?_
          obtain ⟨dBA, nB'⟩ := Hp.set_none nB
          have dB5 : lB ≠ l5 := by rintro rfl; rw [nB'] at g5; cases g5
          have dB7 : lB ≠ l7 := by rintro rfl; rw [nB'] at g7; cases g7
          have nB'' : (s2.set lA (dc ux)) lB = none := by rw [Hp.set_ne _ _ dBA]; exact nB'
          obtain ⟨dB, eB, h⟩ := h.new (ob := dc uy) nB''
          have hb3 : s.sub ((s2.set lA (.cells (ux.map byteAV))).set lB (.cells (uy.map byteAV))) := Hp.sub_new (Hp.sub_new hb2 (Hp.sub_none hb2 nA)) (Hp.sub_none hb2 nB')
          simp (dsimp := false) (implicitDefEqProofs := false) (maxSteps := 1000000) (disch := first | omega | assumption | (simp only [rL, Nat.reduceAdd]; done) | (simp only [rL, Nat.reduceAdd]; omega)) only [↓rD, rU, ev, ofConst, ofCell, ↓reduceIte, Nat.reduceEqDiff, Nat.reduceAdd, Nat.reduceSub, Nat.reduceMul, Nat.reduceLeDiff, Nat.reduceLT, Int.reduceNeg, Int.reduceToNat, Int.reduceAdd, Int.reduceSub, Int.reduceMul, Int.reduceLT, Int.reduceLE, Int.reduceEq, rX, dg_cells, dg_fold, List.drop_succ_cons, u1, u2, dBA, Ne.symm dBA]
          refine call_intro (good_spec _ _ l ud _ ul h) ?_
          rintro _ _ ⟨rfl, rfl⟩
          unfold dc at g5 g7
          cases hg : (!ul && decide (ud.length = 0))
          · simp (dsimp := false) (implicitDefEqProofs := false) (maxSteps := 1000000) (disch := first | omega | assumption | (simp only [rL, Nat.reduceAdd]; done) | (simp only [rL, Nat.reduceAdd]; omega)) only [↓rD, rU, ev, ofConst, ofCell, ↓reduceIte, Nat.reduceEqDiff, Nat.reduceAdd, Nat.reduceSub, Nat.reduceMul, Nat.reduceLeDiff, Nat.reduceLT, Int.reduceNeg, Int.reduceToNat, Int.reduceAdd, Int.reduceSub, Int.reduceMul, Int.reduceLT, Int.reduceLE, Int.reduceEq, rX, dg_cells, dg_fold, List.drop_succ_cons]
            exact ⟨s, hb3, rfl, rfl⟩
          · simp (dsimp := false) (implicitDefEqProofs := false) (maxSteps := 1000000) (disch := first | omega | assumption | (simp only [rL, Nat.reduceAdd]; done) | (simp only [rL, Nat.reduceAdd]; omega)) only [↓rD, rU, ev, ofConst, ofCell, ↓reduceIte, Nat.reduceEqDiff, Nat.reduceAdd, Nat.reduceSub, Nat.reduceMul, Nat.reduceLeDiff, Nat.reduceLT, Int.reduceNeg, Int.reduceToNat, Int.reduceAdd, Int.reduceSub, Int.reduceMul, Int.reduceLT, Int.reduceLE, Int.reduceEq, rX, dg_cells, dg_fold, List.drop_succ_cons, u1, u2, ha, hb, dBA, Ne.symm dBA, Hp.read_of g5, Hp.read_of g7, Ne.symm dA5, Ne.symm dB5, Ne.symm dA7, Ne.symm dB7, eqvK_dg, Bool.false_xor]
            cases hxa : decide (ux = a)
            · simp (dsimp := false) (implicitDefEqProofs := false) (maxSteps := 1000000) (disch := first | omega | assumption | (simp only [rL, Nat.reduceAdd]; done) | (simp only [rL, Nat.reduceAdd]; omega)) only [↓rD, rU, ev, ofConst, ofCell, ↓reduceIte, Nat.reduceEqDiff, Nat.reduceAdd, Nat.reduceSub, Nat.reduceMul, Nat.reduceLeDiff, Nat.reduceLT, Int.reduceNeg, Int.reduceToNat, Int.reduceAdd, Int.reduceSub, Int.reduceMul, Int.reduceLT, Int.reduceLE, Int.reduceEq, rX, dg_cells, dg_fold, List.drop_succ_cons]
              exact ⟨s, hb3, rfl, rfl⟩
            · simp (dsimp := false) (implicitDefEqProofs := false) (maxSteps := 1000000) (disch := first | omega | assumption | (simp only [rL, Nat.reduceAdd]; done) | (simp only [rL, Nat.reduceAdd]; omega)) only [↓rD, rU, ev, ofConst, ofCell, ↓reduceIte, Nat.reduceEqDiff, Nat.reduceAdd, Nat.reduceSub, Nat.reduceMul, Nat.reduceLeDiff, Nat.reduceLT, Int.reduceNeg, Int.reduceToNat, Int.reduceAdd, Int.reduceSub, Int.reduceMul, Int.reduceLT, Int.reduceLE, Int.reduceEq, rX, dg_cells, dg_fold, List.drop_succ_cons, u1, u2, ha, hb, dBA, Ne.symm dBA, Hp.read_of g5, Hp.read_of g7, Ne.symm dA5, Ne.symm dB5, Ne.symm dA7, Ne.symm dB7, eqvK_dg, Bool.false_xor]
              exact ⟨s, hb3, rfl, by simp⟩
end Go.Proofs.Ytapjikladjoicaa
set_option maxRecDepth 100000
namespace Go.Proofs.Ytapjikladjoicaa
open Go Go.Av

def WC (bs : List UInt8) (ow : Own) : Ob := .cells [.sl (bs.map byteAV) ow, .v (.int .i64 0)]
/-- a writer at l that has written these bytes, and no error -/
def WS (s0 : Hp) (l : Nat) (bs : List UInt8) (s : Hp) : Prop := ∃ ow, Owned (s0.set l (WC bs ow)) s 1 (bs.map byteAV) ow

theorem put_spec (s0 s : Hp) (l : Nat) (bs cs : List UInt8) (o : Own) (h : WS s0 l bs s) (hl : bs.length + cs.length ≤ 70368744177664) :
    AC Try.prog 86 [.ptr l 0, .v (.bool true), .sl (cs.map byteAV) o] s fun _ s' => WS s0 l (bs ++ cs) s' := by
  obtain ⟨ow, h⟩ := h
  have g := h.sub _ _ (Hp.set_same _ _ _)
  refine AC_run hm prep86 (by simp) ?_
  simp (dsimp := false) (implicitDefEqProofs := false) (maxSteps := 1000000) (disch := first | omega | assumption | (simp only [rL, Nat.reduceAdd]; done) | (simp only [rL, Nat.reduceAdd]; omega)) only [↓rD, rU, ev, ofConst, ofCell, ↓reduceIte, Nat.reduceEqDiff, Nat.reduceAdd, Nat.reduceSub, Nat.reduceMul, Nat.reduceLeDiff, Nat.reduceLT, Int.reduceNeg, Int.reduceToNat, Int.reduceAdd, Int.reduceSub, Int.reduceMul, Int.reduceLT, Int.reduceLE, Int.reduceEq, rX, dg_cells, dg_fold, List.drop_succ_cons, Bool.not_true, Hp.read_of g]
  refine app_bytes h (by omega) fun o2 s2 h2 => ?_
  have g2 := h2.sub _ _ (Hp.set_same _ _ _)
  simp (dsimp := false) (implicitDefEqProofs := false) (maxSteps := 1000000) (disch := first | omega | assumption | (simp only [rL, Nat.reduceAdd]; done) | (simp only [rL, Nat.reduceAdd]; omega)) only [↓rD, rU, ev, ofConst, ofCell, ↓reduceIte, Nat.reduceEqDiff, Nat.reduceAdd, Nat.reduceSub, Nat.reduceMul, Nat.reduceLeDiff, Nat.reduceLT, Int.reduceNeg, Int.reduceToNat, Int.reduceAdd, Int.reduceSub, Int.reduceMul, Int.reduceLT, Int.reduceLE, Int.reduceEq, rX, dg_cells, dg_fold, List.drop_succ_cons, Hp.read_of g2, Hp.stA_of g2]
  have h5 := h2.set (ob := WC (bs ++ cs) o2) (Hp.set_same _ _ _)
  rw [Hp.set_set] at h5
  exact ⟨_, Hp.sub_refl, o2, h5⟩

theorem wbyte_spec (s0 s : Hp) (l : Nat) (bs : List UInt8) (b : UInt8) (h : WS s0 l bs s) (hl : bs.length + 1 ≤ 70368744177664) :
    AC Try.prog 74 [.ptr l 0, .v (.int .u8 b.toNat)] s fun _ s' => WS s0 l (bs ++ [b]) s' := by
  refine AC_run hm prep74 (by simp) ?_
  simp (dsimp := false) (implicitDefEqProofs := false) (maxSteps := 1000000) (disch := first | omega | assumption | (simp only [rL, Nat.reduceAdd]; done) | (simp only [rL, Nat.reduceAdd]; omega)) only [↓rD, rU, ev, ofConst, ofCell, ↓reduceIte, Nat.reduceEqDiff, Nat.reduceAdd, Nat.reduceSub, Nat.reduceMul, Nat.reduceLeDiff, Nat.reduceLT, Int.reduceNeg, Int.reduceToNat, Int.reduceAdd, Int.reduceSub, Int.reduceMul, Int.reduceLT, Int.reduceLE, Int.reduceEq, rX, dg_cells, dg_fold, List.drop_succ_cons]
  refine bsl_byte Hp.sub_refl fun o1 s1 h1 => ?_
  simp (dsimp := false) (implicitDefEqProofs := false) (maxSteps := 1000000) (disch := first | omega | assumption | (simp only [rL, Nat.reduceAdd]; done) | (simp only [rL, Nat.reduceAdd]; omega)) only [↓rD, rU, ev, ofConst, ofCell, ↓reduceIte, Nat.reduceEqDiff, Nat.reduceAdd, Nat.reduceSub, Nat.reduceMul, Nat.reduceLeDiff, Nat.reduceLT, Int.reduceNeg, Int.reduceToNat, Int.reduceAdd, Int.reduceSub, Int.reduceMul, Int.reduceLT, Int.reduceLE, Int.reduceEq, rX, dg_cells, dg_fold, List.drop_succ_cons]
  obtain ⟨ow, h⟩ := h
  refine call_intro (put_spec s0 s1 l bs [b] o1 ⟨ow, h.mono h1.sub⟩ hl) ?_
  intro r s2 h2
  simp (dsimp := false) (implicitDefEqProofs := false) (maxSteps := 1000000) (disch := first | omega | assumption | (simp only [rL, Nat.reduceAdd]; done) | (simp only [rL, Nat.reduceAdd]; omega)) only [↓rD, rU, ev, ofConst, ofCell, ↓reduceIte, Nat.reduceEqDiff, Nat.reduceAdd, Nat.reduceSub, Nat.reduceMul, Nat.reduceLeDiff, Nat.reduceLT, Int.reduceNeg, Int.reduceToNat, Int.reduceAdd, Int.reduceSub, Int.reduceMul, Int.reduceLT, Int.reduceLE, Int.reduceEq, rX, dg_cells, dg_fold, List.drop_succ_cons]
  exact ⟨s2, Hp.sub_refl, h2⟩

def numN (n : Int) : Nat := (BitVec.ofInt 64 n ^^^ BitVec.ofInt 64 9223372036854775808).toNat
def numB (n : Int) : List UInt8 := eightB (numN n)
theorem xor_num (n : Int) : binV .xor (.int .u64 (IntKind.u64.wrap n)) (.int .u64 9223372036854775808) = some (.int .u64 (numN n)) := by
  have e : BitVec.ofInt 64 (IntKind.u64.wrap n) = BitVec.ofInt 64 n := by
    rw [wrap_u64_mod]; apply BitVec.eq_of_toInt_eq; simp [BitVec.toInt_ofInt, Int.bmod]
  have h : binV .xor (.int .u64 (IntKind.u64.wrap n)) (.int .u64 9223372036854775808) = some (.int .u64 (IntKind.u64.wrap (BitVec.ofInt 64 (IntKind.u64.wrap n) ^^^ BitVec.ofInt 64 9223372036854775808).toNat)) := rfl
  rw [h, e]
  have hlt := (BitVec.ofInt 64 n ^^^ BitVec.ofInt 64 9223372036854775808).isLt
  rw [wrap_u64 (by omega) (by omega)]; rfl

theorem num_spec (s0 s : Hp) (l : Nat) (bs : List UInt8) (n : Int) (h : WS s0 l bs s) (hl : bs.length + 8 ≤ 70368744177664) :
    AC Try.prog 46 [.ptr l 0, .v (.int .i64 n)] s fun _ s' => WS s0 l (bs ++ numB n) s' := by
  refine AC_run hm prep46 (by simp) ?_
  simp (dsimp := false) (implicitDefEqProofs := false) (maxSteps := 1000000) (disch := first | omega | assumption | (simp only [rL, Nat.reduceAdd]; done) | (simp only [rL, Nat.reduceAdd]; omega)) only [↓rD, rU, ev, ofConst, ofCell, ↓reduceIte, Nat.reduceEqDiff, Nat.reduceAdd, Nat.reduceSub, Nat.reduceMul, Nat.reduceLeDiff, Nat.reduceLT, Int.reduceNeg, Int.reduceToNat, Int.reduceAdd, Int.reduceSub, Int.reduceMul, Int.reduceLT, Int.reduceLE, Int.reduceEq, rX, dg_cells, dg_fold, List.drop_succ_cons, xor_num]
  generalize hN : numN n = N
  refine loop_intro (fun f s' => ∃ j : Nat, j ≤ 8 ∧ WS s0 l (bs ++ (eightB N).take j) s' ∧ f 0 = .ptr l 0 ∧ f 4 = .v (.int .u64 N) ∧ f 5 = .v (.int .i64 (56 - 8 * (j : Int))))
    (fun f _ => match f 5 with | .v (.int _ n) => (n + 8).toNat | _ => 0) ⟨0, by omega, by simpa using h, ?_⟩ ?_
  · simp (dsimp := false) (implicitDefEqProofs := false) (maxSteps := 1000000) (disch := first | omega | assumption | (simp only [rL, Nat.reduceAdd]; done) | (simp only [rL, Nat.reduceAdd]; omega)) only [↓rD, rU, ev, ofConst, ofCell, ↓reduceIte, Nat.reduceEqDiff, Nat.reduceAdd, Nat.reduceSub, Nat.reduceMul, Nat.reduceLeDiff, Nat.reduceLT, Int.reduceNeg, Int.reduceToNat, Int.reduceAdd, Int.reduceSub, Int.reduceMul, Int.reduceLT, Int.reduceLE, Int.reduceEq, rX, dg_cells, dg_fold, List.drop_succ_cons]
  · rintro f s' ⟨j, hj, hw, f0, f4, f5⟩
    by_cases hlt : (0 : Int) ≤ 56 - 8 * (j : Int)
    · simp (dsimp := false) (implicitDefEqProofs := false) (maxSteps := 1000000) (disch := first | omega | assumption | (simp only [rL, Nat.reduceAdd]; done) | (simp only [rL, Nat.reduceAdd]; omega)) only [↓rD, rU, ev, ofConst, ofCell, ↓reduceIte, Nat.reduceEqDiff, Nat.reduceAdd, Nat.reduceSub, Nat.reduceMul, Nat.reduceLeDiff, Nat.reduceLT, Int.reduceNeg, Int.reduceToNat, Int.reduceAdd, Int.reduceSub, Int.reduceMul, Int.reduceLT, Int.reduceLE, Int.reduceEq, rX, dg_cells, dg_fold, List.drop_succ_cons, f0, f4, f5, hlt, wrap_u8_nat]
      refine call_intro (wbyte_spec s0 s' l _ _ hw ?_) ?_
      · simp; omega
      intro r s2 h2
      simp (dsimp := false) (implicitDefEqProofs := false) (maxSteps := 1000000) (disch := first | omega | assumption | (simp only [rL, Nat.reduceAdd]; done) | (simp only [rL, Nat.reduceAdd]; omega)) only [↓rD, rU, ev, ofConst, ofCell, ↓reduceIte, Nat.reduceEqDiff, Nat.reduceAdd, Nat.reduceSub, Nat.reduceMul, Nat.reduceLeDiff, Nat.reduceLT, Int.reduceNeg, Int.reduceToNat, Int.reduceAdd, Int.reduceSub, Int.reduceMul, Int.reduceLT, Int.reduceLE, Int.reduceEq, rX, dg_cells, dg_fold, List.drop_succ_cons, f0, f4, f5, hlt]
      refine ⟨⟨j + 1, by omega, ?_, by simp; omega⟩, by omega⟩
      have e : (eightB N).take (j + 1) = (eightB N).take j ++ [UInt8.ofNat (N >>> (56 - 8 * (j : Int)).toNat)] := by
        rcases (by omega : j = 0 ∨ j = 1 ∨ j = 2 ∨ j = 3 ∨ j = 4 ∨ j = 5 ∨ j = 6 ∨ j = 7) with rfl | rfl | rfl | rfl | rfl | rfl | rfl | rfl <;> rfl
      rw [e, ← List.append_assoc]; exact h2
    · obtain rfl : j = 8 := by omega
      simp (dsimp := false) (implicitDefEqProofs := false) (maxSteps := 1000000) (disch := first | omega | assumption | (simp only [rL, Nat.reduceAdd]; done) | (simp only [rL, Nat.reduceAdd]; omega)) only [↓rD, rU, ev, ofConst, ofCell, ↓reduceIte, Nat.reduceEqDiff, Nat.reduceAdd, Nat.reduceSub, Nat.reduceMul, Nat.reduceLeDiff, Nat.reduceLT, Int.reduceNeg, Int.reduceToNat, Int.reduceAdd, Int.reduceSub, Int.reduceMul, Int.reduceLT, Int.reduceLE, Int.reduceEq, rX, dg_cells, dg_fold, List.drop_succ_cons, f0, f4, f5, hlt]
      refine ⟨s', Hp.sub_refl, ?_⟩
      rw [numB, hN]; exact hw
end Go.Proofs.Ytapjikladjoicaa
set_option maxRecDepth 100000
namespace Go.Av
open Go
variable {P : Program} {f : Fr} {s s0 : Hp} {Kv : AV → Hp → Prop}
def eqnK (neg : Bool) (a : AV) (C : AV → Prop) : Prop :=
  match a with
  | .sl xs o => match o with
    | .nil => C (.v (.bool (!neg)))
    | .buf _ _ => C (.v (.bool neg))
    | _ => (xs = [] → C (.v (.bool (!neg)))) ∧ C (.v (.bool neg))
  | _ => False
theorem G_eqn {neg : Bool} {x : Operand} : G P (.eqn neg x) f s Kv = eqnK neg (ev f x) (hid1 (fun r => Kv r s) ()) := rfl
theorem eqn_intro {neg : Bool} {xs : List AV} {o : Own} {C : AV → Prop} {d : Dep C} (hn : o = .nil → xs = []) (h1 : xs = [] → C (.v (.bool (!neg)))) (h2 : C (.v (.bool neg))) : eqnK neg (.sl xs o) (hid1 C d) := by
  cases o with
  | nil => exact h1 (hn rfl)
  | buf g c => exact h2
  | any => exact ⟨h1, h2⟩
  | zero => exact ⟨h1, h2⟩
end Go.Av
namespace Go.Proofs.Ytapjikladjoicaa
open Go Go.Av

theorem clone_spec (bs : List UInt8) (o : Own) (s : Hp) (ho : o = .nil → bs = []) (hb : bs.length ≤ 70368744177664) :
    AC Try.prog 68 [.sl (bs.map byteAV) o] s fun r s' => ∃ o', Owned s s' 1 (bs.map byteAV) o' ∧ r = .sl (bs.map byteAV) o' := by
  refine AC_run hm prep68 (by simp) ?_
  simp (dsimp := false) (implicitDefEqProofs := false) (maxSteps := 1000000) (disch := first | omega | assumption | (simp only [rL, Nat.reduceAdd]; done) | (simp only [rL, Nat.reduceAdd]; omega)) only [↓rD, rU, ev, ofConst, ofCell, ↓reduceIte, Nat.reduceEqDiff, Nat.reduceAdd, Nat.reduceSub, Nat.reduceMul, Nat.reduceLeDiff, Nat.reduceLT, Int.reduceNeg, Int.reduceToNat, Int.reduceAdd, Int.reduceSub, Int.reduceMul, Int.reduceLT, Int.reduceLE, Int.reduceEq, rX, dg_cells, dg_fold, List.drop_succ_cons, ↓G_eqn]
  refine eqn_intro (fun h => by rw [ho h]; rfl) (fun h => ?_) ?_
  · have hb0 : bs = [] := by simpa using h
    subst hb0
    simp (dsimp := false) (implicitDefEqProofs := false) (maxSteps := 1000000) (disch := first | omega | assumption | (simp only [rL, Nat.reduceAdd]; done) | (simp only [rL, Nat.reduceAdd]; omega)) only [↓rD, rU, ev, ofConst, ofCell, ↓reduceIte, Nat.reduceEqDiff, Nat.reduceAdd, Nat.reduceSub, Nat.reduceMul, Nat.reduceLeDiff, Nat.reduceLT, Int.reduceNeg, Int.reduceToNat, Int.reduceAdd, Int.reduceSub, Int.reduceMul, Int.reduceLT, Int.reduceLE, Int.reduceEq, rX, dg_cells, dg_fold, List.drop_succ_cons, Bool.not_false]
    exact ⟨s, Hp.sub_refl, .nil, Owned.nil Hp.sub_refl, rfl⟩
  · simp (dsimp := false) (implicitDefEqProofs := false) (maxSteps := 1000000) (disch := first | omega | assumption | (simp only [rL, Nat.reduceAdd]; done) | (simp only [rL, Nat.reduceAdd]; omega)) only [↓rD, rU, ev, ofConst, ofCell, ↓reduceIte, Nat.reduceEqDiff, Nat.reduceAdd, Nat.reduceSub, Nat.reduceMul, Nat.reduceLeDiff, Nat.reduceLT, Int.reduceNeg, Int.reduceToNat, Int.reduceAdd, Int.reduceSub, Int.reduceMul, Int.reduceLT, Int.reduceLE, Int.reduceEq, rX, dg_cells, dg_fold, List.drop_succ_cons]
    refine bsl_own Hp.sub_refl (by simp [allLen]) fun o1 s1 h1 => ?_
    simp (dsimp := false) (implicitDefEqProofs := false) (maxSteps := 1000000) (disch := first | omega | assumption | (simp only [rL, Nat.reduceAdd]; done) | (simp only [rL, Nat.reduceAdd]; omega)) only [↓rD, rU, ev, ofConst, ofCell, ↓reduceIte, Nat.reduceEqDiff, Nat.reduceAdd, Nat.reduceSub, Nat.reduceMul, Nat.reduceLeDiff, Nat.reduceLT, Int.reduceNeg, Int.reduceToNat, Int.reduceAdd, Int.reduceSub, Int.reduceMul, Int.reduceLT, Int.reduceLE, Int.reduceEq, rX, dg_cells, dg_fold, List.drop_succ_cons]
    refine app_bytes (xs := []) h1 (by simp; omega) fun o2 s2 h2 => ?_
    simp (dsimp := false) (implicitDefEqProofs := false) (maxSteps := 1000000) (disch := first | omega | assumption | (simp only [rL, Nat.reduceAdd]; done) | (simp only [rL, Nat.reduceAdd]; omega)) only [↓rD, rU, ev, ofConst, ofCell, ↓reduceIte, Nat.reduceEqDiff, Nat.reduceAdd, Nat.reduceSub, Nat.reduceMul, Nat.reduceLeDiff, Nat.reduceLT, Int.reduceNeg, Int.reduceToNat, Int.reduceAdd, Int.reduceSub, Int.reduceMul, Int.reduceLT, Int.reduceLE, Int.reduceEq, rX, dg_cells, dg_fold, List.drop_succ_cons, List.nil_append]
    exact ⟨s2, Hp.sub_refl, o2, by simpa using h2, rfl⟩

theorem wbytes_spec (s0 s : Hp) (l : Nat) (bs : List UInt8) (h : WS s0 l bs s) (hb : bs.length ≤ 70368744177664) :
    AC Try.prog 48 [.ptr l 0] s fun r s' => ∃ o', Owned s s' 1 (bs.map byteAV) o' ∧ r = .sl (bs.map byteAV) o' := by
  obtain ⟨ow, h⟩ := h
  have g := h.sub _ _ (Hp.set_same _ _ _)
  refine AC_run hm prep48 (by simp) ?_
  simp (dsimp := false) (implicitDefEqProofs := false) (maxSteps := 1000000) (disch := first | omega | assumption | (simp only [rL, Nat.reduceAdd]; done) | (simp only [rL, Nat.reduceAdd]; omega)) only [↓rD, rU, ev, ofConst, ofCell, ↓reduceIte, Nat.reduceEqDiff, Nat.reduceAdd, Nat.reduceSub, Nat.reduceMul, Nat.reduceLeDiff, Nat.reduceLT, Int.reduceNeg, Int.reduceToNat, Int.reduceAdd, Int.reduceSub, Int.reduceMul, Int.reduceLT, Int.reduceLE, Int.reduceEq, rX, dg_cells, dg_fold, List.drop_succ_cons, Hp.read_of g, ne_eq, not_true_eq_false]
  refine call_intro (clone_spec bs ow s (fun hn => ?_) hb) ?_
  · subst hn; have := h.2; simpa using this
  rintro _ s1 ⟨o1, h1, rfl⟩
  simp (dsimp := false) (implicitDefEqProofs := false) (maxSteps := 1000000) (disch := first | omega | assumption | (simp only [rL, Nat.reduceAdd]; done) | (simp only [rL, Nat.reduceAdd]; omega)) only [↓rD, rU, ev, ofConst, ofCell, ↓reduceIte, Nat.reduceEqDiff, Nat.reduceAdd, Nat.reduceSub, Nat.reduceMul, Nat.reduceLeDiff, Nat.reduceLT, Int.reduceNeg, Int.reduceToNat, Int.reduceAdd, Int.reduceSub, Int.reduceMul, Int.reduceLT, Int.reduceLE, Int.reduceEq, rX, dg_cells, dg_fold, List.drop_succ_cons]
  exact ⟨s1, Hp.sub_refl, o1, h1, rfl⟩
end Go.Proofs.Ytapjikladjoicaa
set_option maxRecDepth 100000
namespace Go.Av
open Go
theorem slcRA_at {s : Hp} {n l off : Nat} {cs : List AV} (h : s l = some (.ro cs)) (h2 : off + n ≤ cs.length) : slcRA 1 n s (.ptr l off) = some (.sl ((cs.drop off).take n) .any) := by
  simp [slcRA, h, h2, elemsOf]
end Go.Av
namespace Go.Proofs.Ytapjikladjoicaa
open Go Go.Av

def opC (n : Int) (h d : List UInt8) : List AV := .v (.int .i64 n) :: (h.map byteAV ++ d.map byteAV)
/-- an opening -/
def OPV (n : Int) (h d : List UInt8) : AV := .agg (opC n h d)
def digPre (n : Int) (h d : List UInt8) : List UInt8 := preB 68 [numB n, h, d]
theorem digPre_length (n : Int) (h d : List UInt8) (hh : h.length = 32) (hd : d.length = 32) : (digPre n h d).length = 97 := by simp [digPre, preB, chunk, eightB, numB, hh, hd]
theorem opC_length {n : Int} {h d : List UInt8} (hh : h.length = 32) (hd : d.length = 32) : (opC n h d).length = 65 := by simp [opC, hh, hd]
theorem opC_h {n : Int} {h d : List UInt8} (hh : h.length = 32) : ((opC n h d).drop 1).take 32 = h.map byteAV := by
  simp only [opC, List.drop_succ_cons, List.drop_zero]
  rw [show (32 : Nat) = (h.map byteAV).length by simp [hh], List.take_left]
theorem opC_d {n : Int} {h d : List UInt8} (hh : h.length = 32) (hd : d.length = 32) : ((opC n h d).drop 33).take 32 = d.map byteAV := by
  simp only [opC, List.drop_succ_cons]
  rw [show (32 : Nat) = (h.map byteAV).length by simp [hh], List.drop_left, List.take_of_length_le (by simp [hd, hh])]

theorem digPre_spec (n : Int) (h d : List UInt8) (hh : h.length = 32) (hd : d.length = 32) (s : Hp) :
    AC Try.prog 56 [OPV n h d] s fun r s' => ∃ o, Owned s s' 1 ((digPre n h d).map byteAV) o ∧ r = .sl ((digPre n h d).map byteAV) o := by
  refine AC_run hm prep56 (by simp) ?_
  have hc : (OPV n h d).cells = opC n h d := rfl
  have hl := opC_length (n := n) hh hd
  simp (dsimp := false) (implicitDefEqProofs := false) (maxSteps := 1000000) (disch := first | omega | assumption | (simp only [rL, Nat.reduceAdd]; done) | (simp only [rL, Nat.reduceAdd]; omega)) only [↓rD, rU, ev, ofConst, ofCell, ↓reduceIte, Nat.reduceEqDiff, Nat.reduceAdd, Nat.reduceSub, Nat.reduceMul, Nat.reduceLeDiff, Nat.reduceLT, Int.reduceNeg, Int.reduceToNat, Int.reduceAdd, Int.reduceSub, Int.reduceMul, Int.reduceLT, Int.reduceLE, Int.reduceEq, rX, dg_cells, dg_fold, List.drop_succ_cons, hc, hl]
  refine newK_intro fun l1 n1 => ?_
  simp (dsimp := false) (implicitDefEqProofs := false) (maxSteps := 1000000) (disch := first | omega | assumption | (simp only [rL, Nat.reduceAdd]; done) | (simp only [rL, Nat.reduceAdd]; omega)) only [↓rD, rU, ev, ofConst, ofCell, ↓reduceIte, Nat.reduceEqDiff, Nat.reduceAdd, Nat.reduceSub, Nat.reduceMul, Nat.reduceLeDiff, Nat.reduceLT, Int.reduceNeg, Int.reduceToNat, Int.reduceAdd, Int.reduceSub, Int.reduceMul, Int.reduceLT, Int.reduceLE, Int.reduceEq, rX, dg_cells, dg_fold, List.drop_succ_cons, hc, hl]
  refine newK_intro fun l3 n3 => ?_
  obtain ⟨d31, e3⟩ := Hp.set_none n3
  have hm0 : mkv false 1 (opC n h d) = .v (.int .i64 n) := rfl
  simp (dsimp := false) (implicitDefEqProofs := false) (maxSteps := 1000000) (disch := first | omega | assumption | (simp only [rL, Nat.reduceAdd]; done) | (simp only [rL, Nat.reduceAdd]; omega)) only [↓rD, rU, ev, ofConst, ofCell, ↓reduceIte, Nat.reduceEqDiff, Nat.reduceAdd, Nat.reduceSub, Nat.reduceMul, Nat.reduceLeDiff, Nat.reduceLT, Int.reduceNeg, Int.reduceToNat, Int.reduceAdd, Int.reduceSub, Int.reduceMul, Int.reduceLT, Int.reduceLE, Int.reduceEq, rX, dg_cells, dg_fold, List.drop_succ_cons, hc, hl, hm0, Ne.symm d31]
  have hW : WS (s.set l1 (.ro (opC n h d))) l3 [] ((s.set l1 (.ro (opC n h d))).set l3 (.cells [.sl [] .nil, .v (.int .i64 0)])) := ⟨.nil, Owned.nil Hp.sub_refl⟩
  refine call_intro (num_spec _ _ l3 [] n hW (by simp)) ?_
  intro r s1 hW
  rw [List.nil_append] at hW
  have g1 : s1 l1 = some (.ro (opC n h d)) := by
    obtain ⟨ow, hO⟩ := hW
    exact hO.sub _ _ (by rw [Hp.set_ne _ _ (Ne.symm d31)]; exact Hp.set_same _ _ _)
  have hs1 : s.sub s1 := by
    obtain ⟨ow, hO⟩ := hW
    exact Hp.sub_trans (Hp.sub_new (Hp.sub_new Hp.sub_refl n1) e3) hO.sub
  have k1 : slcRA 1 32 s1 (.ptr l1 1) = some (.sl (h.map byteAV) .any) := by rw [slcRA_at g1 (by omega), opC_h hh]
  have k2 : slcRA 1 32 s1 (.ptr l1 33) = some (.sl (d.map byteAV) .any) := by rw [slcRA_at g1 (by omega), opC_d hh hd]
  simp (dsimp := false) (implicitDefEqProofs := false) (maxSteps := 1000000) (disch := first | omega | assumption | (simp only [rL, Nat.reduceAdd]; done) | (simp only [rL, Nat.reduceAdd]; omega)) only [↓rD, rU, ev, ofConst, ofCell, ↓reduceIte, Nat.reduceEqDiff, Nat.reduceAdd, Nat.reduceSub, Nat.reduceMul, Nat.reduceLeDiff, Nat.reduceLT, Int.reduceNeg, Int.reduceToNat, Int.reduceAdd, Int.reduceSub, Int.reduceMul, Int.reduceLT, Int.reduceLE, Int.reduceEq, rX, dg_cells, dg_fold, List.drop_succ_cons, k1, k2]
  refine call_intro (wbytes_spec _ s1 l3 (numB n) hW (by simp [numB, eightB])) ?_
  rintro _ s2 ⟨o2, h2, rfl⟩
  have g2 := h2.sub _ _ g1
  have k3 : slcRA 1 32 s2 (.ptr l1 1) = some (.sl (h.map byteAV) .any) := by rw [slcRA_at g2 (by omega), opC_h hh]
  have k4 : slcRA 1 32 s2 (.ptr l1 33) = some (.sl (d.map byteAV) .any) := by rw [slcRA_at g2 (by omega), opC_d hh hd]
  simp (dsimp := false) (implicitDefEqProofs := false) (maxSteps := 1000000) (disch := first | omega | assumption | (simp only [rL, Nat.reduceAdd]; done) | (simp only [rL, Nat.reduceAdd]; omega)) only [↓rD, rU, ev, ofConst, ofCell, ↓reduceIte, Nat.reduceEqDiff, Nat.reduceAdd, Nat.reduceSub, Nat.reduceMul, Nat.reduceLeDiff, Nat.reduceLT, Int.reduceNeg, Int.reduceToNat, Int.reduceAdd, Int.reduceSub, Int.reduceMul, Int.reduceLT, Int.reduceLE, Int.reduceEq, rX, dg_cells, dg_fold, List.drop_succ_cons, k3, k4]
  refine bsl_own Hp.sub_refl (by simp [allLen, AV.cells]) fun o3 s3 h3 => ?_
  simp (dsimp := false) (implicitDefEqProofs := false) (maxSteps := 1000000) (disch := first | omega | assumption | (simp only [rL, Nat.reduceAdd]; done) | (simp only [rL, Nat.reduceAdd]; omega)) only [↓rD, rU, ev, ofConst, ofCell, ↓reduceIte, Nat.reduceEqDiff, Nat.reduceAdd, Nat.reduceSub, Nat.reduceMul, Nat.reduceLeDiff, Nat.reduceLT, Int.reduceNeg, Int.reduceToNat, Int.reduceAdd, Int.reduceSub, Int.reduceMul, Int.reduceLT, Int.reduceLE, Int.reduceEq, rX, dg_cells, dg_fold, List.drop_succ_cons]
  have hlen := digPre_length n h d hh hd
  refine call_intro (pre_spec 68 [(numB n, o2), (h, .any), (d, .any)] o3 (by simp only [digPre] at hlen; simp only [List.map_cons, List.map_nil, hlen]; omega) _) ?_
  rintro _ s4 ⟨o4, h4, rfl⟩
  simp (dsimp := false) (implicitDefEqProofs := false) (maxSteps := 1000000) (disch := first | omega | assumption | (simp only [rL, Nat.reduceAdd]; done) | (simp only [rL, Nat.reduceAdd]; omega)) only [↓rD, rU, ev, ofConst, ofCell, ↓reduceIte, Nat.reduceEqDiff, Nat.reduceAdd, Nat.reduceSub, Nat.reduceMul, Nat.reduceLeDiff, Nat.reduceLT, Int.reduceNeg, Int.reduceToNat, Int.reduceAdd, Int.reduceSub, Int.reduceMul, Int.reduceLT, Int.reduceLE, Int.reduceEq, rX, dg_cells, dg_fold, List.drop_succ_cons]
  exact ⟨s4, Hp.sub_refl, o4, h4.base (Hp.sub_trans hs1 (Hp.sub_trans h2.sub h3.sub)), rfl⟩
end Go.Proofs.Ytapjikladjoicaa
set_option maxRecDepth 100000
namespace Go.Proofs.Ytapjikladjoicaa
open Go Go.Av

theorem op_fold {n : Int} {h d : List UInt8} (hh : h.length = 32) (hd : d.length = 32) : (.agg ((opC n h d).take 65) : AV) = OPV n h d := by
  rw [List.take_of_length_le (by rw [opC_length hh hd]; omega)]; rfl

theorem bdigest_spec (n : Int) (h d : List UInt8) (hh : h.length = 32) (hd : d.length = 32) (s : Hp) :
    AC Try.prog 26 [OPV n h d] s fun r s' => s' = s ∧ r = dg (sha256 (digPre n h d)) := by
  refine AC_run hm prep26 (by simp) ?_
  have hc : (OPV n h d).cells = opC n h d := rfl
  have hl := opC_length (n := n) hh hd
  have hf := op_fold (n := n) hh hd
  simp (dsimp := false) (implicitDefEqProofs := false) (maxSteps := 1000000) (disch := first | omega | assumption | (simp only [rL, Nat.reduceAdd]; done) | (simp only [rL, Nat.reduceAdd]; omega)) only [↓rD, rU, ev, ofConst, ofCell, ↓reduceIte, Nat.reduceEqDiff, Nat.reduceAdd, Nat.reduceSub, Nat.reduceMul, Nat.reduceLeDiff, Nat.reduceLT, Int.reduceNeg, Int.reduceToNat, Int.reduceAdd, Int.reduceSub, Int.reduceMul, Int.reduceLT, Int.reduceLE, Int.reduceEq, rX, dg_cells, dg_fold, List.drop_succ_cons, hc, hl]
  refine newK_intro fun l1 n1 => ?_
  simp (dsimp := false) (implicitDefEqProofs := false) (maxSteps := 1000000) (disch := first | omega | assumption | (simp only [rL, Nat.reduceAdd]; done) | (simp only [rL, Nat.reduceAdd]; omega)) only [↓rD, rU, ev, ofConst, ofCell, ↓reduceIte, Nat.reduceEqDiff, Nat.reduceAdd, Nat.reduceSub, Nat.reduceMul, Nat.reduceLeDiff, Nat.reduceLT, Int.reduceNeg, Int.reduceToNat, Int.reduceAdd, Int.reduceSub, Int.reduceMul, Int.reduceLT, Int.reduceLE, Int.reduceEq, rX, dg_cells, dg_fold, List.drop_succ_cons, hc, hl]
  refine newK_intro fun l2 n2 => ?_
  obtain ⟨d21, e2⟩ := Hp.set_none n2
  simp (dsimp := false) (implicitDefEqProofs := false) (maxSteps := 1000000) (disch := first | omega | assumption | (simp only [rL, Nat.reduceAdd]; done) | (simp only [rL, Nat.reduceAdd]; omega)) only [↓rD, rU, ev, ofConst, ofCell, ↓reduceIte, Nat.reduceEqDiff, Nat.reduceAdd, Nat.reduceSub, Nat.reduceMul, Nat.reduceLeDiff, Nat.reduceLT, Int.reduceNeg, Int.reduceToNat, Int.reduceAdd, Int.reduceSub, Int.reduceMul, Int.reduceLT, Int.reduceLE, Int.reduceEq, rX, dg_cells, dg_fold, List.drop_succ_cons, hc, hl, Ne.symm d21, hf]
  refine call_intro (digPre_spec n h d hh hd _) ?_
  rintro _ s1 ⟨o1, h1, rfl⟩
  simp (dsimp := false) (implicitDefEqProofs := false) (maxSteps := 1000000) (disch := first | omega | assumption | (simp only [rL, Nat.reduceAdd]; done) | (simp only [rL, Nat.reduceAdd]; omega)) only [↓rD, rU, ev, ofConst, ofCell, ↓reduceIte, Nat.reduceEqDiff, Nat.reduceAdd, Nat.reduceSub, Nat.reduceMul, Nat.reduceLeDiff, Nat.reduceLT, Int.reduceNeg, Int.reduceToNat, Int.reduceAdd, Int.reduceSub, Int.reduceMul, Int.reduceLT, Int.reduceLE, Int.reduceEq, rX, dg_cells, dg_fold, List.drop_succ_cons]
  refine call_intro (sum_spec (digPre n h d) o1 (by rw [digPre_length n h d hh hd]; omega) _) ?_
  rintro _ _ ⟨rfl, rfl⟩
  have g2 := h1.sub _ _ (Hp.set_same _ _ _)
  have hq := sha256_length (digPre n h d)
  generalize sha256 (digPre n h d) = e at *
  simp (dsimp := false) (implicitDefEqProofs := false) (maxSteps := 1000000) (disch := first | omega | assumption | (simp only [rL, Nat.reduceAdd]; done) | (simp only [rL, Nat.reduceAdd]; omega)) only [↓rD, rU, ev, ofConst, ofCell, ↓reduceIte, Nat.reduceEqDiff, Nat.reduceAdd, Nat.reduceSub, Nat.reduceMul, Nat.reduceLeDiff, Nat.reduceLT, Int.reduceNeg, Int.reduceToNat, Int.reduceAdd, Int.reduceSub, Int.reduceMul, Int.reduceLT, Int.reduceLE, Int.reduceEq, rX, dg_cells, dg_fold, List.drop_succ_cons, hq, Hp.stA_of g2, Hp.read_of g2]
  exact ⟨s, Hp.sub_new (Hp.sub_trans (Hp.sub_new (Hp.sub_new Hp.sub_refl n1) e2) h1.sub) e2, rfl⟩

theorem lsum_spec (n : Int) (h d : List UInt8) (hh : h.length = 32) (hd : d.length = 32) (s : Hp) :
    AC Try.prog 9 [OPV n h d] s fun r s' => s' = s ∧ r = dg (sha256 (digPre n h d)) := by
  refine AC_run hm prep9 (by simp) ?_
  have hc : (OPV n h d).cells = opC n h d := rfl
  have hl := opC_length (n := n) hh hd
  have hf := op_fold (n := n) hh hd
  simp (dsimp := false) (implicitDefEqProofs := false) (maxSteps := 1000000) (disch := first | omega | assumption | (simp only [rL, Nat.reduceAdd]; done) | (simp only [rL, Nat.reduceAdd]; omega)) only [↓rD, rU, ev, ofConst, ofCell, ↓reduceIte, Nat.reduceEqDiff, Nat.reduceAdd, Nat.reduceSub, Nat.reduceMul, Nat.reduceLeDiff, Nat.reduceLT, Int.reduceNeg, Int.reduceToNat, Int.reduceAdd, Int.reduceSub, Int.reduceMul, Int.reduceLT, Int.reduceLE, Int.reduceEq, rX, dg_cells, dg_fold, List.drop_succ_cons, hc, hl]
  refine newK_intro fun l1 n1 => ?_
  simp (dsimp := false) (implicitDefEqProofs := false) (maxSteps := 1000000) (disch := first | omega | assumption | (simp only [rL, Nat.reduceAdd]; done) | (simp only [rL, Nat.reduceAdd]; omega)) only [↓rD, rU, ev, ofConst, ofCell, ↓reduceIte, Nat.reduceEqDiff, Nat.reduceAdd, Nat.reduceSub, Nat.reduceMul, Nat.reduceLeDiff, Nat.reduceLT, Int.reduceNeg, Int.reduceToNat, Int.reduceAdd, Int.reduceSub, Int.reduceMul, Int.reduceLT, Int.reduceLE, Int.reduceEq, rX, dg_cells, dg_fold, List.drop_succ_cons, hc, hl]
  refine newK_intro fun l2 n2 => ?_
  obtain ⟨d21, e2⟩ := Hp.set_none n2
  simp (dsimp := false) (implicitDefEqProofs := false) (maxSteps := 1000000) (disch := first | omega | assumption | (simp only [rL, Nat.reduceAdd]; done) | (simp only [rL, Nat.reduceAdd]; omega)) only [↓rD, rU, ev, ofConst, ofCell, ↓reduceIte, Nat.reduceEqDiff, Nat.reduceAdd, Nat.reduceSub, Nat.reduceMul, Nat.reduceLeDiff, Nat.reduceLT, Int.reduceNeg, Int.reduceToNat, Int.reduceAdd, Int.reduceSub, Int.reduceMul, Int.reduceLT, Int.reduceLE, Int.reduceEq, rX, dg_cells, dg_fold, List.drop_succ_cons, hc, hl, Ne.symm d21, hf]
  refine call_intro (bdigest_spec n h d hh hd _) ?_
  rintro _ _ ⟨rfl, rfl⟩
  have hq := sha256_length (digPre n h d)
  generalize sha256 (digPre n h d) = e at *
  simp (dsimp := false) (implicitDefEqProofs := false) (maxSteps := 1000000) (disch := first | omega | assumption | (simp only [rL, Nat.reduceAdd]; done) | (simp only [rL, Nat.reduceAdd]; omega)) only [↓rD, rU, ev, ofConst, ofCell, ↓reduceIte, Nat.reduceEqDiff, Nat.reduceAdd, Nat.reduceSub, Nat.reduceMul, Nat.reduceLeDiff, Nat.reduceLT, Int.reduceNeg, Int.reduceToNat, Int.reduceAdd, Int.reduceSub, Int.reduceMul, Int.reduceLT, Int.reduceLE, Int.reduceEq, rX, dg_cells, dg_fold, List.drop_succ_cons, hq]
  exact ⟨s, Hp.sub_new (Hp.sub_new Hp.sub_refl n1) e2, rfl⟩
end Go.Proofs.Ytapjikladjoicaa
set_option maxRecDepth 100000
namespace Go.Proofs.Ytapjikladjoicaa
open Go Go.Av

def rightN (n : Int) : Bool := decide (0 ≤ n) && decide (n ≤ 1099511627776)
theorem opc0 {n : Int} {h d : List UInt8} : mkv false 1 (opC n h d) = .v (.int .i64 n) := rfl

theorem right_spec (n : Int) (h d : List UInt8) (hh : h.length = 32) (hd : d.length = 32) (s : Hp) :
    AC Try.prog 27 [OPV n h d] s fun r s' => s' = s ∧ r = .v (.bool (rightN n)) := by
  refine AC_run hm prep27 (by simp) ?_
  have hc : (OPV n h d).cells = opC n h d := rfl
  have hl := opC_length (n := n) hh hd
  simp (dsimp := false) (implicitDefEqProofs := false) (maxSteps := 1000000) (disch := first | omega | assumption | (simp only [rL, Nat.reduceAdd]; done) | (simp only [rL, Nat.reduceAdd]; omega)) only [↓rD, rU, ev, ofConst, ofCell, ↓reduceIte, Nat.reduceEqDiff, Nat.reduceAdd, Nat.reduceSub, Nat.reduceMul, Nat.reduceLeDiff, Nat.reduceLT, Int.reduceNeg, Int.reduceToNat, Int.reduceAdd, Int.reduceSub, Int.reduceMul, Int.reduceLT, Int.reduceLE, Int.reduceEq, rX, dg_cells, dg_fold, List.drop_succ_cons, hc, hl]
  refine newK_intro fun l1 n1 => ?_
  simp (dsimp := false) (implicitDefEqProofs := false) (maxSteps := 1000000) (disch := first | omega | assumption | (simp only [rL, Nat.reduceAdd]; done) | (simp only [rL, Nat.reduceAdd]; omega)) only [↓rD, rU, ev, ofConst, ofCell, ↓reduceIte, Nat.reduceEqDiff, Nat.reduceAdd, Nat.reduceSub, Nat.reduceMul, Nat.reduceLeDiff, Nat.reduceLT, Int.reduceNeg, Int.reduceToNat, Int.reduceAdd, Int.reduceSub, Int.reduceMul, Int.reduceLT, Int.reduceLE, Int.reduceEq, rX, dg_cells, dg_fold, List.drop_succ_cons, hc, hl, opc0]
  by_cases c : 0 ≤ n
  · simp (dsimp := false) (implicitDefEqProofs := false) (maxSteps := 1000000) (disch := first | omega | assumption | (simp only [rL, Nat.reduceAdd]; done) | (simp only [rL, Nat.reduceAdd]; omega)) only [↓rD, rU, ev, ofConst, ofCell, ↓reduceIte, Nat.reduceEqDiff, Nat.reduceAdd, Nat.reduceSub, Nat.reduceMul, Nat.reduceLeDiff, Nat.reduceLT, Int.reduceNeg, Int.reduceToNat, Int.reduceAdd, Int.reduceSub, Int.reduceMul, Int.reduceLT, Int.reduceLE, Int.reduceEq, rX, dg_cells, dg_fold, List.drop_succ_cons, hc, hl, opc0, c]
    exact ⟨s, Hp.sub_new Hp.sub_refl n1, rfl, by simp [rightN, c]⟩
  · simp (dsimp := false) (implicitDefEqProofs := false) (maxSteps := 1000000) (disch := first | omega | assumption | (simp only [rL, Nat.reduceAdd]; done) | (simp only [rL, Nat.reduceAdd]; omega)) only [↓rD, rU, ev, ofConst, ofCell, ↓reduceIte, Nat.reduceEqDiff, Nat.reduceAdd, Nat.reduceSub, Nat.reduceMul, Nat.reduceLeDiff, Nat.reduceLT, Int.reduceNeg, Int.reduceToNat, Int.reduceAdd, Int.reduceSub, Int.reduceMul, Int.reduceLT, Int.reduceLE, Int.reduceEq, rX, dg_cells, dg_fold, List.drop_succ_cons, hc, hl, opc0, c]
    exact ⟨s, Hp.sub_new Hp.sub_refl n1, rfl, by simp [rightN, c]⟩
end Go.Proofs.Ytapjikladjoicaa
set_option maxRecDepth 100000
namespace Go.Proofs.Ytapjikladjoicaa
open Go Go.Av

theorem op_zero : [AV.v (.int .i64 0)] ++ List.replicate 64 (.v (.int .u8 0)) = opC 0 zd zd := rfl
theorem opC_put0 {m n : Int} {h d : List UInt8} : putAt (opC m h d) 0 [.v (.int .i64 n)] = opC n h d := by simp [putAt, opC]
theorem opC_put1 {n : Int} {h d e : List UInt8} (hh : h.length = 32) (he : e.length = 32) : putAt (opC n h d) 1 (e.map byteAV) = opC n e d := by
  have h1 : (h.map byteAV).length = 32 := by simp [hh]
  simp [putAt, opC, he, List.drop_append, h1, List.drop_of_length_le]
theorem opC_put33 {n : Int} {h d e : List UInt8} (hh : h.length = 32) (hd : d.length = 32) (he : e.length = 32) : putAt (opC n h d) 33 (e.map byteAV) = opC n h e := by
  have h1 : (h.map byteAV).length = 32 := by simp [hh]
  simp [putAt, opC, he, hh, hd, h1, List.take_append, List.take_of_length_le, List.drop_of_length_le]

def headD (l : List (List UInt8)) (n : Nat) : List UInt8 := if n = 0 then zd else l.getD (n - 1) zd
theorem headD_length {l : List (List UInt8)} {n : Nat} (hd : Digs l) (hn : n ≤ l.length) : (headD l n).length = 32 := by
  unfold headD; split
  · rfl
  · have h : n - 1 < l.length := by omega
    simp only [List.getD, List.getElem?_eq_getElem h, Option.getD_some]
    exact hd _ (List.getElem_mem h)

theorem opened_spec (l : List (List UInt8)) (n : Nat) (o : Own) (s : Hp) (hn : n ≤ l.length) (hle : l.length ≤ 1000000) (hd : Digs l) :
    AC Try.prog 7 [.sl (l.map dg) o, .v (.int .i64 n)] s fun r s' => s' = s ∧ r = OPV n (rootD (l.take n)) (headD l n) := by
  refine AC_run hm prep7 (by simp) ?_
  rw [op_zero]
  have hall := hd.all
  have hle' : ((n : Nat) : Int) ≤ ((l.map dg).length : Nat) := by rw [List.length_map]; omega
  simp (dsimp := false) (implicitDefEqProofs := false) (maxSteps := 1000000) (disch := first | omega | assumption | (simp only [rL, Nat.reduceAdd]; done) | (simp only [rL, Nat.reduceAdd]; omega)) only [↓rD, rU, ev, ofConst, ofCell, ↓reduceIte, Nat.reduceEqDiff, Nat.reduceAdd, Nat.reduceSub, Nat.reduceMul, Nat.reduceLeDiff, Nat.reduceLT, Int.reduceNeg, Int.reduceToNat, Int.reduceAdd, Int.reduceSub, Int.reduceMul, Int.reduceLT, Int.reduceLE, Int.reduceEq, rX, dg_cells, dg_fold, List.drop_succ_cons]
  refine newK_intro fun l4 n4 => ?_
  simp (dsimp := false) (implicitDefEqProofs := false) (maxSteps := 1000000) (disch := first | omega | assumption | (simp only [rL, Nat.reduceAdd]; done) | (simp only [rL, Nat.reduceAdd]; omega)) only [↓rD, rU, ev, ofConst, ofCell, ↓reduceIte, Nat.reduceEqDiff, Nat.reduceAdd, Nat.reduceSub, Nat.reduceMul, Nat.reduceLeDiff, Nat.reduceLT, Int.reduceNeg, Int.reduceToNat, Int.reduceAdd, Int.reduceSub, Int.reduceMul, Int.reduceLT, Int.reduceLE, Int.reduceEq, rX, dg_cells, dg_fold, List.drop_succ_cons, mapd_take]
  refine call_intro (root_spec _ (l.take n) .any _ rfl (by rw [List.length_take]; omega) (hd.take n)) ?_
  rintro _ _ ⟨rfl, rfl⟩
  have hr := rootD_length (l.take n)
  generalize rootD (l.take n) = q at *
  have z0 : (opC 0 zd zd).length = 65 := rfl
  have z1 : (opC n zd zd).length = 65 := rfl
  have z2 : (opC n q zd).length = 65 := opC_length hr rfl
  simp (dsimp := false) (implicitDefEqProofs := false) (maxSteps := 1000000) (disch := first | omega | assumption | (simp only [rL, Nat.reduceAdd]; done) | (simp only [rL, Nat.reduceAdd]; omega)) only [↓rD, rU, ev, ofConst, ofCell, ↓reduceIte, Nat.reduceEqDiff, Nat.reduceAdd, Nat.reduceSub, Nat.reduceMul, Nat.reduceLeDiff, Nat.reduceLT, Int.reduceNeg, Int.reduceToNat, Int.reduceAdd, Int.reduceSub, Int.reduceMul, Int.reduceLT, Int.reduceLE, Int.reduceEq, rX, dg_cells, dg_fold, List.drop_succ_cons, z0, z1, z2, hr, opC_put0, opC_put1 zd_length hr]
  refine newK_intro fun l5 n5 => ?_
  obtain ⟨d54, e5⟩ := Hp.set_none n5
  have fin : ∀ x y : Ob, s.sub ((s.set l4 x).set l5 y) := fun x y => Hp.sub_new (Hp.sub_new Hp.sub_refl n4) e5
  have hcs (e : List UInt8) : (AV.agg (opC n q e)).cells = opC n q e := rfl
  by_cases h0 : n = 0
  · have c0 : ¬ (0 : Int) < (n : Nat) := by omega
    have hh : headD l n = zd := by rw [headD, if_pos h0]
    have tk : (opC n q zd).take 65 = opC n q zd := List.take_of_length_le (by rw [z2]; omega)
    simp (dsimp := false) (implicitDefEqProofs := false) (maxSteps := 1000000) (disch := first | omega | assumption | (simp only [rL, Nat.reduceAdd]; done) | (simp only [rL, Nat.reduceAdd]; omega)) only [↓rD, rU, ev, ofConst, ofCell, ↓reduceIte, Nat.reduceEqDiff, Nat.reduceAdd, Nat.reduceSub, Nat.reduceMul, Nat.reduceLeDiff, Nat.reduceLT, Int.reduceNeg, Int.reduceToNat, Int.reduceAdd, Int.reduceSub, Int.reduceMul, Int.reduceLT, Int.reduceLE, Int.reduceEq, rX, dg_cells, dg_fold, List.drop_succ_cons, z0, z2, hcs, c0, d54, Ne.symm d54, tk]
    exact ⟨s, fin _ _, rfl, by rw [hh]; rfl⟩
  · have c0 : (0 : Int) < (n : Nat) := by omega
    have hlt : n - 1 < l.length := by omega
    have hh : headD l n = l[n - 1] := by rw [headD, if_neg h0]; simp [List.getD, hlt]
    have en : (n : Int) - 1 = ((n - 1 : Nat) : Int) := by omega
    have he : (l.map dg)[n - 1]? = some (dg l[n - 1]) := by simp [hlt]
    have hx := hd l[n - 1] (List.getElem_mem hlt)
    rw [hh]
    generalize l[n - 1] = x at *
    have z3 : (opC n q x).length = 65 := opC_length hr hx
    have tk : (opC n q x).take 65 = opC n q x := List.take_of_length_le (by rw [z3]; omega)
    simp (dsimp := false) (implicitDefEqProofs := false) (maxSteps := 1000000) (disch := first | omega | assumption | (simp only [rL, Nat.reduceAdd]; done) | (simp only [rL, Nat.reduceAdd]; omega)) only [↓rD, rU, ev, ofConst, ofCell, ↓reduceIte, Nat.reduceEqDiff, Nat.reduceAdd, Nat.reduceSub, Nat.reduceMul, Nat.reduceLeDiff, Nat.reduceLT, Int.reduceNeg, Int.reduceToNat, Int.reduceAdd, Int.reduceSub, Int.reduceMul, Int.reduceLT, Int.reduceLE, Int.reduceEq, rX, dg_cells, dg_fold, List.drop_succ_cons, z0, z2, z3, hcs, tk, c0, d54, Ne.symm d54, en, iaSA_sl, he, elA_dg, hx, opC_put33 hr zd_length hx]
    exact ⟨s, fin _ _, rfl, rfl⟩
end Go.Proofs.Ytapjikladjoicaa
set_option maxRecDepth 100000
namespace Go.Proofs.Ytapjikladjoicaa
open Go Go.Av

/-- a follower's cells: opening, steps, fork -/
def FW (n : Int) (h d : List UInt8) (st : Int) (fk : AV) : List AV := opC n h d ++ [.v (.int .i64 st), fk]
theorem FW_length {n : Int} {h d : List UInt8} {st : Int} {fk : AV} (hh : h.length = 32) (hd : d.length = 32) : (FW n h d st fk).length = 67 := by simp [FW, opC, hh, hd]
theorem FW_op {n : Int} {h d : List UInt8} {st : Int} {fk : AV} (hh : h.length = 32) (hd : d.length = 32) : (FW n h d st fk).take 65 = opC n h d := by
  rw [FW, List.take_append_of_le_length (by rw [opC_length hh hd]; omega), List.take_of_length_le (by rw [opC_length hh hd]; omega)]
theorem FW_65 {n : Int} {h d : List UInt8} {st : Int} {fk : AV} (hh : h.length = 32) (hd : d.length = 32) : (FW n h d st fk).drop 65 = [.v (.int .i64 st), fk] := by
  rw [FW, show (65 : Nat) = (opC n h d).length from (opC_length hh hd).symm, List.drop_left]

theorem Steps_spec (s : Hp) (l : Nat) (n : Int) (h d : List UInt8) (st : Int) (fk : AV) (hh : h.length = 32) (hd : d.length = 32) (hs : s l = some (.cells (FW n h d st fk))) :
    AC Try.prog 13 [.ptr l 0] s fun r s' => s' = s ∧ r = .v (.int .i64 st) := by
  have hl := FW_length (n := n) (st := st) (fk := fk) hh hd
  refine AC_run hm prep13 (by simp) ?_
  simp (dsimp := false) (implicitDefEqProofs := false) (maxSteps := 1000000) (disch := first | omega | assumption | (simp only [rL, Nat.reduceAdd]; done) | (simp only [rL, Nat.reduceAdd]; omega)) only [↓rD, rU, ev, ofConst, ofCell, ↓reduceIte, Nat.reduceEqDiff, Nat.reduceAdd, Nat.reduceSub, Nat.reduceMul, Nat.reduceLeDiff, Nat.reduceLT, Int.reduceNeg, Int.reduceToNat, Int.reduceAdd, Int.reduceSub, Int.reduceMul, Int.reduceLT, Int.reduceLE, Int.reduceEq, rX, dg_cells, dg_fold, List.drop_succ_cons, Hp.read_of hs, hl, FW_65 hh hd]
  exact ⟨s, Hp.sub_refl, rfl⟩

theorem Opening_spec (s : Hp) (l : Nat) (n : Int) (h d : List UInt8) (st : Int) (fk : AV) (hh : h.length = 32) (hd : d.length = 32) (hs : s l = some (.cells (FW n h d st fk))) :
    AC Try.prog 11 [.ptr l 0] s fun r s' => s' = s ∧ r = OPV n h d := by
  have hl := FW_length (n := n) (st := st) (fk := fk) hh hd
  have hc : (AV.agg (opC n h d)).cells = opC n h d := rfl
  have ho := opC_length (n := n) hh hd
  have tk : (opC n h d).take 65 = opC n h d := List.take_of_length_le (by rw [ho]; omega)
  refine AC_run hm prep11 (by simp) ?_
  rw [op_zero]
  have z0 : (opC 0 zd zd).length = 65 := rfl
  simp (dsimp := false) (implicitDefEqProofs := false) (maxSteps := 1000000) (disch := first | omega | assumption | (simp only [rL, Nat.reduceAdd]; done) | (simp only [rL, Nat.reduceAdd]; omega)) only [↓rD, rU, ev, ofConst, ofCell, ↓reduceIte, Nat.reduceEqDiff, Nat.reduceAdd, Nat.reduceSub, Nat.reduceMul, Nat.reduceLeDiff, Nat.reduceLT, Int.reduceNeg, Int.reduceToNat, Int.reduceAdd, Int.reduceSub, Int.reduceMul, Int.reduceLT, Int.reduceLE, Int.reduceEq, rX, dg_cells, dg_fold, List.drop_succ_cons]
  refine newK_intro fun l2 n2 => ?_
  have d2 : l ≠ l2 := by rintro rfl; rw [n2] at hs; cases hs
  simp (dsimp := false) (implicitDefEqProofs := false) (maxSteps := 1000000) (disch := first | omega | assumption | (simp only [rL, Nat.reduceAdd]; done) | (simp only [rL, Nat.reduceAdd]; omega)) only [↓rD, rU, ev, ofConst, ofCell, ↓reduceIte, Nat.reduceEqDiff, Nat.reduceAdd, Nat.reduceSub, Nat.reduceMul, Nat.reduceLeDiff, Nat.reduceLT, Int.reduceNeg, Int.reduceToNat, Int.reduceAdd, Int.reduceSub, Int.reduceMul, Int.reduceLT, Int.reduceLE, Int.reduceEq, rX, dg_cells, dg_fold, List.drop_succ_cons, Hp.read_of hs, hl, d2, FW_op hh hd, hc, ho, z0, tk]
  exact ⟨s, Hp.sub_new Hp.sub_refl n2, rfl, rfl⟩
end Go.Proofs.Ytapjikladjoicaa
set_option maxRecDepth 100000
namespace Go.Proofs.Ytapjikladjoicaa
open Go Go.Av

/-- an opening's parts -/
structure Opn where
  n : Int
  h : List UInt8
  d : List UInt8
  deriving DecidableEq
def Opn.ok (o : Opn) : Prop := o.h.length = 32 ∧ o.d.length = 32
def Opn.C (o : Opn) : List AV := opC o.n o.h o.d
def Opn.V (o : Opn) : AV := OPV o.n o.h o.d
def Opn.sum (o : Opn) : List UInt8 := sha256 (digPre o.n o.h o.d)
/-- a follower -/
structure Fw where
  o : Opn
  st : Int
  fk : Option (Opn × Opn)
def Fw.ok (F : Fw) : Prop := F.o.ok ∧ ∀ a b, F.fk = some (a, b) → a.ok ∧ b.ok
def fwC (o : Opn) (st : Int) (p : AV) : List AV := FW o.n o.h o.d st p
theorem fwC_length {o : Opn} {st : Int} {p : AV} (ho : o.ok) : (fwC o st p).length = 67 := FW_length ho.1 ho.2
theorem fwC_op {o : Opn} {st : Int} {p : AV} (ho : o.ok) : (fwC o st p).take 65 = o.C := FW_op ho.1 ho.2
theorem fwC_65 {o : Opn} {st : Int} {p : AV} (ho : o.ok) : (fwC o st p).drop 65 = [.v (.int .i64 st), p] := FW_65 ho.1 ho.2
theorem fwC_66 {o : Opn} {st : Int} {p : AV} (ho : o.ok) : (fwC o st p).drop 66 = [p] := by
  rw [show (66 : Nat) = 65 + 1 from rfl, ← List.drop_drop, fwC_65 ho]; rfl
theorem Opn.lenC {o : Opn} (ho : o.ok) : o.C.length = 65 := opC_length ho.1 ho.2
theorem Opn.cells {o : Opn} : o.V.cells = o.C := rfl
theorem Opn.fold {o : Opn} (ho : o.ok) : (.agg (o.C.take 65) : AV) = o.V := op_fold ho.1 ho.2
theorem Opn.fold' {o : Opn} : (.agg o.C : AV) = o.V := rfl
/-- a follower at l, over the objects s0 -/
theorem fw_zero {o : Opn} (ho : o.ok) : putAt ([AV.v (Value.int IntKind.i64 0)] ++ List.replicate 64 (AV.v (Value.int IntKind.u8 0)) ++ [AV.v (Value.int IntKind.i64 0)] ++ [AV.v (Value.pointer none)]) 0 o.C = fwC o 0 (.v (.pointer none)) := by
  rw [putAt, Opn.lenC ho]; rfl
/-- a follower at l, over the objects s0 -/
def FS (s0 : Hp) (l : Nat) (F : Fw) (s : Hp) : Prop :=
  match F.fk with
  | none => (s0.set l (.cells (fwC F.o F.st (.v (.pointer none))))).sub s
  | some (a, b) => ∃ lf, s0 lf = none ∧ lf ≠ l ∧ ((s0.set l (.cells (fwC F.o F.st (.ptr lf 0)))).set lf (.cells (a.C ++ b.C))).sub s
theorem FS.get {s0 s : Hp} {l : Nat} {F : Fw} (h : FS s0 l F s) : ∃ p, s l = some (.cells (fwC F.o F.st p)) ∧ ((F.fk = none ∧ p = .v (.pointer none)) ∨ ∃ lf a b, F.fk = some (a, b) ∧ p = .ptr lf 0 ∧ s lf = some (.cells (a.C ++ b.C))) := by
  unfold FS at h
  split at h
  · rename_i e; exact ⟨_, h _ _ (Hp.set_same _ _ _), .inl ⟨e, rfl⟩⟩
  · rename_i a b e
    obtain ⟨lf, h1, h2, h3⟩ := h
    refine ⟨_, h3 _ _ ?_, .inr ⟨lf, a, b, e, rfl, h3 _ _ (Hp.set_same _ _ _)⟩⟩
    rw [Hp.set_ne _ _ (Ne.symm h2)]; exact Hp.set_same _ _ _
theorem FS.mono {s0 s s' : Hp} {l : Nat} {F : Fw} (h : FS s0 l F s) (hs : s.sub s') : FS s0 l F s' := by
  unfold FS at h ⊢
  split at h
  · exact Hp.sub_trans h hs
  · obtain ⟨lf, h1, h2, h3⟩ := h
    exact ⟨lf, h1, h2, Hp.sub_trans h3 hs⟩
theorem FS.sub {s0 s : Hp} {l : Nat} {F : Fw} (h : FS s0 l F s) (h0 : s0 l = none) : s0.sub s := by
  unfold FS at h
  split at h
  · exact Hp.sub_trans (Hp.sub_new Hp.sub_refl h0) h
  · obtain ⟨lf, h1, h2, h3⟩ := h
    refine Hp.sub_trans (Hp.sub_new (Hp.sub_new Hp.sub_refl h0) ?_) h3
    exact h1

theorem fdigest_spec (s : Hp) (l : Nat) (o : Opn) (st : Int) (p : AV) (ho : o.ok) (hs : s l = some (.cells (fwC o st p))) :
    AC Try.prog 28 [.ptr l 0] s fun r s' => s' = s ∧ r = dg o.sum := by
  have hl := fwC_length (st := st) (p := p) ho
  refine AC_run hm prep28 (by simp) ?_
  simp (dsimp := false) (implicitDefEqProofs := false) (maxSteps := 1000000) (disch := first | omega | assumption | (simp only [rL, Nat.reduceAdd]; done) | (simp only [rL, Nat.reduceAdd]; omega)) only [↓rD, rU, ev, ofConst, ofCell, ↓reduceIte, Nat.reduceEqDiff, Nat.reduceAdd, Nat.reduceSub, Nat.reduceMul, Nat.reduceLeDiff, Nat.reduceLT, Int.reduceNeg, Int.reduceToNat, Int.reduceAdd, Int.reduceSub, Int.reduceMul, Int.reduceLT, Int.reduceLE, Int.reduceEq, rX, dg_cells, dg_fold, List.drop_succ_cons]
  refine newK_intro fun l2 n2 => ?_
  have d2 : l ≠ l2 := by rintro rfl; rw [n2] at hs; cases hs
  simp (dsimp := false) (implicitDefEqProofs := false) (maxSteps := 1000000) (disch := first | omega | assumption | (simp only [rL, Nat.reduceAdd]; done) | (simp only [rL, Nat.reduceAdd]; omega)) only [↓rD, rU, ev, ofConst, ofCell, ↓reduceIte, Nat.reduceEqDiff, Nat.reduceAdd, Nat.reduceSub, Nat.reduceMul, Nat.reduceLeDiff, Nat.reduceLT, Int.reduceNeg, Int.reduceToNat, Int.reduceAdd, Int.reduceSub, Int.reduceMul, Int.reduceLT, Int.reduceLE, Int.reduceEq, rX, dg_cells, dg_fold, List.drop_succ_cons, Hp.read_of hs, hl, d2, fwC_op ho]
  refine call_intro (bdigest_spec o.n o.h o.d ho.1 ho.2 _) ?_
  rintro _ _ ⟨rfl, rfl⟩
  have hq := sha256_length (digPre o.n o.h o.d)
  unfold Opn.sum
  generalize sha256 (digPre o.n o.h o.d) = e at *
  simp (dsimp := false) (implicitDefEqProofs := false) (maxSteps := 1000000) (disch := first | omega | assumption | (simp only [rL, Nat.reduceAdd]; done) | (simp only [rL, Nat.reduceAdd]; omega)) only [↓rD, rU, ev, ofConst, ofCell, ↓reduceIte, Nat.reduceEqDiff, Nat.reduceAdd, Nat.reduceSub, Nat.reduceMul, Nat.reduceLeDiff, Nat.reduceLT, Int.reduceNeg, Int.reduceToNat, Int.reduceAdd, Int.reduceSub, Int.reduceMul, Int.reduceLT, Int.reduceLE, Int.reduceEq, rX, dg_cells, dg_fold, List.drop_succ_cons, hq]
  exact ⟨s, Hp.sub_new Hp.sub_refl n2, rfl⟩

theorem Follow_spec (d : List UInt8) (o : Opn) (hd : d.length = 32) (ho : o.ok) (s : Hp) :
    AC Try.prog 8 [dg d, o.V] s fun r s' =>
      if o.sum ≠ d then s' = s ∧ r = .tup [.v (.pointer none), .v (.int .i64 41)]
      else if rightN o.n = false then s' = s ∧ r = .tup [.v (.pointer none), .v (.int .i64 1)]
      else ∃ l, s l = none ∧ r = .tup [.ptr l 0, .v (.int .i64 0)] ∧ s' = s.set l (.cells (fwC o 0 (.v (.pointer none)))) := by
  refine AC_run hm prep8 (by simp) ?_
  have hc := Opn.cells (o := o)
  have hl := Opn.lenC ho
  have hf := Opn.fold ho
  simp (dsimp := false) (implicitDefEqProofs := false) (maxSteps := 1000000) (disch := first | omega | assumption | (simp only [rL, Nat.reduceAdd]; done) | (simp only [rL, Nat.reduceAdd]; omega)) only [↓rD, rU, ev, ofConst, ofCell, ↓reduceIte, Nat.reduceEqDiff, Nat.reduceAdd, Nat.reduceSub, Nat.reduceMul, Nat.reduceLeDiff, Nat.reduceLT, Int.reduceNeg, Int.reduceToNat, Int.reduceAdd, Int.reduceSub, Int.reduceMul, Int.reduceLT, Int.reduceLE, Int.reduceEq, rX, dg_cells, dg_fold, List.drop_succ_cons, hd]
  refine newK_intro fun l2 n2 => ?_
  simp (dsimp := false) (implicitDefEqProofs := false) (maxSteps := 1000000) (disch := first | omega | assumption | (simp only [rL, Nat.reduceAdd]; done) | (simp only [rL, Nat.reduceAdd]; omega)) only [↓rD, rU, ev, ofConst, ofCell, ↓reduceIte, Nat.reduceEqDiff, Nat.reduceAdd, Nat.reduceSub, Nat.reduceMul, Nat.reduceLeDiff, Nat.reduceLT, Int.reduceNeg, Int.reduceToNat, Int.reduceAdd, Int.reduceSub, Int.reduceMul, Int.reduceLT, Int.reduceLE, Int.reduceEq, rX, dg_cells, dg_fold, List.drop_succ_cons, hc, hl]
  refine newK_intro fun l3 n3 => ?_
  obtain ⟨d32, e3⟩ := Hp.set_none n3
  have fin := Hp.sub_new (o := .cells (o.C)) (Hp.sub_new (o := .cells (d.map byteAV)) (Hp.sub_refl (s := s)) n2) e3
  simp (dsimp := false) (implicitDefEqProofs := false) (maxSteps := 1000000) (disch := first | omega | assumption | (simp only [rL, Nat.reduceAdd]; done) | (simp only [rL, Nat.reduceAdd]; omega)) only [↓rD, rU, ev, ofConst, ofCell, ↓reduceIte, Nat.reduceEqDiff, Nat.reduceAdd, Nat.reduceSub, Nat.reduceMul, Nat.reduceLeDiff, Nat.reduceLT, Int.reduceNeg, Int.reduceToNat, Int.reduceAdd, Int.reduceSub, Int.reduceMul, Int.reduceLT, Int.reduceLE, Int.reduceEq, rX, dg_cells, dg_fold, List.drop_succ_cons, hc, hl, hf, hd, d32, Ne.symm d32]
  refine call_intro (bdigest_spec o.n o.h o.d ho.1 ho.2 _) ?_
  rintro _ _ ⟨rfl, rfl⟩
  have hq := sha256_length (digPre o.n o.h o.d)
  unfold Opn.sum
  generalize sha256 (digPre o.n o.h o.d) = e at *
  simp (dsimp := false) (implicitDefEqProofs := false) (maxSteps := 1000000) (disch := first | omega | assumption | (simp only [rL, Nat.reduceAdd]; done) | (simp only [rL, Nat.reduceAdd]; omega)) only [↓rD, rU, ev, ofConst, ofCell, ↓reduceIte, Nat.reduceEqDiff, Nat.reduceAdd, Nat.reduceSub, Nat.reduceMul, Nat.reduceLeDiff, Nat.reduceLT, Int.reduceNeg, Int.reduceToNat, Int.reduceAdd, Int.reduceSub, Int.reduceMul, Int.reduceLT, Int.reduceLE, Int.reduceEq, rX, dg_cells, dg_fold, List.drop_succ_cons, hc, hl, hf, hd, hq, d32, Ne.symm d32, eqvK_dg, Bool.true_xor]
  by_cases c : e = d
  · subst c
    simp (dsimp := false) (implicitDefEqProofs := false) (maxSteps := 1000000) (disch := first | omega | assumption | (simp only [rL, Nat.reduceAdd]; done) | (simp only [rL, Nat.reduceAdd]; omega)) only [↓rD, rU, ev, ofConst, ofCell, ↓reduceIte, Nat.reduceEqDiff, Nat.reduceAdd, Nat.reduceSub, Nat.reduceMul, Nat.reduceLeDiff, Nat.reduceLT, Int.reduceNeg, Int.reduceToNat, Int.reduceAdd, Int.reduceSub, Int.reduceMul, Int.reduceLT, Int.reduceLE, Int.reduceEq, rX, dg_cells, dg_fold, List.drop_succ_cons, decide_true, Bool.not_true, hc, hl, hf]
    refine call_intro (right_spec o.n o.h o.d ho.1 ho.2 _) ?_
    rintro _ _ ⟨rfl, rfl⟩
    cases hr : rightN o.n
    · simp (dsimp := false) (implicitDefEqProofs := false) (maxSteps := 1000000) (disch := first | omega | assumption | (simp only [rL, Nat.reduceAdd]; done) | (simp only [rL, Nat.reduceAdd]; omega)) only [↓rD, rU, ev, ofConst, ofCell, ↓reduceIte, Nat.reduceEqDiff, Nat.reduceAdd, Nat.reduceSub, Nat.reduceMul, Nat.reduceLeDiff, Nat.reduceLT, Int.reduceNeg, Int.reduceToNat, Int.reduceAdd, Int.reduceSub, Int.reduceMul, Int.reduceLT, Int.reduceLE, Int.reduceEq, rX, dg_cells, dg_fold, List.drop_succ_cons, Bool.not_false]
      exact ⟨s, fin, by simp⟩
    · have hz := fw_zero ho
      have hz1 := fwC_length (st := 0) (p := .v (.pointer none)) ho
      simp (dsimp := false) (implicitDefEqProofs := false) (maxSteps := 1000000) (disch := first | omega | assumption | (simp only [rL, Nat.reduceAdd]; done) | (simp only [rL, Nat.reduceAdd]; omega)) only [↓rD, rU, ev, ofConst, ofCell, ↓reduceIte, Nat.reduceEqDiff, Nat.reduceAdd, Nat.reduceSub, Nat.reduceMul, Nat.reduceLeDiff, Nat.reduceLT, Int.reduceNeg, Int.reduceToNat, Int.reduceAdd, Int.reduceSub, Int.reduceMul, Int.reduceLT, Int.reduceLE, Int.reduceEq, rX, dg_cells, dg_fold, List.drop_succ_cons, Bool.not_true, hc, hl, hf, hz, hz1]
      refine newK_intro fun l4 n4 => ?_
      obtain ⟨d43, n4⟩ := Hp.set_none n4
      obtain ⟨d42, n4⟩ := Hp.set_none n4
      simp (dsimp := false) (implicitDefEqProofs := false) (maxSteps := 1000000) (disch := first | omega | assumption | (simp only [rL, Nat.reduceAdd]; done) | (simp only [rL, Nat.reduceAdd]; omega)) only [↓rD, rU, ev, ofConst, ofCell, ↓reduceIte, Nat.reduceEqDiff, Nat.reduceAdd, Nat.reduceSub, Nat.reduceMul, Nat.reduceLeDiff, Nat.reduceLT, Int.reduceNeg, Int.reduceToNat, Int.reduceAdd, Int.reduceSub, Int.reduceMul, Int.reduceLT, Int.reduceLE, Int.reduceEq, rX, dg_cells, dg_fold, List.drop_succ_cons, hz1]
      refine ⟨s.set l4 (.cells (fwC o 0 (.v (.pointer none)))), ?_, ?_⟩
      · exact Hp.sub_set fin
      · simp only [ne_eq, not_true_eq_false, if_false, Bool.true_eq_false]; exact ⟨l4, n4, rfl, rfl⟩
  · simp (dsimp := false) (implicitDefEqProofs := false) (maxSteps := 1000000) (disch := first | omega | assumption | (simp only [rL, Nat.reduceAdd]; done) | (simp only [rL, Nat.reduceAdd]; omega)) only [↓rD, rU, ev, ofConst, ofCell, ↓reduceIte, Nat.reduceEqDiff, Nat.reduceAdd, Nat.reduceSub, Nat.reduceMul, Nat.reduceLeDiff, Nat.reduceLT, Int.reduceNeg, Int.reduceToNat, Int.reduceAdd, Int.reduceSub, Int.reduceMul, Int.reduceLT, Int.reduceLE, Int.reduceEq, rX, dg_cells, dg_fold, List.drop_succ_cons, c, decide_false, Bool.not_false]
    exact ⟨s, fin, by simp [c]⟩
end Go.Proofs.Ytapjikladjoicaa
set_option maxRecDepth 100000
namespace Go.Proofs.Ytapjikladjoicaa
open Go Go.Av

def keepF (F : Fw) (o : Opn) : Fw :=
  match F.fk with
  | none => { F with fk := some (o, F.o) }
  | some _ => F
theorem fwC_put66 {o : Opn} {st : Int} {p q : AV} (ho : o.ok) : putAt (fwC o st p) 66 [q] = fwC o st q := by
  have h := Opn.lenC ho
  have e : fwC o st p = o.C ++ [.v (.int .i64 st), p] := rfl
  rw [e, putAt, show (66 : Nat) = o.C.length + 1 by omega, List.take_append, List.take_of_length_le (by omega)]
  simp [fwC, FW, Opn.C, List.drop_of_length_le]
def opZ : List AV := .v (.int .i64 0) :: List.replicate 64 (.v (.int .u8 0))
theorem fk_zero {a : Opn} (ha : a.ok) : putAt ([AV.v (Value.int IntKind.i64 0)] ++ List.replicate 64 (AV.v (Value.int IntKind.u8 0)) ++ [AV.v (Value.int IntKind.i64 0)] ++ List.replicate 64 (AV.v (Value.int IntKind.u8 0))) 0 a.C = a.C ++ opZ := by
  rw [putAt, Opn.lenC ha]; rfl
theorem fk_zero1 {a b : Opn} (ha : a.ok) (hb : b.ok) : putAt (a.C ++ opZ) 65 b.C = a.C ++ b.C := by
  have h1 := Opn.lenC ha
  have h2 := Opn.lenC hb
  rw [putAt, ← h1, List.take_left, h2]
  simp [List.drop_append, h1, opZ, List.drop_of_length_le]

theorem keep_spec (s0 s : Hp) (l : Nat) (F : Fw) (o : Opn) (hF : F.o.ok) (ho : o.ok) (h0 : s0 l = none) (h : FS s0 l F s) :
    AC Try.prog 29 [.ptr l 0, o.V] s fun _ s' => FS s0 l (keepF F o) s' := by
  obtain ⟨p, hs, hp⟩ := h.get
  refine AC_run hm prep29 (by simp) ?_
  have hc := Opn.cells (o := o)
  have hc2 := Opn.cells (o := F.o)
  have hl := Opn.lenC ho
  have hl2 := Opn.lenC hF
  have hf := Opn.fold ho
  have hw := fwC_length (st := F.st) (p := p) hF
  simp (dsimp := false) (implicitDefEqProofs := false) (maxSteps := 1000000) (disch := first | omega | assumption | (simp only [rL, Nat.reduceAdd]; done) | (simp only [rL, Nat.reduceAdd]; omega)) only [↓rD, rU, ev, ofConst, ofCell, ↓reduceIte, Nat.reduceEqDiff, Nat.reduceAdd, Nat.reduceSub, Nat.reduceMul, Nat.reduceLeDiff, Nat.reduceLT, Int.reduceNeg, Int.reduceToNat, Int.reduceAdd, Int.reduceSub, Int.reduceMul, Int.reduceLT, Int.reduceLE, Int.reduceEq, rX, dg_cells, dg_fold, List.drop_succ_cons, hc, hl]
  refine newK_intro fun l3 n3 => ?_
  have d3 : l ≠ l3 := by rintro rfl; rw [n3] at hs; cases hs
  rcases hp with ⟨hk, rfl⟩ | ⟨lf, a, b, hk, rfl, hlf⟩
  · have hz := fk_zero ho
    have hz' := fk_zero1 ho hF
    have hz0 : (o.C ++ opZ).length = 130 := by simp [hl, opZ]
    have hz1 : (o.C ++ F.o.C).length = 130 := by simp [hl, hl2]
    simp (dsimp := false) (implicitDefEqProofs := false) (maxSteps := 1000000) (disch := first | omega | assumption | (simp only [rL, Nat.reduceAdd]; done) | (simp only [rL, Nat.reduceAdd]; omega)) only [↓rD, rU, ev, ofConst, ofCell, ↓reduceIte, Nat.reduceEqDiff, Nat.reduceAdd, Nat.reduceSub, Nat.reduceMul, Nat.reduceLeDiff, Nat.reduceLT, Int.reduceNeg, Int.reduceToNat, Int.reduceAdd, Int.reduceSub, Int.reduceMul, Int.reduceLT, Int.reduceLE, Int.reduceEq, rX, dg_cells, dg_fold, List.drop_succ_cons, Bool.not_false, Bool.not_true, Bool.false_xor, Bool.true_xor, Bool.true_and, Bool.false_and, decide_true, decide_false, Hp.read_of hs, hw, d3, fwC_66 hF, hc, hc2, hl, hl2, hf, fwC_op hF, Opn.fold', hz, hz', hz0, hz1]
    refine newK_intro fun l16 n16 => ?_
    obtain ⟨e163, n16⟩ := Hp.set_none n16
    have e16 : l ≠ l16 := by rintro rfl; rw [n16] at hs; cases hs
    simp (dsimp := false) (implicitDefEqProofs := false) (maxSteps := 1000000) (disch := first | omega | assumption | (simp only [rL, Nat.reduceAdd]; done) | (simp only [rL, Nat.reduceAdd]; omega)) only [↓rD, rU, ev, ofConst, ofCell, ↓reduceIte, Nat.reduceEqDiff, Nat.reduceAdd, Nat.reduceSub, Nat.reduceMul, Nat.reduceLeDiff, Nat.reduceLT, Int.reduceNeg, Int.reduceToNat, Int.reduceAdd, Int.reduceSub, Int.reduceMul, Int.reduceLT, Int.reduceLE, Int.reduceEq, rX, dg_cells, dg_fold, List.drop_succ_cons, Bool.not_false, Bool.not_true, Bool.false_xor, Bool.true_xor, Bool.true_and, Bool.false_and, decide_true, decide_false, Hp.read_of hs, Hp.stA_of hs, hw, d3, e16, fwC_66 hF, hz1, fwC_put66 hF]
    refine ⟨_, Hp.sub_refl, ?_⟩
    simp only [FS, hk] at h
    simp only [keepF, hk, FS]
    refine ⟨l16, ?_, Ne.symm e16, ?_⟩
    · exact Hp.sub_none (Hp.sub_trans (Hp.sub_new Hp.sub_refl h0) h) n16
    · rw [Hp.set_set_comm _ (Ne.symm e16)]
      refine Hp.sub_set ?_
      refine Hp.sub_trans (Hp.sub_set_of h) ?_
      rw [Hp.set_set_comm _ (Ne.symm d3)]
      exact Hp.sub_new Hp.sub_refl (by rw [Hp.set_ne _ _ (Ne.symm d3)]; exact n3)
  · simp (dsimp := false) (implicitDefEqProofs := false) (maxSteps := 1000000) (disch := first | omega | assumption | (simp only [rL, Nat.reduceAdd]; done) | (simp only [rL, Nat.reduceAdd]; omega)) only [↓rD, rU, ev, ofConst, ofCell, ↓reduceIte, Nat.reduceEqDiff, Nat.reduceAdd, Nat.reduceSub, Nat.reduceMul, Nat.reduceLeDiff, Nat.reduceLT, Int.reduceNeg, Int.reduceToNat, Int.reduceAdd, Int.reduceSub, Int.reduceMul, Int.reduceLT, Int.reduceLE, Int.reduceEq, rX, dg_cells, dg_fold, List.drop_succ_cons, Bool.not_false, Bool.not_true, Bool.false_xor, Bool.true_xor, Bool.true_and, Bool.false_and, decide_true, decide_false, Hp.read_of hs, hw, d3, fwC_66 hF]
    refine ⟨s, Hp.sub_new Hp.sub_refl n3, ?_⟩
    simp only [keepF, hk]; exact h
end Go.Proofs.Ytapjikladjoicaa
set_option maxRecDepth 100000
namespace Go.Proofs.Ytapjikladjoicaa
open Go Go.Av

def nextF (F : Fw) (d : List UInt8) (o : Opn) (g : List (List UInt8)) : Int × Fw :=
  if o.sum ≠ d then (41, F)
  else if d = F.o.sum then (0, F)
  else if rightN o.n = false then (42, F)
  else if o.n ≤ F.o.n then (42, keepF F o)
  else if growsF F.o.h F.o.n o.h o.n g = false then (42, F)
  else (0, { F with o := o, st := F.st + 1 })

theorem fwC_put0 {o o' : Opn} {st : Int} {p : AV} (ho : o.ok) (ho' : o'.ok) : putAt (fwC o st p) 0 o'.C = fwC o' st p := by
  have e : fwC o st p = o.C ++ [.v (.int .i64 st), p] := rfl
  rw [e, putAt, Opn.lenC ho', ← Opn.lenC ho, Nat.zero_add, List.drop_left]; rfl
theorem fwC_put65 {o : Opn} {st st' : Int} {p : AV} (ho : o.ok) : putAt (fwC o st p) 65 [.v (.int .i64 st')] = fwC o st' p := by
  have e : fwC o st p = o.C ++ [.v (.int .i64 st), p] := rfl
  rw [e, putAt, ← Opn.lenC ho, List.take_left]
  simp [fwC, FW, Opn.C]
theorem fwC_inj {o o' : Opn} {st st' : Int} {p p' : AV} (ho : o.ok) (ho' : o'.ok) (h : fwC o st p = fwC o' st' p') : p = p' := by
  have h2 := congrArg (List.drop 66) h
  rw [fwC_66 ho, fwC_66 ho'] at h2
  simpa using h2
theorem FS.setl {s0 s : Hp} {l : Nat} {F : Fw} {p : AV} (o : Opn) (st : Int) (hF : F.o.ok) (h : FS s0 l F s) (hs : s l = some (.cells (fwC F.o F.st p))) :
    FS s0 l { F with o := o, st := st } (s.set l (.cells (fwC o st p))) := by
  obtain ⟨Fo, Fst, fk⟩ := F
  cases fk with
  | none =>
    simp only [FS] at h ⊢
    have := h _ _ (Hp.set_same _ _ _)
    rw [hs] at this
    have hp := fwC_inj hF hF (Ob.cells.inj (Option.some.inj this))
    subst hp
    exact Hp.sub_set_of h
  | some ab =>
    obtain ⟨a, b⟩ := ab
    simp only [FS] at h ⊢
    obtain ⟨lf, h1, h2, h3⟩ := h
    have := h3 l _ (by rw [Hp.set_ne _ _ (Ne.symm h2)]; exact Hp.set_same _ _ _)
    rw [hs] at this
    have hp := fwC_inj hF hF (Ob.cells.inj (Option.some.inj this))
    subst hp
    refine ⟨lf, h1, h2, ?_⟩
    rw [Hp.set_set_comm _ (Ne.symm h2)] at h3 ⊢
    exact Hp.sub_set_of h3

theorem Opn.m0 {o : Opn} : mkv false 1 o.C = .v (.int .i64 o.n) := rfl
theorem fwC_m0 {o : Opn} {st : Int} {p : AV} : mkv false 1 (fwC o st p) = .v (.int .i64 o.n) := rfl
theorem Opn.h32 {o : Opn} (ho : o.ok) : (o.C.drop 1).take 32 = o.h.map byteAV := opC_h ho.1
theorem fwC_h32 {o : Opn} {st : Int} {p : AV} (ho : o.ok) : ((fwC o st p).drop 1).take 32 = o.h.map byteAV := by
  have e : fwC o st p = o.C ++ [.v (.int .i64 st), p] := rfl
  rw [e, List.drop_append_of_le_length (by rw [Opn.lenC ho]; omega), List.take_append_of_le_length (by rw [List.length_drop, Opn.lenC ho]; omega), Opn.h32 ho]
theorem dg_fold' {d : List UInt8} : (.agg (d.map byteAV) : AV) = dg d := rfl

theorem Next_spec (s0 s : Hp) (l : Nat) (F : Fw) (d : List UInt8) (o : Opn) (g : List (List UInt8)) (ow : Own) (hd : d.length = 32) (hF : F.o.ok) (ho : o.ok) (hg : Digs g) (hgl : g.length ≤ 400000) (hst : 0 ≤ F.st ∧ F.st ≤ 1000000) (h0 : s0 l = none) (h : FS s0 l F s) :
    AC Try.prog 10 [.ptr l 0, dg d, o.V, .sl (g.map dg) ow] s fun r s' => r = .v (.int .i64 (nextF F d o g).1) ∧ FS s0 l (nextF F d o g).2 s' := by
  obtain ⟨p, hs, hp⟩ := h.get
  refine AC_run hm prep10 (by simp) ?_
  have hc := Opn.cells (o := o)
  have hl := Opn.lenC ho
  have hf := Opn.fold ho
  have hw := fwC_length (st := F.st) (p := p) hF
  simp (dsimp := false) (implicitDefEqProofs := false) (maxSteps := 1000000) (disch := first | omega | assumption | (simp only [rL, Nat.reduceAdd]; done) | (simp only [rL, Nat.reduceAdd]; omega)) only [↓rD, rU, ev, ofConst, ofCell, ↓reduceIte, Nat.reduceEqDiff, Nat.reduceAdd, Nat.reduceSub, Nat.reduceMul, Nat.reduceLeDiff, Nat.reduceLT, Int.reduceNeg, Int.reduceToNat, Int.reduceAdd, Int.reduceSub, Int.reduceMul, Int.reduceLT, Int.reduceLE, Int.reduceEq, rX, dg_cells, dg_fold, List.drop_succ_cons, Bool.not_false, Bool.not_true, Bool.false_xor, Bool.true_xor, Bool.true_and, Bool.false_and, decide_true, decide_false, hd]
  refine newK_intro fun l5 n5 => ?_
  have d5 : l ≠ l5 := by rintro rfl; rw [n5] at hs; cases hs
  simp (dsimp := false) (implicitDefEqProofs := false) (maxSteps := 1000000) (disch := first | omega | assumption | (simp only [rL, Nat.reduceAdd]; done) | (simp only [rL, Nat.reduceAdd]; omega)) only [↓rD, rU, ev, ofConst, ofCell, ↓reduceIte, Nat.reduceEqDiff, Nat.reduceAdd, Nat.reduceSub, Nat.reduceMul, Nat.reduceLeDiff, Nat.reduceLT, Int.reduceNeg, Int.reduceToNat, Int.reduceAdd, Int.reduceSub, Int.reduceMul, Int.reduceLT, Int.reduceLE, Int.reduceEq, rX, dg_cells, dg_fold, List.drop_succ_cons, Bool.not_false, Bool.not_true, Bool.false_xor, Bool.true_xor, Bool.true_and, Bool.false_and, decide_true, decide_false, hd, hc, hl]
  refine newK_intro fun l6 n6 => ?_
  obtain ⟨d65, n6⟩ := Hp.set_none n6
  have d6 : l ≠ l6 := by rintro rfl; rw [n6] at hs; cases hs
  have hsub := Hp.sub_new (o := .cells o.C) (Hp.sub_new (o := .cells (d.map byteAV)) (Hp.sub_refl (s := s)) n5) n6
  simp (dsimp := false) (implicitDefEqProofs := false) (maxSteps := 1000000) (disch := first | omega | assumption | (simp only [rL, Nat.reduceAdd]; done) | (simp only [rL, Nat.reduceAdd]; omega)) only [↓rD, rU, ev, ofConst, ofCell, ↓reduceIte, Nat.reduceEqDiff, Nat.reduceAdd, Nat.reduceSub, Nat.reduceMul, Nat.reduceLeDiff, Nat.reduceLT, Int.reduceNeg, Int.reduceToNat, Int.reduceAdd, Int.reduceSub, Int.reduceMul, Int.reduceLT, Int.reduceLE, Int.reduceEq, rX, dg_cells, dg_fold, List.drop_succ_cons, Bool.not_false, Bool.not_true, Bool.false_xor, Bool.true_xor, Bool.true_and, Bool.false_and, decide_true, decide_false, hc, hl, hf, hd, d65, Ne.symm d65]
  refine call_intro (bdigest_spec o.n o.h o.d ho.1 ho.2 _) ?_
  rintro _ _ ⟨rfl, rfl⟩
  have hq := sha256_length (digPre o.n o.h o.d)
  have eq : sha256 (digPre o.n o.h o.d) = o.sum := rfl
  rw [eq] at hq ⊢
  simp (dsimp := false) (implicitDefEqProofs := false) (maxSteps := 1000000) (disch := first | omega | assumption | (simp only [rL, Nat.reduceAdd]; done) | (simp only [rL, Nat.reduceAdd]; omega)) only [↓rD, rU, ev, ofConst, ofCell, ↓reduceIte, Nat.reduceEqDiff, Nat.reduceAdd, Nat.reduceSub, Nat.reduceMul, Nat.reduceLeDiff, Nat.reduceLT, Int.reduceNeg, Int.reduceToNat, Int.reduceAdd, Int.reduceSub, Int.reduceMul, Int.reduceLT, Int.reduceLE, Int.reduceEq, rX, dg_cells, dg_fold, List.drop_succ_cons, Bool.not_false, Bool.not_true, Bool.false_xor, Bool.true_xor, Bool.true_and, Bool.false_and, decide_true, decide_false, hc, hl, hf, hd, hq, d65, Ne.symm d65, eqvK_dg]
  by_cases c1 : o.sum = d
  · simp (dsimp := false) (implicitDefEqProofs := false) (maxSteps := 1000000) (disch := first | omega | assumption | (simp only [rL, Nat.reduceAdd]; done) | (simp only [rL, Nat.reduceAdd]; omega)) only [↓rD, rU, ev, ofConst, ofCell, ↓reduceIte, Nat.reduceEqDiff, Nat.reduceAdd, Nat.reduceSub, Nat.reduceMul, Nat.reduceLeDiff, Nat.reduceLT, Int.reduceNeg, Int.reduceToNat, Int.reduceAdd, Int.reduceSub, Int.reduceMul, Int.reduceLT, Int.reduceLE, Int.reduceEq, rX, dg_cells, dg_fold, List.drop_succ_cons, Bool.not_false, Bool.not_true, Bool.false_xor, Bool.true_xor, Bool.true_and, Bool.false_and, decide_true, decide_false, c1, hd, d65, Ne.symm d65]
    refine call_intro (fdigest_spec _ l F.o F.st p hF (by rw [Hp.set_ne _ _ d6, Hp.set_ne _ _ d5]; exact hs)) ?_
    rintro _ _ ⟨rfl, rfl⟩
    have hq2 : F.o.sum.length = 32 := sha256_length _
    simp (dsimp := false) (implicitDefEqProofs := false) (maxSteps := 1000000) (disch := first | omega | assumption | (simp only [rL, Nat.reduceAdd]; done) | (simp only [rL, Nat.reduceAdd]; omega)) only [↓rD, rU, ev, ofConst, ofCell, ↓reduceIte, Nat.reduceEqDiff, Nat.reduceAdd, Nat.reduceSub, Nat.reduceMul, Nat.reduceLeDiff, Nat.reduceLT, Int.reduceNeg, Int.reduceToNat, Int.reduceAdd, Int.reduceSub, Int.reduceMul, Int.reduceLT, Int.reduceLE, Int.reduceEq, rX, dg_cells, dg_fold, List.drop_succ_cons, Bool.not_false, Bool.not_true, Bool.false_xor, Bool.true_xor, Bool.true_and, Bool.false_and, decide_true, decide_false, hd, hq2, d65, Ne.symm d65, eqvK_dg]
    by_cases c2 : d = F.o.sum
    · have e : nextF F d o g = (0, F) := by rw [nextF, if_neg (by simpa using c1), if_pos c2]
      rw [e]
      rw [← c2]
      simp (dsimp := false) (implicitDefEqProofs := false) (maxSteps := 1000000) (disch := first | omega | assumption | (simp only [rL, Nat.reduceAdd]; done) | (simp only [rL, Nat.reduceAdd]; omega)) only [↓rD, rU, ev, ofConst, ofCell, ↓reduceIte, Nat.reduceEqDiff, Nat.reduceAdd, Nat.reduceSub, Nat.reduceMul, Nat.reduceLeDiff, Nat.reduceLT, Int.reduceNeg, Int.reduceToNat, Int.reduceAdd, Int.reduceSub, Int.reduceMul, Int.reduceLT, Int.reduceLE, Int.reduceEq, rX, dg_cells, dg_fold, List.drop_succ_cons, Bool.not_false, Bool.not_true, Bool.false_xor, Bool.true_xor, Bool.true_and, Bool.false_and, decide_true, decide_false]
      exact ⟨_, Hp.sub_refl, h.mono hsub⟩
    · simp (dsimp := false) (implicitDefEqProofs := false) (maxSteps := 1000000) (disch := first | omega | assumption | (simp only [rL, Nat.reduceAdd]; done) | (simp only [rL, Nat.reduceAdd]; omega)) only [↓rD, rU, ev, ofConst, ofCell, ↓reduceIte, Nat.reduceEqDiff, Nat.reduceAdd, Nat.reduceSub, Nat.reduceMul, Nat.reduceLeDiff, Nat.reduceLT, Int.reduceNeg, Int.reduceToNat, Int.reduceAdd, Int.reduceSub, Int.reduceMul, Int.reduceLT, Int.reduceLE, Int.reduceEq, rX, dg_cells, dg_fold, List.drop_succ_cons, Bool.not_false, Bool.not_true, Bool.false_xor, Bool.true_xor, Bool.true_and, Bool.false_and, decide_true, decide_false, c2, hc, hl, hf]
      refine call_intro (right_spec o.n o.h o.d ho.1 ho.2 _) ?_
      rintro _ _ ⟨rfl, rfl⟩
      cases hr : rightN o.n
      · have e : nextF F d o g = (42, F) := by rw [nextF, if_neg (by simpa using c1), if_neg c2, if_pos hr]
        rw [e]
        simp (dsimp := false) (implicitDefEqProofs := false) (maxSteps := 1000000) (disch := first | omega | assumption | (simp only [rL, Nat.reduceAdd]; done) | (simp only [rL, Nat.reduceAdd]; omega)) only [↓rD, rU, ev, ofConst, ofCell, ↓reduceIte, Nat.reduceEqDiff, Nat.reduceAdd, Nat.reduceSub, Nat.reduceMul, Nat.reduceLeDiff, Nat.reduceLT, Int.reduceNeg, Int.reduceToNat, Int.reduceAdd, Int.reduceSub, Int.reduceMul, Int.reduceLT, Int.reduceLE, Int.reduceEq, rX, dg_cells, dg_fold, List.drop_succ_cons, Bool.not_false, Bool.not_true, Bool.false_xor, Bool.true_xor, Bool.true_and, Bool.false_and, decide_true, decide_false]
        exact ⟨_, Hp.sub_refl, h.mono hsub⟩
      · simp (dsimp := false) (implicitDefEqProofs := false) (maxSteps := 1000000) (disch := first | omega | assumption | (simp only [rL, Nat.reduceAdd]; done) | (simp only [rL, Nat.reduceAdd]; omega)) only [↓rD, rU, ev, ofConst, ofCell, ↓reduceIte, Nat.reduceEqDiff, Nat.reduceAdd, Nat.reduceSub, Nat.reduceMul, Nat.reduceLeDiff, Nat.reduceLT, Int.reduceNeg, Int.reduceToNat, Int.reduceAdd, Int.reduceSub, Int.reduceMul, Int.reduceLT, Int.reduceLE, Int.reduceEq, rX, dg_cells, dg_fold, List.drop_succ_cons, Bool.not_false, Bool.not_true, Bool.false_xor, Bool.true_xor, Bool.true_and, Bool.false_and, decide_true, decide_false, hc, hl, hf, Hp.read_of hs, d6, d5, Opn.m0, fwC_m0]
        by_cases c4 : o.n ≤ F.o.n
        · have e : nextF F d o g = (42, keepF F o) := by rw [nextF, if_neg (by simpa using c1), if_neg c2, if_neg (by simp [hr]), if_pos c4]
          rw [e]
          simp (dsimp := false) (implicitDefEqProofs := false) (maxSteps := 1000000) (disch := first | omega | assumption | (simp only [rL, Nat.reduceAdd]; done) | (simp only [rL, Nat.reduceAdd]; omega)) only [↓rD, rU, ev, ofConst, ofCell, ↓reduceIte, Nat.reduceEqDiff, Nat.reduceAdd, Nat.reduceSub, Nat.reduceMul, Nat.reduceLeDiff, Nat.reduceLT, Int.reduceNeg, Int.reduceToNat, Int.reduceAdd, Int.reduceSub, Int.reduceMul, Int.reduceLT, Int.reduceLE, Int.reduceEq, rX, dg_cells, dg_fold, List.drop_succ_cons, Bool.not_false, Bool.not_true, Bool.false_xor, Bool.true_xor, Bool.true_and, Bool.false_and, decide_true, decide_false, c4, hc, hl, hf]
          refine call_intro (keep_spec s0 _ l F o hF ho h0 (h.mono hsub)) ?_
          intro r s1 h1
          simp (dsimp := false) (implicitDefEqProofs := false) (maxSteps := 1000000) (disch := first | omega | assumption | (simp only [rL, Nat.reduceAdd]; done) | (simp only [rL, Nat.reduceAdd]; omega)) only [↓rD, rU, ev, ofConst, ofCell, ↓reduceIte, Nat.reduceEqDiff, Nat.reduceAdd, Nat.reduceSub, Nat.reduceMul, Nat.reduceLeDiff, Nat.reduceLT, Int.reduceNeg, Int.reduceToNat, Int.reduceAdd, Int.reduceSub, Int.reduceMul, Int.reduceLT, Int.reduceLE, Int.reduceEq, rX, dg_cells, dg_fold, List.drop_succ_cons, Bool.not_false, Bool.not_true, Bool.false_xor, Bool.true_xor, Bool.true_and, Bool.false_and, decide_true, decide_false]
          exact ⟨_, Hp.sub_refl, h1⟩
        · simp (dsimp := false) (implicitDefEqProofs := false) (maxSteps := 1000000) (disch := first | omega | assumption | (simp only [rL, Nat.reduceAdd]; done) | (simp only [rL, Nat.reduceAdd]; omega)) only [↓rD, rU, ev, ofConst, ofCell, ↓reduceIte, Nat.reduceEqDiff, Nat.reduceAdd, Nat.reduceSub, Nat.reduceMul, Nat.reduceLeDiff, Nat.reduceLT, Int.reduceNeg, Int.reduceToNat, Int.reduceAdd, Int.reduceSub, Int.reduceMul, Int.reduceLT, Int.reduceLE, Int.reduceEq, rX, dg_cells, dg_fold, List.drop_succ_cons, Bool.not_false, Bool.not_true, Bool.false_xor, Bool.true_xor, Bool.true_and, Bool.false_and, decide_true, decide_false, c4, hc, hl, hf, Hp.read_of hs, d6, d5, Opn.h32 ho, fwC_h32 hF, dg_fold', Opn.m0, fwC_m0, Nat.add_zero]
          refine call_intro (Grows_spec F.o.h F.o.n o.h o.n g ow _ hF.1 ho.1 hg hgl) ?_
          rintro _ _ ⟨rfl, rfl⟩
          cases hG : growsF F.o.h F.o.n o.h o.n g
          · have e : nextF F d o g = (42, F) := by rw [nextF, if_neg (by simpa using c1), if_neg c2, if_neg (by simp [hr]), if_neg c4, if_pos hG]
            rw [e]
            simp (dsimp := false) (implicitDefEqProofs := false) (maxSteps := 1000000) (disch := first | omega | assumption | (simp only [rL, Nat.reduceAdd]; done) | (simp only [rL, Nat.reduceAdd]; omega)) only [↓rD, rU, ev, ofConst, ofCell, ↓reduceIte, Nat.reduceEqDiff, Nat.reduceAdd, Nat.reduceSub, Nat.reduceMul, Nat.reduceLeDiff, Nat.reduceLT, Int.reduceNeg, Int.reduceToNat, Int.reduceAdd, Int.reduceSub, Int.reduceMul, Int.reduceLT, Int.reduceLE, Int.reduceEq, rX, dg_cells, dg_fold, List.drop_succ_cons, Bool.not_false, Bool.not_true, Bool.false_xor, Bool.true_xor, Bool.true_and, Bool.false_and, decide_true, decide_false]
            exact ⟨_, Hp.sub_refl, h.mono hsub⟩
          · have e : nextF F d o g = (0, { F with o := o, st := F.st + 1 }) := by rw [nextF, if_neg (by simpa using c1), if_neg c2, if_neg (by simp [hr]), if_neg c4, if_neg (by simp [hG])]
            rw [e]
            have hw2 := fwC_length (st := F.st) (p := p) ho
            have hset : ((s.set l5 (.cells (d.map byteAV))).set l6 (.cells o.C)).set l (.cells (fwC o (F.st + 1) p)) = ((s.set l (.cells (fwC o (F.st + 1) p))).set l5 (.cells (d.map byteAV))).set l6 (.cells o.C) := by
              rw [Hp.set_set_comm _ (Ne.symm d6), Hp.set_set_comm _ (Ne.symm d5)]
            simp (dsimp := false) (implicitDefEqProofs := false) (maxSteps := 1000000) (disch := first | omega | assumption | (simp only [rL, Nat.reduceAdd]; done) | (simp only [rL, Nat.reduceAdd]; omega)) only [↓rD, rU, ev, ofConst, ofCell, ↓reduceIte, Nat.reduceEqDiff, Nat.reduceAdd, Nat.reduceSub, Nat.reduceMul, Nat.reduceLeDiff, Nat.reduceLT, Int.reduceNeg, Int.reduceToNat, Int.reduceAdd, Int.reduceSub, Int.reduceMul, Int.reduceLT, Int.reduceLE, Int.reduceEq, rX, dg_cells, dg_fold, List.drop_succ_cons, Bool.not_false, Bool.not_true, Bool.false_xor, Bool.true_xor, Bool.true_and, Bool.false_and, decide_true, decide_false, hc, hl, hf, Hp.read_of hs, Hp.stA_of hs, d6, d5, hw, hw2, fwC_put0 hF ho, fwC_65 ho, fwC_put65 ho]
            refine ⟨_, Hp.sub_refl, ?_⟩
            rw [hset]
            exact (h.setl o (F.st + 1) hF hs).mono (Hp.sub_new (Hp.sub_new Hp.sub_refl (by rw [Hp.set_ne _ _ (Ne.symm d5)]; exact n5)) (by rw [Hp.set_ne _ _ (Ne.symm d6)]; exact n6))
  · have e : nextF F d o g = (41, F) := by rw [nextF, if_pos c1]
    rw [e]
    simp (dsimp := false) (implicitDefEqProofs := false) (maxSteps := 1000000) (disch := first | omega | assumption | (simp only [rL, Nat.reduceAdd]; done) | (simp only [rL, Nat.reduceAdd]; omega)) only [↓rD, rU, ev, ofConst, ofCell, ↓reduceIte, Nat.reduceEqDiff, Nat.reduceAdd, Nat.reduceSub, Nat.reduceMul, Nat.reduceLeDiff, Nat.reduceLT, Int.reduceNeg, Int.reduceToNat, Int.reduceAdd, Int.reduceSub, Int.reduceMul, Int.reduceLT, Int.reduceLE, Int.reduceEq, rX, dg_cells, dg_fold, List.drop_succ_cons, Bool.not_false, Bool.not_true, Bool.false_xor, Bool.true_xor, Bool.true_and, Bool.false_and, decide_true, decide_false, c1]
    exact ⟨_, Hp.sub_refl, h.mono hsub⟩
end Go.Proofs.Ytapjikladjoicaa
set_option maxRecDepth 100000
namespace Go.Proofs.Ytapjikladjoicaa
open Go Go.Av

def zo : Opn := ⟨0, zd, zd⟩
theorem zo_ok : zo.ok := ⟨rfl, rfl⟩
theorem zo_C : ([AV.v (.int .i64 0)] ++ List.replicate 64 (.v (.int .u8 0)) : List AV) = zo.C := rfl
def toldF (F : Fw) : Opn := match F.fk with | some (a, _) => a | none => zo
def thenF (F : Fw) : Opn := match F.fk with | some (_, b) => b | none => zo
theorem fk_at0 {a b : Opn} (ha : a.ok) : (a.C ++ b.C).take 65 = a.C := by rw [← Opn.lenC ha, List.take_left]
theorem fk_at1 {a b : Opn} (ha : a.ok) : (a.C ++ b.C).drop 65 = b.C := by rw [← Opn.lenC ha, List.drop_left]

theorem Fork_spec (s0 s : Hp) (l : Nat) (F : Fw) (hF : F.ok) (h : FS s0 l F s) :
    AC Try.prog 24 [.ptr l 0] s fun r s' => s' = s ∧ r = .tup [(toldF F).V, (thenF F).V, .v (.bool F.fk.isSome)] := by
  obtain ⟨p, hs, hp⟩ := h.get
  obtain ⟨hFo, hFk⟩ := hF
  refine AC_run hm prep24 (by simp) ?_
  have hw := fwC_length (st := F.st) (p := p) hFo
  have z0 : zo.C.length = 65 := rfl
  have z1 : (.agg (zo.C.take 65) : AV) = zo.V := Opn.fold zo_ok
  rw [zo_C]
  simp (dsimp := false) (implicitDefEqProofs := false) (maxSteps := 1000000) (disch := first | omega | assumption | (simp only [rL, Nat.reduceAdd]; done) | (simp only [rL, Nat.reduceAdd]; omega)) only [↓rD, rU, ev, ofConst, ofCell, ↓reduceIte, Nat.reduceEqDiff, Nat.reduceAdd, Nat.reduceSub, Nat.reduceMul, Nat.reduceLeDiff, Nat.reduceLT, Int.reduceNeg, Int.reduceToNat, Int.reduceAdd, Int.reduceSub, Int.reduceMul, Int.reduceLT, Int.reduceLE, Int.reduceEq, rX, dg_cells, dg_fold, List.drop_succ_cons, Bool.not_false, Bool.not_true, Bool.false_xor, Bool.true_xor, Bool.true_and, Bool.false_and, decide_true, decide_false, z0]
  refine newK_intro fun l2 n2 => ?_
  have d2 : l ≠ l2 := by rintro rfl; rw [n2] at hs; cases hs
  simp (dsimp := false) (implicitDefEqProofs := false) (maxSteps := 1000000) (disch := first | omega | assumption | (simp only [rL, Nat.reduceAdd]; done) | (simp only [rL, Nat.reduceAdd]; omega)) only [↓rD, rU, ev, ofConst, ofCell, ↓reduceIte, Nat.reduceEqDiff, Nat.reduceAdd, Nat.reduceSub, Nat.reduceMul, Nat.reduceLeDiff, Nat.reduceLT, Int.reduceNeg, Int.reduceToNat, Int.reduceAdd, Int.reduceSub, Int.reduceMul, Int.reduceLT, Int.reduceLE, Int.reduceEq, rX, dg_cells, dg_fold, List.drop_succ_cons, Bool.not_false, Bool.not_true, Bool.false_xor, Bool.true_xor, Bool.true_and, Bool.false_and, decide_true, decide_false, z0]
  refine newK_intro fun l3 n3 => ?_
  obtain ⟨d32, n3⟩ := Hp.set_none n3
  have d3 : l ≠ l3 := by rintro rfl; rw [n3] at hs; cases hs
  have hsub (x y : Ob) : s.sub ((s.set l2 x).set l3 y) := Hp.sub_new (Hp.sub_new (Hp.sub_refl (s := s)) n2) n3
  rcases hp with ⟨hk, rfl⟩ | ⟨lf, a, b, hk, rfl, hlf⟩
  · simp (dsimp := false) (implicitDefEqProofs := false) (maxSteps := 1000000) (disch := first | omega | assumption | (simp only [rL, Nat.reduceAdd]; done) | (simp only [rL, Nat.reduceAdd]; omega)) only [↓rD, rU, ev, ofConst, ofCell, ↓reduceIte, Nat.reduceEqDiff, Nat.reduceAdd, Nat.reduceSub, Nat.reduceMul, Nat.reduceLeDiff, Nat.reduceLT, Int.reduceNeg, Int.reduceToNat, Int.reduceAdd, Int.reduceSub, Int.reduceMul, Int.reduceLT, Int.reduceLE, Int.reduceEq, rX, dg_cells, dg_fold, List.drop_succ_cons, Bool.not_false, Bool.not_true, Bool.false_xor, Bool.true_xor, Bool.true_and, Bool.false_and, decide_true, decide_false, Hp.read_of hs, hw, d2, d3, d32, Ne.symm d32, fwC_66 hFo, z0]
    refine ⟨s, hsub _ _, rfl, ?_⟩
    rw [z1, toldF, thenF, hk]; rfl
  · obtain ⟨ha, hb⟩ := hFk a b hk
    have hla := Opn.lenC ha
    have hlb := Opn.lenC hb
    have hab : (a.C ++ b.C).length = 130 := by simp [hla, hlb]
    have hfb := Opn.fold hb
    have dl2 : lf ≠ l2 := by rintro rfl; rw [n2] at hlf; cases hlf
    have dl3 : lf ≠ l3 := by rintro rfl; rw [n3] at hlf; cases hlf
    have hca := Opn.cells (o := a)
    have hcb := Opn.cells (o := b)
    simp (dsimp := false) (implicitDefEqProofs := false) (maxSteps := 1000000) (disch := first | omega | assumption | (simp only [rL, Nat.reduceAdd]; done) | (simp only [rL, Nat.reduceAdd]; omega)) only [↓rD, rU, ev, ofConst, ofCell, ↓reduceIte, Nat.reduceEqDiff, Nat.reduceAdd, Nat.reduceSub, Nat.reduceMul, Nat.reduceLeDiff, Nat.reduceLT, Int.reduceNeg, Int.reduceToNat, Int.reduceAdd, Int.reduceSub, Int.reduceMul, Int.reduceLT, Int.reduceLE, Int.reduceEq, rX, dg_cells, dg_fold, List.drop_succ_cons, Bool.not_false, Bool.not_true, Bool.false_xor, Bool.true_xor, Bool.true_and, Bool.false_and, decide_true, decide_false, Hp.read_of hs, hw, d2, d3, d32, Ne.symm d32, fwC_66 hFo, z0, Hp.read_of hlf, dl2, dl3, hab, fk_at0 ha, fk_at1 ha, Opn.fold', hla, hlb, hca, hcb, hfb]
    refine ⟨s, hsub _ _, rfl, ?_⟩
    rw [Opn.fold ha, toldF, thenF, hk]; rfl
end Go.Proofs.Ytapjikladjoicaa
/-
  The plain law of LightKeeps: what grew from a history and has another item at a place makes two unlike texts with one sum.
-/
set_option maxRecDepth 100000
namespace Go.Proofs.Ytapjikladjoicaa
open Go Go.Av

/-- two unlike texts that have one sum -/
def Cl (ts : List (List UInt8)) : Prop := ∃ a ∈ ts, ∃ b ∈ ts, sha256 a = sha256 b ∧ a ≠ b
theorem Cl.mono {a b : List (List UInt8)} (h : Cl a) (hs : ∀ t ∈ a, t ∈ b) : Cl b := by
  obtain ⟨x, hx, y, hy, h1, h2⟩ := h
  exact ⟨x, hs x hx, y, hs y hy, h1, h2⟩
theorem Cl.of {ts : List (List UInt8)} {a b : List UInt8} (ha : a ∈ ts) (hb : b ∈ ts) (h : sha256 a = sha256 b) (hn : a ≠ b) : Cl ts := ⟨a, ha, b, hb, h, hn⟩

theorem leafB_inj {a b : List UInt8} (ha : a.length = 32) (hb : b.length = 32) (h : leafB a = leafB b) : a = b := by
  simpa [leafB, preB, chunk, ha, hb] using h
theorem nodeB_inj {a b c d : List UInt8} (ha : a.length = 32) (hb : b.length = 32) (hc : c.length = 32) (hd : d.length = 32) (h : nodeB a b = nodeB c d) : a = c ∧ b = d := by
  simp only [nodeB, preB, chunk, ha, hb, hc, hd, List.flatMap_cons, List.flatMap_nil, List.append_nil, List.append_assoc, List.cons.injEq, true_and, List.append_cancel_left_eq] at h
  obtain ⟨h1, h2⟩ := List.append_inj h (by rw [ha, hc])
  exact ⟨h1, List.append_cancel_left h2⟩

theorem half_eq {m n : Nat} (h : half n < m) (h2 : m ≤ n) (hn : 2 ≤ n) : half m = half n := by
  have h3 : (m - 1).log2 = (n - 1).log2 := by
    have hk : 2 ^ (n - 1).log2 ≤ m - 1 := by unfold half at h; omega
    have hu : n - 1 < 2 ^ ((n - 1).log2 + 1) := Nat.lt_log2_self
    exact (Nat.log2_eq_iff (by have := Nat.pow_pos (n := (n - 1).log2) (show 0 < 2 by omega); omega)).2 ⟨hk, by omega⟩
  rw [half, half, h3]

theorem takeF_false {ds d1 : List (List UInt8)} {o : List UInt8} {lk : Bool} (h : takeF ds false = (o, d1, lk)) (hd : Digs ds) : o.length = 32 ∧ Digs d1 := by
  obtain ⟨t1, t2, _⟩ := takeF_digs (lk := false) hd
  rw [h] at t1 t2
  exact ⟨t1, t2⟩

theorem up_up : ∀ (N n i : Nat) (u v : List UInt8) (p q : List (List UInt8)), n = N → i < n → u.length = 32 → v.length = 32 → Digs p → Digs q → (upF n i u p).2.2.2 = false → (upF n i v q).2.2.2 = false →
    (upF n i u p).1 = (upF n i v q).1 → u ≠ v → Cl ((upF n i u p).2.2.1 ++ (upF n i v q).2.2.1) := by
  intro N
  induction N using Nat.strongRecOn with
  | _ N ih =>
  intro n i u v p q hN hi hu hv hp hq l1 l2 he hne
  by_cases h : n < 2
  · rw [upF_leaf h, upF_leaf h] at he ⊢
    exact Cl.of (a := leafB u) (b := leafB v) (by simp) (by simp) he fun hh => hne (leafB_inj hu hv hh)
  · generalize ht : takeF p false = tp at *
    obtain ⟨o1, p1, k1⟩ := tp
    generalize ht2 : takeF q false = tq at *
    obtain ⟨o2, q1, k2⟩ := tq
    obtain ⟨e1, e2⟩ := takeF_false ht hp
    obtain ⟨e3, e4⟩ := takeF_false ht2 hq
    cases k1 with
    | true => rw [upF_lack h ht] at l1; cases l1
    | false =>
    cases k2 with
    | true => rw [upF_lack h ht2] at l2; cases l2
    | false =>
    have hlt := half_lt n (by omega)
    have hpos := half_pos n
    by_cases hk : i < half n
    · rw [upF_left h ht hk] at l1 he ⊢
      rw [upF_left h ht2 hk] at l2 he ⊢
      simp only at l1 l2 he ⊢
      have g1 := (upF_ok _ (half n) i u p1 rfl e2).1
      have g2 := (upF_ok _ (half n) i v q1 rfl e4).1
      by_cases hx : (upF (half n) i u p1).1 = (upF (half n) i v q1).1
      · refine (ih (half n) (by omega) (half n) i u v p1 q1 rfl hk hu hv e2 e4 l1 l2 hx hne).mono ?_
        intro t ht; simp only [List.mem_append] at ht ⊢; rcases ht with ht | ht; exact .inl (.inl ht); exact .inr (.inl ht)
      · exact Cl.of (by simp) (by simp) he fun hh => hx (nodeB_inj g1 e1 g2 e3 hh).1
    · rw [upF_right h ht hk] at l1 he ⊢
      rw [upF_right h ht2 hk] at l2 he ⊢
      simp only at l1 l2 he ⊢
      have g1 := (upF_ok _ (n - half n) (i - half n) u p1 rfl e2).1
      have g2 := (upF_ok _ (n - half n) (i - half n) v q1 rfl e4).1
      by_cases hx : (upF (n - half n) (i - half n) u p1).1 = (upF (n - half n) (i - half n) v q1).1
      · refine (ih (n - half n) (by omega) (n - half n) (i - half n) u v p1 q1 rfl (by omega) hu hv e2 e4 l1 l2 hx hne).mono ?_
        intro t ht; simp only [List.mem_append] at ht ⊢; rcases ht with ht | ht; exact .inl (.inl ht); exact .inr (.inl ht)
      · exact Cl.of (by simp) (by simp) he fun hh => hx (nodeB_inj e1 g1 e3 g2 hh).2

theorem keep_up : ∀ (N : Nat) (a : List UInt8) (m n : Nat) (own : Bool) (g : List (List UInt8)) (i : Nat) (u v : List UInt8) (p q : List (List UInt8)), n = N → i < m → m ≤ n → a.length = 32 → Digs g → u.length = 32 → v.length = 32 → Digs p → Digs q →
    (bothF a m n own g).lk = false → (upF m i u p).2.2.2 = false → (upF n i v q).2.2.2 = false → (upF m i u p).1 = (bothF a m n own g).x → (upF n i v q).1 = (bothF a m n own g).y → u ≠ v →
    Cl ((upF m i u p).2.2.1 ++ (upF n i v q).2.2.1 ++ (bothF a m n own g).ts) := by
  intro N
  induction N using Nat.strongRecOn with
  | _ N ih =>
  intro a m n own g i u v p q hN him hmn ha hg hu hv hp hq l0 l1 l2 hx hy hne
  by_cases hmn0 : m = n ∧ own = true
  · obtain ⟨rfl, rfl⟩ := hmn0
    rw [bothF_own] at hx hy
    refine (up_up _ m i u v p q rfl him hu hv hp hq l1 l2 (hx.trans hy.symm) hne).mono ?_
    intro t ht; exact List.mem_append_left _ ht
  · generalize htg : takeF g false = tg at *
    obtain ⟨o0, g1, k0⟩ := tg
    obtain ⟨eo, eg⟩ := takeF_false htg hg
    by_cases h2 : k0 = true ∨ m = n
    · rw [bothF_end hmn0 htg h2] at l0 hx hy ⊢
      simp only at l0 hx hy
      subst l0
      have hm : m = n := by simpa using h2
      subst hm
      refine (up_up _ m i u v p q rfl him hu hv hp hq l1 l2 (hx.trans hy.symm) hne).mono ?_
      intro t ht; exact List.mem_append_left _ ht
    · have hk0 : k0 = false := by cases k0 <;> simp_all
      subst hk0
      have hmn' : m ≠ n := by omega
      have hn2 : ¬ n < 2 := by omega
      have hlt := half_lt n (by omega)
      have hpos := half_pos n
      generalize htq : takeF q false = tq at *
      obtain ⟨o2, q1, k2⟩ := tq
      obtain ⟨e3, e4⟩ := takeF_false htq hq
      cases k2 with
      | true => rw [upF_lack hn2 htq] at l2; cases l2
      | false =>
      by_cases hk : m ≤ half n
      · rw [bothF_left hmn' (by omega) htg hk] at l0 hx hy ⊢
        have hik : i < half n := by omega
        rw [upF_left hn2 htq hik] at l2 hy ⊢
        simp only at l0 l2 hx hy ⊢
        have gb := (bothF_ok _ a m (half n) own g1 rfl (by omega) hk ha eg).2.1
        have g2 := (upF_ok _ (half n) i v q1 rfl e4).1
        by_cases he : (upF (half n) i v q1).1 = (bothF a m (half n) own g1).y
        · refine (ih (half n) (by omega) a m (half n) own g1 i u v p q1 rfl him hk ha eg hu hv hp e4 l0 l1 l2 hx he hne).mono ?_
          intro t ht; simp only [List.mem_append] at ht ⊢
          rcases ht with (ht | ht) | ht
          · exact .inl (.inl ht)
          · exact .inl (.inr (.inl ht))
          · exact .inr (.inl ht)
        · exact Cl.of (by simp) (by simp) hy fun hh => he (nodeB_inj g2 e3 gb eo hh).1
      · have hhm : half m = half n := half_eq (by omega) hmn (by omega)
        have hm2 : ¬ m < 2 := by omega
        rw [bothF_right hmn' (by omega) htg hk] at l0 hx hy ⊢
        generalize htp : takeF p false = tp at *
        obtain ⟨o1, p1, k1⟩ := tp
        obtain ⟨e1, e2⟩ := takeF_false htp hp
        cases k1 with
        | true => rw [upF_lack hm2 htp] at l1; cases l1
        | false =>
        simp only at l0 hx hy ⊢
        obtain ⟨gx, gy, _⟩ := bothF_ok _ a (m - half n) (n - half n) false g1 rfl (by omega) (by omega) ha eg
        by_cases hik : i < half n
        · rw [upF_left hm2 htp (by omega), hhm] at l1 hx ⊢
          rw [upF_left hn2 htq hik] at l2 hy ⊢
          simp only at l1 l2 hx hy ⊢
          have ga := (upF_ok _ (half n) i u p1 rfl e2).1
          have gb := (upF_ok _ (half n) i v q1 rfl e4).1
          by_cases h1 : (upF (half n) i u p1).1 = o0
          · by_cases h3 : (upF (half n) i v q1).1 = o0
            · refine (up_up _ (half n) i u v p1 q1 rfl hik hu hv e2 e4 l1 l2 (h1.trans h3.symm) hne).mono ?_
              intro t ht; simp only [List.mem_append] at ht ⊢
              rcases ht with ht | ht
              · exact .inl (.inl (.inl ht))
              · exact .inl (.inr (.inl ht))
            · exact Cl.of (by simp) (by simp) hy fun hh => h3 (nodeB_inj gb e3 eo gy hh).1
          · exact Cl.of (by simp) (by simp) hx fun hh => h1 (nodeB_inj ga e1 eo gx hh).1
        · rw [upF_right hm2 htp (by omega), hhm] at l1 hx ⊢
          rw [upF_right hn2 htq hik] at l2 hy ⊢
          simp only at l1 l2 hx hy ⊢
          have ga := (upF_ok _ (m - half n) (i - half n) u p1 rfl e2).1
          have gb := (upF_ok _ (n - half n) (i - half n) v q1 rfl e4).1
          by_cases h1 : (upF (m - half n) (i - half n) u p1).1 = (bothF a (m - half n) (n - half n) false g1).x
          · by_cases h3 : (upF (n - half n) (i - half n) v q1).1 = (bothF a (m - half n) (n - half n) false g1).y
            · refine (ih (n - half n) (by omega) a (m - half n) (n - half n) false g1 (i - half n) u v p1 q1 rfl (by omega) (by omega) ha eg hu hv e2 e4 l0 l1 l2 h1 h3 hne).mono ?_
              intro t ht; simp only [List.mem_append] at ht ⊢
              rcases ht with (ht | ht) | ht
              · exact .inl (.inl (.inl ht))
              · exact .inl (.inr (.inl ht))
              · exact .inr (.inl ht)
            · exact Cl.of (by simp) (by simp) hy fun hh => h3 (nodeB_inj e3 gb eo gy hh).2
          · exact Cl.of (by simp) (by simp) hx fun hh => h1 (nodeB_inj e1 ga eo gx hh).2

theorem takeF_snoc {ds : List (List UInt8)} {d : List UInt8} : takeF (ds ++ [d]) false = (d, ds, false) := by simp [takeF]

/-- a path's own sums make the root -/
theorem path_up : ∀ (N : Nat) (l : List (List UInt8)) (i : Nat) (ds : List (List UInt8)), l.length = N → i < l.length →
    (upF l.length i (l.getD i zd) (ds ++ pathD l i)).1 = rootD l ∧ (upF l.length i (l.getD i zd) (ds ++ pathD l i)).2.1 = ds ∧ (upF l.length i (l.getD i zd) (ds ++ pathD l i)).2.2.2 = false := by
  intro N
  induction N using Nat.strongRecOn with
  | _ N ih =>
  intro l i ds hN hi
  by_cases h : l.length < 2
  · rw [upF_leaf h, pathD_leaf h]
    match l, h, hi with
    | [d], _, hi =>
      have : i = 0 := by simpa using hi
      subst this
      exact ⟨(rootD_one d).symm, by simp, rfl⟩
  · have hlt := half_lt l.length (by omega)
    have hpos := half_pos l.length
    by_cases hk : i < half l.length
    · rw [pathD_left h hk, ← List.append_assoc, upF_left h takeF_snoc hk]
      have hl : (l.take (half l.length)).length = half l.length := by simp; omega
      have hg : (l.take (half l.length)).getD i zd = l.getD i zd := by simp [List.getD, hk]
      obtain ⟨a1, a2, a3⟩ := ih (half l.length) (by omega) (l.take (half l.length)) i ds hl (by omega)
      rw [hl, hg] at a1 a2 a3
      exact ⟨by simp only [a1]; exact (rootD_node l (by omega)).symm, a2, a3⟩
    · rw [pathD_right h hk, ← List.append_assoc, upF_right h takeF_snoc hk]
      have hl : (l.drop (half l.length)).length = l.length - half l.length := by simp
      have hg : (l.drop (half l.length)).getD (i - half l.length) zd = l.getD i zd := by
        simp only [List.getD, List.getElem?_drop]; rw [show half l.length + (i - half l.length) = i by omega]
      obtain ⟨a1, a2, a3⟩ := ih (l.length - half l.length) (by omega) (l.drop (half l.length)) (i - half l.length) ds hl (by omega)
      rw [hl, hg] at a1 a2 a3
      exact ⟨by simp only [a1]; exact (rootD_node l (by omega)).symm, a2, a3⟩

/-- the honest growth is taken -/
theorem grow_both : ∀ (N : Nat) (a : List UInt8) (l : List (List UInt8)) (m : Nat) (own : Bool) (ds : List (List UInt8)), l.length = N → 1 ≤ m → m ≤ l.length → (own = true → a = rootD (l.take m)) →
    (bothF a m l.length own (ds ++ restD l m own)).x = rootD (l.take m) ∧ (bothF a m l.length own (ds ++ restD l m own)).y = rootD l ∧ (bothF a m l.length own (ds ++ restD l m own)).ds = ds ∧ (bothF a m l.length own (ds ++ restD l m own)).lk = false := by
  intro N
  induction N using Nat.strongRecOn with
  | _ N ih =>
  intro a l m own ds hN h1 hm ha
  by_cases hml : m = l.length
  · subst hml
    cases own with
    | true => rw [restD_own rfl, bothF_own, ha rfl, List.take_of_length_le (Nat.le_refl _)]; exact ⟨rfl, rfl, by simp, rfl⟩
    | false => rw [restD_all rfl, bothF_end (by simp) takeF_snoc (.inr rfl), List.take_of_length_le (Nat.le_refl _)]; exact ⟨rfl, rfl, rfl, rfl⟩
  · have hlt := half_lt l.length (by omega)
    have hpos := half_pos l.length
    have hr : ¬ (l.length < 2 ∨ m = l.length) := by omega
    by_cases hk : m ≤ half l.length
    · rw [restD_left hr hk, ← List.append_assoc, bothF_left hml (by omega) takeF_snoc hk]
      have hl : (l.take (half l.length)).length = half l.length := by simp; omega
      have ht : (l.take (half l.length)).take m = l.take m := by rw [List.take_take, Nat.min_eq_left hk]
      obtain ⟨a1, a2, a3, a4⟩ := ih (half l.length) (by omega) a (l.take (half l.length)) m own ds hl h1 (by omega) (by rw [ht]; exact ha)
      rw [hl] at a1 a2 a3 a4
      rw [ht] at a1
      exact ⟨a1, by simp only [a2]; exact (rootD_node l (by omega)).symm, a3, a4⟩
    · rw [restD_right hr hk, ← List.append_assoc, bothF_right hml (by omega) takeF_snoc hk]
      have hl : (l.drop (half l.length)).length = l.length - half l.length := by simp
      obtain ⟨a1, a2, a3, a4⟩ := ih (l.length - half l.length) (by omega) a (l.drop (half l.length)) (m - half l.length) false ds hl (by omega) (by omega) (by simp)
      rw [hl] at a1 a2 a3 a4
      have hhm : half m = half l.length := half_eq (by omega) hm (by omega)
      have htl : (l.take m).length = m := by simp; omega
      have e1 : (l.take m).take (half m) = l.take (half l.length) := by rw [List.take_take, hhm, Nat.min_eq_left (by omega)]
      have e2 : (l.take m).drop (half m) = (l.drop (half l.length)).take (m - half l.length) := by rw [hhm, List.drop_take]
      have er := rootD_node (l.take m) (by omega)
      rw [htl, e1, e2] at er
      exact ⟨by simp only [a1]; exact er.symm, by simp only [a2]; exact (rootD_node l (by omega)).symm, a3, a4⟩
end Go.Proofs.Ytapjikladjoicaa
/-
  The document's example in numbers: the digests of two small openings are unlike.
-/
set_option maxRecDepth 100000
namespace Go.Proofs.Ytapjikladjoicaa
open Go Go.Av

def exD (b : UInt8) : List UInt8 := b :: List.replicate 31 0
def exL : List (List UInt8) := [exD 1, exD 2, exD 3]
theorem exL_digs : Digs exL := by
  intro d hd; simp only [exL, List.mem_cons, List.not_mem_nil, or_false] at hd
  rcases hd with rfl | rfl | rfl <;> rfl
def exA : Opn := ⟨1, rootD [exD 1], exD 1⟩
def exB : Opn := ⟨3, rootD exL, exD 3⟩
theorem exA_ok : exA.ok := ⟨rootD_length _, rfl⟩
theorem exB_ok : exB.ok := ⟨rootD_length _, rfl⟩
theorem half2 : half 2 = 1 := by decide
theorem half3 : half 3 = 2 := by decide
theorem root_exL : rootD exL = sha256 (nodeB (sha256 (nodeB (sha256 (leafB (exD 1))) (sha256 (leafB (exD 2))))) (sha256 (leafB (exD 3)))) := by
  rw [rootD_node exL (by simp [exL])]
  have e : half exL.length = 2 := half3
  rw [e]
  have e1 : exL.take 2 = [exD 1, exD 2] := rfl
  have e2 : exL.drop 2 = [exD 3] := rfl
  rw [e1, e2, rootD_one, rootD_node [exD 1, exD 2] (by simp)]
  have e3 : half [exD 1, exD 2].length = 1 := half2
  rw [e3]
  have e4 : [exD 1, exD 2].take 1 = [exD 1] := rfl
  have e5 : [exD 1, exD 2].drop 1 = [exD 2] := rfl
  rw [e4, e5, rootD_one, rootD_one]
theorem ex_ne' : sha256 (digPre 1 (sha256 (leafB (exD 1))) (exD 1)) ≠ sha256 (digPre 3 (sha256 (nodeB (sha256 (nodeB (sha256 (leafB (exD 1))) (sha256 (leafB (exD 2))))) (sha256 (leafB (exD 3))))) (exD 3)) := by
  decide +kernel
theorem ex_ne : exA.sum ≠ exB.sum := by
  unfold Opn.sum exA exB
  simp only
  rw [rootD_one, root_exL]
  exact ex_ne'
theorem ex_grows : growsF exA.h exA.n exB.h exB.n (restD exL 1 true) = true := by
  have h := grow_both _ (rootD [exD 1]) exL 1 true [] rfl (by omega) (by simp [exL]) (fun _ => rfl)
  obtain ⟨h1, h2, h3, h4⟩ := h
  have e1 : exL.take 1 = [exD 1] := rfl
  have e2 : exL.length = 3 := rfl
  rw [List.nil_append, e2] at h1 h2 h3 h4
  rw [e1] at h1
  have ea : exA.n = 1 := rfl
  have eb : exB.n = 3 := rfl
  have eh : exA.h = rootD [exD 1] := rfl
  have eh' : exB.h = rootD exL := rfl
  rw [growsF, ea, eb, eh, eh', if_neg (by omega), if_neg (by omega), show (1 : Int).toNat = 1 from rfl, show (3 : Int).toNat = 3 from rfl, h1, h2, h3, h4]
  simp
end Go.Proofs.Ytapjikladjoicaa
