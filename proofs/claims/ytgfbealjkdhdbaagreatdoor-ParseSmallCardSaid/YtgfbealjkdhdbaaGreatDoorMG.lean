/- Merged by program from smaller texts; what is proved stands in the last text of the claim. -/
import Derived.Test.YtgfbealjkdhdbaaGreatDoorMF
import Derived.Test.YtgfbealjkdhdbaaGreatDoorMD
import Derived.Lib.Join
set_option linter.all false
set_option maxRecDepth 100000
namespace Go.Proofs.YtgfbealjkdhdbaaGreatDoor
open Go Go.Av
def WR (lw : Nat) (ws : List (List UInt8)) (s0 s : Hp) : Prop := s0.sub s ∧ s0 lw = none ∧ ∃ o, Owned s0 s 1 (ws.map strV) o ∧ s lw = some (.cells [.sl (ws.map strV) o, .v (.bool false)])
theorem WR.mono {lw : Nat} {ws : List (List UInt8)} {s0 s s' : Hp} (h : WR lw ws s0 s) (hs : s.sub s') : WR lw ws s0 s' := by
  obtain ⟨h1, h2, o, h3, h4⟩ := h
  exact ⟨Hp.sub_trans h1 hs, h2, o, h3.mono hs, hs _ _ h4⟩
theorem WR.with {lw x : Nat} {ws : List (List UInt8)} {s0 s : Hp} {cs : List AV} (h : WR lw ws s0 s) (hx : s x = some (.cells cs)) (hne : x ≠ lw) : WR lw ws (s0.set x (.cells cs)) s := by
  obtain ⟨h1, h2, o, h3, h4⟩ := h
  have h5 := own_add h3 hx
  exact ⟨h5.sub, by rw [Hp.set_ne _ _ (Ne.symm hne)]; exact h2, o, h5, h4⟩
theorem WR.base {lw : Nat} {ws : List (List UInt8)} {s1 s0 s : Hp} (h : WR lw ws s0 s) (hs : s1.sub s0) : WR lw ws s1 s := by
  obtain ⟨h1, h2, o, h3, h4⟩ := h
  exact ⟨Hp.sub_trans hs h1, Hp.sub_none hs h2, o, h3.base hs, h4⟩
theorem WR.ne {lw x : Nat} {ws : List (List UInt8)} {s0 s : Hp} (h : WR lw ws s0 s) (hx : s x = none) : x ≠ lw := by
  obtain ⟨_, _, _, _, h4⟩ := h
  rintro rfl; rw [hx] at h4; cases h4
theorem put_spec (lw : Nat) (vs : List (List UInt8)) (o2 : Own) (ws : List (List UInt8)) (s0 s : Hp) (h : WR lw ws s0 s) (hn : ws.length + vs.length ≤ 100000) :
    AC Tryz.prog 59 [.ptr lw 0, .sl (vs.map strV) o2] s fun _ s' => WR lw (ws ++ vs) s0 s' := by
  obtain ⟨h1, h2, o, h3, h4⟩ := h
  refine AC_run hm prep59 (by simp) ?_
  simp (dsimp := false) (implicitDefEqProofs := false) (disch := first | omega | assumption | (simp only [rL, Nat.reduceAdd]; try omega)) only [↓rA, rZ, List.drop_succ_cons, ne_eq, not_true_eq_false, not_false_eq_true, List.getElem?_cons_zero, List.getElem?_cons_succ, ev, ofConst, ofCell, simprocAttr, Hp.read_of h4]
  refine app_own (own_add h3 h4) allLen_strs allLen_strs (by simp; omega) (by simp; omega) fun o8 s8 h8 => ?_
  have g8 := h8.sub _ _ (Hp.set_same _ _ _)
  have hs8 : s0.sub s8 := Hp.sub_trans (Hp.sub_new Hp.sub_refl h2) h8.sub
  simp (dsimp := false) (implicitDefEqProofs := false) (disch := first | omega | assumption | (simp only [rL, Nat.reduceAdd]; try omega)) only [↓rA, rZ, List.drop_succ_cons, ne_eq, not_true_eq_false, not_false_eq_true, List.getElem?_cons_zero, List.getElem?_cons_succ, ev, ofConst, ofCell, simprocAttr, Hp.stA_of g8, putAt_z1, putAt_sc]
  refine ⟨_, Hp.sub_refl, Hp.sub_new hs8 h2, h2, o8, ?_, ?_⟩
  · rw [List.map_append]
    exact own_write (h8.base (Hp.sub_new Hp.sub_refl h2)) h2 g8
  · rw [Hp.set_same, List.map_append]
theorem wname_spec (lw : Nat) (v : List UInt8) (hv : isNameS v = true) (hk : v ∉ keys) (ws : List (List UInt8)) (s0 s : Hp) (h : WR lw ws s0 s) (hn : ws.length + 1 ≤ 100000) :
    AC Tryz.prog 60 [.ptr lw 0, strV v] s fun _ s' => WR lw (ws ++ [v]) s0 s' := by
  refine AC_run hm prep60 (by simp) ?_
  obtain ⟨o, h4⟩ : ∃ o, s lw = some (.cells [.sl (ws.map strV) o, .v (.bool false)]) := by obtain ⟨_, _, o, _, h4⟩ := h; exact ⟨o, h4⟩
  simp (dsimp := false) (implicitDefEqProofs := false) (disch := first | omega | assumption | (simp only [rL, Nat.reduceAdd]; try omega)) only [↓rA, rZ, List.drop_succ_cons, ne_eq, not_true_eq_false, not_false_eq_true, List.getElem?_cons_zero, List.getElem?_cons_succ, ev, ofConst, ofCell, simprocAttr, Hp.read_of h4]
  refine call_intro (IsName_spec v s) ?_
  rintro _ s2 ⟨h2, rfl⟩
  rw [hv]
  simp (dsimp := false) (implicitDefEqProofs := false) (disch := first | omega | assumption | (simp only [rL, Nat.reduceAdd]; try omega)) only [↓rA, rZ, List.drop_succ_cons, ne_eq, not_true_eq_false, not_false_eq_true, List.getElem?_cons_zero, List.getElem?_cons_succ, ev, ofConst, ofCell, simprocAttr]
  refine call_intro (isKey_spec v s2) ?_
  rintro _ s3 ⟨h3, rfl⟩
  have t3 := (h.mono h2).mono h3
  have g3 := h3 _ _ (h2 _ _ h4)
  have hset := set_self g3
  simp (dsimp := false) (implicitDefEqProofs := false) (disch := first | omega | assumption | (simp only [rL, Nat.reduceAdd]; try omega)) only [↓rA, rZ, List.drop_succ_cons, ne_eq, not_true_eq_false, not_false_eq_true, List.getElem?_cons_zero, List.getElem?_cons_succ, ev, ofConst, ofCell, simprocAttr, hk, decide_false, Hp.stA_of g3, putAt_z1, putAt_sc, hset, strV]
  refine bsl_own (s0 := s3) Hp.sub_refl (allLen_strs (ws := [v])) fun o5 s5 h5 => ?_
  simp (dsimp := false) (implicitDefEqProofs := false) (disch := first | omega | assumption | (simp only [rL, Nat.reduceAdd]; try omega)) only [↓rA, rZ, List.drop_succ_cons, ne_eq, not_true_eq_false, not_false_eq_true, List.getElem?_cons_zero, List.getElem?_cons_succ, ev, ofConst, ofCell, simprocAttr]
  refine call_intro (put_spec lw [v] o5 ws s0 s5 (t3.mono h5.sub) hn) ?_
  intro r s6 h6
  simp (dsimp := false) (implicitDefEqProofs := false) (disch := first | omega | assumption | (simp only [rL, Nat.reduceAdd]; try omega)) only [↓rA, rZ, List.drop_succ_cons, ne_eq, not_true_eq_false, not_false_eq_true, List.getElem?_cons_zero, List.getElem?_cons_succ, ev, ofConst, ofCell, simprocAttr]
  exact ⟨_, Hp.sub_refl, h6⟩
theorem wnumber_spec (lw : Nat) (n : Int) (n0 : -9223372036854775808 ≤ n) (n1 : n ≤ 9223372036854775807) (ws : List (List UInt8)) (s0 s : Hp) (hT : Tabs s) (h : WR lw ws s0 s) (hn : ws.length + 1 ≤ 100000) :
    AC Tryz.prog 67 [.ptr lw 0, .v (.int .i64 n)] s fun _ s' => WR lw (ws ++ [itoaS n]) s0 s' := by
  refine AC_run hm prep67 (by simp) ?_
  simp (dsimp := false) (implicitDefEqProofs := false) (disch := first | omega | assumption | (simp only [rL, Nat.reduceAdd]; try omega)) only [↓rA, rZ, List.drop_succ_cons, ne_eq, not_true_eq_false, not_false_eq_true, List.getElem?_cons_zero, List.getElem?_cons_succ, ev, ofConst, ofCell, simprocAttr]
  refine call_intro (formatInt_spec n n0 n1 s hT) ?_
  rintro _ _ ⟨rfl, rfl⟩
  rw [itoaS_eq n n0 n1]
  simp (dsimp := false) (implicitDefEqProofs := false) (disch := first | omega | assumption | (simp only [rL, Nat.reduceAdd]; try omega)) only [↓rA, rZ, List.drop_succ_cons, ne_eq, not_true_eq_false, not_false_eq_true, List.getElem?_cons_zero, List.getElem?_cons_succ, ev, ofConst, ofCell, simprocAttr]
  refine bsl_own (s0 := _) Hp.sub_refl (allLen_strs (ws := [itoaS n])) fun o5 s5 h5 => ?_
  simp (dsimp := false) (implicitDefEqProofs := false) (disch := first | omega | assumption | (simp only [rL, Nat.reduceAdd]; try omega)) only [↓rA, rZ, List.drop_succ_cons, ne_eq, not_true_eq_false, not_false_eq_true, List.getElem?_cons_zero, List.getElem?_cons_succ, ev, ofConst, ofCell, simprocAttr]
  refine call_intro (put_spec lw [itoaS n] o5 ws s0 s5 (h.mono h5.sub) hn) ?_
  intro r s6 h6
  simp (dsimp := false) (implicitDefEqProofs := false) (disch := first | omega | assumption | (simp only [rL, Nat.reduceAdd]; try omega)) only [↓rA, rZ, List.drop_succ_cons, ne_eq, not_true_eq_false, not_false_eq_true, List.getElem?_cons_zero, List.getElem?_cons_succ, ev, ofConst, ofCell, simprocAttr]
  exact ⟨_, Hp.sub_refl, h6⟩
structure CondOk (c : Cond) : Prop where
  col : isNameS c.col = true
  key : c.col ∉ keys
  op : c.op = w_between ∨ c.op = w_ge ∧ c.b = 0
  a : -9223372036854775808 ≤ c.a ∧ c.a ≤ 9223372036854775807
  b : -9223372036854775808 ≤ c.b ∧ c.b ≤ 9223372036854775807
def condT (c : Cond) : List (List UInt8) := [c.col, c.op, itoaS c.a] ++ if c.op = w_between then [w_and, itoaS c.b] else []
theorem Tabs.wr {s0 s' : Hp} {lw : Nat} {ws : List (List UInt8)} (hT : Tabs s0) (h : WR lw ws s0 s') : Tabs s' := hT.mono h.1
theorem wcond_spec (lw : Nat) (c : Cond) (hc : CondOk c) (a : AV) (ha : condR c a) (ws : List (List UInt8)) (s0 s : Hp) (hT : Tabs s0) (h : WR lw ws s0 s) (hn : ws.length + 5 ≤ 100000) :
    AC Tryz.prog 101 [.ptr lw 0, a] s fun _ s' => WR lw (ws ++ condT c) s0 s' := by
  obtain rfl := ha
  refine AC_run hm prep101 (by simp) ?_
  simp (dsimp := false) (implicitDefEqProofs := false) (disch := first | omega | assumption | (simp only [rL, Nat.reduceAdd]; try omega)) only [↓rA, rZ, List.drop_succ_cons, ne_eq, not_true_eq_false, not_false_eq_true, List.getElem?_cons_zero, List.getElem?_cons_succ, ev, ofConst, ofCell, simprocAttr, strV]
  refine newK_intro fun l3 n3 => ?_
  have d3 := h.ne n3
  have n03 := Hp.sub_none h.1 n3
  have t1 := (h.mono (Hp.sub_new (o := .cells [strV c.col, strV c.op, .v (.int .i64 c.a), .v (.int .i64 c.b)]) Hp.sub_refl n3)).with (Hp.set_same _ _ _) d3
  have hT1 : Tabs (s0.set l3 (.cells [strV c.col, strV c.op, .v (.int .i64 c.a), .v (.int .i64 c.b)])) := hT.mono (Hp.sub_new Hp.sub_refl n03)
  have back : (s0.sub (s0.set l3 (.cells [strV c.col, strV c.op, .v (.int .i64 c.a), .v (.int .i64 c.b)]))) := Hp.sub_new Hp.sub_refl n03
  simp (dsimp := false) (implicitDefEqProofs := false) (disch := first | omega | assumption | (simp only [rL, Nat.reduceAdd]; try omega)) only [↓rA, rZ, List.drop_succ_cons, ne_eq, not_true_eq_false, not_false_eq_true, List.getElem?_cons_zero, List.getElem?_cons_succ, ev, ofConst, ofCell, simprocAttr, strV]
  refine call_intro (wname_spec lw c.col hc.col hc.key ws _ _ t1 (by omega)) ?_
  intro r s2 t2
  have g2 := t2.1 _ _ (Hp.set_same _ _ _)
  simp (dsimp := false) (implicitDefEqProofs := false) (disch := first | omega | assumption | (simp only [rL, Nat.reduceAdd]; try omega)) only [↓rA, rZ, List.drop_succ_cons, ne_eq, not_true_eq_false, not_false_eq_true, List.getElem?_cons_zero, List.getElem?_cons_succ, ev, ofConst, ofCell, simprocAttr, Hp.read_of g2, strV]
  refine bsl_own (s0 := _) Hp.sub_refl (allLen_strs (ws := [c.op])) fun o3 s3 h3 => ?_
  simp (dsimp := false) (implicitDefEqProofs := false) (disch := first | omega | assumption | (simp only [rL, Nat.reduceAdd]; try omega)) only [↓rA, rZ, List.drop_succ_cons, ne_eq, not_true_eq_false, not_false_eq_true, List.getElem?_cons_zero, List.getElem?_cons_succ, ev, ofConst, ofCell, simprocAttr]
  refine call_intro (put_spec lw [c.op] o3 _ _ s3 (t2.mono h3.sub) (by simp; omega)) ?_
  intro r s4 t4
  have g4 := t4.1 _ _ (Hp.set_same _ _ _)
  simp (dsimp := false) (implicitDefEqProofs := false) (disch := first | omega | assumption | (simp only [rL, Nat.reduceAdd]; try omega)) only [↓rA, rZ, List.drop_succ_cons, ne_eq, not_true_eq_false, not_false_eq_true, List.getElem?_cons_zero, List.getElem?_cons_succ, ev, ofConst, ofCell, simprocAttr, Hp.read_of g4]
  refine call_intro (wnumber_spec lw c.a hc.a.1 hc.a.2 _ _ s4 (hT1.wr t4) t4 (by simp; omega)) ?_
  intro r s5 t5
  have g5 := t5.1 _ _ (Hp.set_same _ _ _)
  rcases hc.op with hop | ⟨hop, hb⟩
  · have e : binA .eql (strV c.op) (.v (.string ⟨#[98, 101, 116, 119, 101, 101, 110]⟩)) = some (.v (.bool true)) := by rw [hop]; kernel_rfl
    simp (dsimp := false) (implicitDefEqProofs := false) (disch := first | omega | assumption | (simp only [rL, Nat.reduceAdd]; try omega)) only [↓rA, rZ, List.drop_succ_cons, ne_eq, not_true_eq_false, not_false_eq_true, List.getElem?_cons_zero, List.getElem?_cons_succ, ev, ofConst, ofCell, simprocAttr, Hp.read_of g5, e]
    refine bsl_own (s0 := _) Hp.sub_refl (allLen_strs (ws := [w_and])) fun o6 s6 h6 => ?_
    simp (dsimp := false) (implicitDefEqProofs := false) (disch := first | omega | assumption | (simp only [rL, Nat.reduceAdd]; try omega)) only [↓rA, rZ, List.drop_succ_cons, ne_eq, not_true_eq_false, not_false_eq_true, List.getElem?_cons_zero, List.getElem?_cons_succ, ev, ofConst, ofCell, simprocAttr]
    refine call_intro (put_spec lw [w_and] o6 _ _ s6 (t5.mono h6.sub) (by simp; omega)) ?_
    intro r s7 t7
    have g7 := t7.1 _ _ (Hp.set_same _ _ _)
    simp (dsimp := false) (implicitDefEqProofs := false) (disch := first | omega | assumption | (simp only [rL, Nat.reduceAdd]; try omega)) only [↓rA, rZ, List.drop_succ_cons, ne_eq, not_true_eq_false, not_false_eq_true, List.getElem?_cons_zero, List.getElem?_cons_succ, ev, ofConst, ofCell, simprocAttr, Hp.read_of g7]
    refine call_intro (wnumber_spec lw c.b hc.b.1 hc.b.2 _ _ s7 (hT1.wr t7) t7 (by simp; omega)) ?_
    intro r s8 t8
    simp (dsimp := false) (implicitDefEqProofs := false) (disch := first | omega | assumption | (simp only [rL, Nat.reduceAdd]; try omega)) only [↓rA, rZ, List.drop_succ_cons, ne_eq, not_true_eq_false, not_false_eq_true, List.getElem?_cons_zero, List.getElem?_cons_succ, ev, ofConst, ofCell, simprocAttr]
    refine ⟨_, Hp.sub_refl, ?_⟩
    have := t8.base back
    simpa [condT, hop] using this
  · have e1 : binA .eql (strV c.op) (.v (.string ⟨#[98, 101, 116, 119, 101, 101, 110]⟩)) = some (.v (.bool false)) := by rw [hop]; kernel_rfl
    have e2 : binA .eql (strV c.op) (.v (.string ⟨#[61]⟩)) = some (.v (.bool false)) := by rw [hop]; kernel_rfl
    have e3 : binA .eql (strV c.op) (.v (.string ⟨#[60]⟩)) = some (.v (.bool false)) := by rw [hop]; kernel_rfl
    have e4 : binA .eql (strV c.op) (.v (.string ⟨#[60, 61]⟩)) = some (.v (.bool false)) := by rw [hop]; kernel_rfl
    have e5 : binA .eql (strV c.op) (.v (.string ⟨#[62]⟩)) = some (.v (.bool false)) := by rw [hop]; kernel_rfl
    have e6 : binA .eql (strV c.op) (.v (.string ⟨#[62, 61]⟩)) = some (.v (.bool true)) := by rw [hop]; kernel_rfl
    obtain ⟨o9, h9⟩ : ∃ o, s5 lw = some (.cells [.sl ((ws ++ [c.col] ++ [c.op] ++ [itoaS c.a]).map strV) o, .v (.bool false)]) := by obtain ⟨_, _, o, _, h4⟩ := t5; exact ⟨o, h4⟩
    have hset := set_self h9
    have hz : (c.b = 0) = True := by simp [hb]
    simp (dsimp := false) (implicitDefEqProofs := false) (disch := first | omega | assumption | (simp only [rL, Nat.reduceAdd]; try omega)) only [↓rA, rZ, List.drop_succ_cons, ne_eq, not_true_eq_false, not_false_eq_true, List.getElem?_cons_zero, List.getElem?_cons_succ, ev, ofConst, ofCell, simprocAttr, Hp.read_of g5, e1, e2, e3, e4, e5, e6, Hp.read_of h9, Hp.stA_of h9, hz, putAt_z1, putAt_sc, hset]
    refine ⟨_, Hp.sub_refl, ?_⟩
    have := t5.base back
    have hne : ¬ w_ge = w_between := by decide
    simpa [condT, hop, hne] using this
def allS (cs : List Cond) : Nat → List (List UInt8)
  | 0 => []
  | i + 1 => allS cs i ++ (if i = 0 then [] else [w_and]) ++ (match cs[i]? with | some c => condT c | none => [])
theorem condT_len (c : Cond) : (condT c).length ≤ 5 := by unfold condT; split <;> simp
theorem allS_len (cs : List Cond) : ∀ i, (allS cs i).length ≤ 6 * i
  | 0 => by simp [allS]
  | i + 1 => by
    have h1 := allS_len cs i
    simp only [allS, List.length_append]
    have h2 : (if i = 0 then [] else [w_and]).length ≤ 1 := by split <;> simp
    have h3 : (match cs[i]? with | some c => condT c | none => ([] : List (List UInt8))).length ≤ 5 := by
      split
      · exact condT_len _
      · simp
    omega
theorem iaSA_cond {cs : List Cond} {av : List AV} {o : Own} {i : Nat} {c : Cond} (hA : AllV condR cs av) (hi : cs[i]? = some c) : iaSA 4 (.sl av o) (.v (.int .i64 (i : Int))) = some (.rptr [strV c.col, strV c.op, .v (.int .i64 c.a), .v (.int .i64 c.b)]) := by
  obtain ⟨a, h1, rfl⟩ := hA.get hi
  have h0 : (0 : Int) ≤ (i : Int) := by omega
  simp only [iaSA, h0, if_true, Int.toNat_natCast, h1]
  rw [elA_some (k := 4) rfl]; rfl
theorem wall_spec (lw : Nat) (cs : List Cond) (hc : ∀ c ∈ cs, CondOk c) (av : List AV) (oc : Own) (hA : AllV condR cs av) (h1 : 0 < cs.length) (h2 : cs.length ≤ 256) (ws : List (List UInt8)) (s0 s : Hp) (hT : Tabs s0) (h : WR lw ws s0 s) (hn : ws.length ≤ 10000) :
    AC Tryz.prog 100 [.ptr lw 0, .sl av oc, strV w_and, .clo 101 [.ptr lw 0] []] s fun _ s' => WR lw (ws ++ allS cs cs.length) s0 s' := by
  refine AC_run hm prep100 (by simp) ?_
  have hlen := hA.len
  obtain ⟨o, h4⟩ : ∃ o, s lw = some (.cells [.sl (ws.map strV) o, .v (.bool false)]) := by obtain ⟨_, _, o, _, h4⟩ := h; exact ⟨o, h4⟩
  have hset := set_self h4
  have z1 : ¬ (cs.length : Int) = 0 := by omega
  have z2 : ¬ (256 : Int) < (cs.length : Int) := by omega
  simp (dsimp := false) (implicitDefEqProofs := false) (disch := first | omega | assumption | (simp only [rL, Nat.reduceAdd]; try omega)) only [↓rA, rZ, List.drop_succ_cons, ne_eq, not_true_eq_false, not_false_eq_true, List.getElem?_cons_zero, List.getElem?_cons_succ, ev, ofConst, ofCell, simprocAttr, Hp.read_of h4, Hp.stA_of h4, hlen, z1, z2, putAt_z1, putAt_sc, hset]
  refine loop_intro (fun f s' => ∃ i : Nat, i ≤ cs.length ∧ WR lw (ws ++ allS cs i) s0 s' ∧ f 0 = .ptr lw 0 ∧ f 2 = strV w_and ∧ f 3 = .clo 101 [.ptr lw 0] [] ∧ f 27 = .sl av oc ∧ f 28 = .v (.int .i64 cs.length) ∧ f 29 = .v (.int .i64 i))
    (fun f _ => match f 29 with | .v (.int _ n) => cs.length - n.toNat | _ => 0) ⟨0, by omega, by rw [show allS cs 0 = [] from rfl, List.append_nil, hset]; exact h, ?_⟩ ?_
  · simp (dsimp := false) (implicitDefEqProofs := false) (disch := first | omega | assumption | (simp only [rL, Nat.reduceAdd]; try omega)) only [↓rA, rZ, List.drop_succ_cons, ne_eq, not_true_eq_false, not_false_eq_true, List.getElem?_cons_zero, List.getElem?_cons_succ, ev, ofConst, ofCell, simprocAttr, hlen]
  · rintro f s' ⟨i, hi, hw, f0, f2, f3, f27, f28, f29⟩
    by_cases hlt : (i : Int) < (cs.length : Int)
    · have hi' : i < cs.length := by omega
      have hel : cs[i]? = some cs[i] := List.getElem?_eq_getElem hi'
      have hmem : cs[i] ∈ cs := List.getElem_mem _
      have hstep : allS cs (i + 1) = allS cs i ++ (if i = 0 then [] else [w_and]) ++ condT cs[i] := by simp only [allS, hel]
      have hsl := allS_len cs i
      generalize cs[i] = c at hel hmem hstep
      simp (dsimp := false) (implicitDefEqProofs := false) (disch := first | omega | assumption | (simp only [rL, Nat.reduceAdd]; try omega)) only [↓rA, rZ, List.drop_succ_cons, ne_eq, not_true_eq_false, not_false_eq_true, List.getElem?_cons_zero, List.getElem?_cons_succ, ev, ofConst, ofCell, simprocAttr, f0, f2, f3, f27, f28, f29, hlt, iaSA_cond hA hel]
      refine newK_intro fun l9 n9 => ?_
      have d9 := hw.ne n9
      have n09 := Hp.sub_none hw.1 n9
      have t1 := (hw.mono (Hp.sub_new (o := .cells [strV c.col, strV c.op, .v (.int .i64 c.a), .v (.int .i64 c.b)]) Hp.sub_refl n9)).with (Hp.set_same _ _ _) d9
      have hT1 : Tabs (s0.set l9 (.cells [strV c.col, strV c.op, .v (.int .i64 c.a), .v (.int .i64 c.b)])) := hT.mono (Hp.sub_new Hp.sub_refl n09)
      have back : (s0.sub (s0.set l9 (.cells [strV c.col, strV c.op, .v (.int .i64 c.a), .v (.int .i64 c.b)]))) := Hp.sub_new Hp.sub_refl n09
      simp (dsimp := false) (implicitDefEqProofs := false) (disch := first | omega | assumption | (simp only [rL, Nat.reduceAdd]; try omega)) only [↓rA, rZ, List.drop_succ_cons, ne_eq, not_true_eq_false, not_false_eq_true, List.getElem?_cons_zero, List.getElem?_cons_succ, ev, ofConst, ofCell, simprocAttr, f0, f2, f3, f27, f28, f29, putAt_full]
      have g29 := f29
      refine cond_join (fun f s2 => WR lw (ws ++ allS cs i ++ (if i = 0 then [] else [w_and])) (s0.set l9 (.cells [strV c.col, strV c.op, .v (.int .i64 c.a), .v (.int .i64 c.b)])) s2 ∧ f 0 = .ptr lw 0 ∧ f 2 = strV w_and ∧ f 3 = .clo 101 [.ptr lw 0] [] ∧ f 27 = .sl av oc ∧ f 28 = .v (.int .i64 cs.length) ∧ f 29 = .v (.int .i64 i) ∧ f 9 = .ptr l9 0) ?_ ?_ ?_
      · intro hcn
        have hc' : ¬ i = 0 := by rw [decide_eq_true_eq] at hcn; omega
        rw [if_neg hc']
        simp (dsimp := false) (implicitDefEqProofs := false) (disch := first | omega | assumption | (simp only [rL, Nat.reduceAdd]; try omega)) only [↓rA, rZ, List.drop_succ_cons, ne_eq, not_true_eq_false, not_false_eq_true, List.getElem?_cons_zero, List.getElem?_cons_succ, ev, ofConst, ofCell, simprocAttr, f0, f2, f3, f27, f28, f29]
        refine bsl_own (s0 := _) Hp.sub_refl (allLen_strs (ws := [w_and])) fun o6 s6 h6 => ?_
        simp (dsimp := false) (implicitDefEqProofs := false) (disch := first | omega | assumption | (simp only [rL, Nat.reduceAdd]; try omega)) only [↓rA, rZ, List.drop_succ_cons, ne_eq, not_true_eq_false, not_false_eq_true, List.getElem?_cons_zero, List.getElem?_cons_succ, ev, ofConst, ofCell, simprocAttr, f0, f2, f3, f27, f28, f29]
        refine call_intro (put_spec lw [w_and] o6 _ _ s6 (t1.mono h6.sub) (by simp; omega)) ?_
        intro r s7 t7
        simp (dsimp := false) (implicitDefEqProofs := false) (disch := first | omega | assumption | (simp only [rL, Nat.reduceAdd]; try omega)) only [↓rA, rZ, List.drop_succ_cons, ne_eq, not_true_eq_false, not_false_eq_true, List.getElem?_cons_zero, List.getElem?_cons_succ, ev, ofConst, ofCell, simprocAttr, f0, f2, f3, f27, f28, f29]
        exact t7
      · intro hcn
        have hc' : i = 0 := by rw [decide_eq_false_iff_not] at hcn; omega
        rw [if_pos hc', List.append_nil]
        simp (dsimp := false) (implicitDefEqProofs := false) (disch := first | omega | assumption | (simp only [rL, Nat.reduceAdd]; try omega)) only [↓rA, rZ, List.drop_succ_cons, ne_eq, not_true_eq_false, not_false_eq_true, List.getElem?_cons_zero, List.getElem?_cons_succ, ev, ofConst, ofCell, simprocAttr, f0, f2, f3, f27, f28, f29]
        exact t1
      clear f0 f2 f3 f27 f28 f29 t1
      rintro f s2 ⟨t2, f0, f2, f3, f27, f28, f29, f9⟩
      have g2 := t2.1 _ _ (Hp.set_same _ _ _)
      simp (dsimp := false) (implicitDefEqProofs := false) (disch := first | omega | assumption | (simp only [rL, Nat.reduceAdd]; try omega)) only [↓rA, rZ, List.drop_succ_cons, ne_eq, not_true_eq_false, not_false_eq_true, List.getElem?_cons_zero, List.getElem?_cons_succ, ev, ofConst, ofCell, simprocAttr, f0, f2, f3, f27, f28, f29, f9, Hp.read_of g2]
      refine callV_intro (by kernel_rfl) (wcond_spec lw c (hc c hmem) _ rfl _ _ s2 hT1 t2 (by
        have : (if i = 0 then [] else [w_and]).length ≤ 1 := by split <;> simp
        simp only [List.length_append]; omega)) ?_
      intro r s3 t3
      simp (dsimp := false) (implicitDefEqProofs := false) (disch := first | omega | assumption | (simp only [rL, Nat.reduceAdd]; try omega)) only [↓rA, rZ, List.drop_succ_cons, ne_eq, not_true_eq_false, not_false_eq_true, List.getElem?_cons_zero, List.getElem?_cons_succ, ev, ofConst, ofCell, simprocAttr, f0, f2, f3, f27, f28, f29, f9]
      refine ⟨⟨i + 1, by omega, ?_, by simp⟩, by simp only [g29]; omega⟩
      rw [hstep]
      have := t3.base back
      simpa using this
    · obtain rfl : i = cs.length := by omega
      simp (dsimp := false) (implicitDefEqProofs := false) (disch := first | omega | assumption | (simp only [rL, Nat.reduceAdd]; try omega)) only [↓rA, rZ, List.drop_succ_cons, ne_eq, not_true_eq_false, not_false_eq_true, List.getElem?_cons_zero, List.getElem?_cons_succ, ev, ofConst, ofCell, simprocAttr, f0, f2, f3, f27, f28, f29, hlt]
      exact ⟨_, Hp.sub_refl, hw⟩
theorem wwhere_spec (lw : Nat) (cs : List Cond) (hc : ∀ c ∈ cs, CondOk c) (av : List AV) (oc : Own) (hA : AllV condR cs av) (h1 : 0 < cs.length) (h2 : cs.length ≤ 256) (ws : List (List UInt8)) (s0 s : Hp) (hT : Tabs s0) (h : WR lw ws s0 s) (hn : ws.length ≤ 5000) :
    AC Tryz.prog 64 [.ptr lw 0, .sl av oc] s fun _ s' => WR lw (ws ++ [w_where] ++ allS cs cs.length) s0 s' := by
  refine AC_run hm prep64 (by simp) ?_
  have hlen := hA.len
  have z1 : (0 : Int) < (cs.length : Int) := by omega
  simp (dsimp := false) (implicitDefEqProofs := false) (disch := first | omega | assumption | (simp only [rL, Nat.reduceAdd]; try omega)) only [↓rA, rZ, List.drop_succ_cons, ne_eq, not_true_eq_false, not_false_eq_true, List.getElem?_cons_zero, List.getElem?_cons_succ, ev, ofConst, ofCell, simprocAttr, hlen, z1]
  refine bsl_own (s0 := _) Hp.sub_refl (allLen_strs (ws := [w_where])) fun o6 s6 h6 => ?_
  simp (dsimp := false) (implicitDefEqProofs := false) (disch := first | omega | assumption | (simp only [rL, Nat.reduceAdd]; try omega)) only [↓rA, rZ, List.drop_succ_cons, ne_eq, not_true_eq_false, not_false_eq_true, List.getElem?_cons_zero, List.getElem?_cons_succ, ev, ofConst, ofCell, simprocAttr]
  refine call_intro (put_spec lw [w_where] o6 _ _ s6 (h.mono h6.sub) (by simp; omega)) ?_
  intro r s7 t7
  simp (dsimp := false) (implicitDefEqProofs := false) (disch := first | omega | assumption | (simp only [rL, Nat.reduceAdd]; try omega)) only [↓rA, rZ, List.drop_succ_cons, ne_eq, not_true_eq_false, not_false_eq_true, List.getElem?_cons_zero, List.getElem?_cons_succ, ev, ofConst, ofCell, simprocAttr]
  refine call_intro (wall_spec lw cs hc av oc hA h1 h2 _ _ s7 hT t7 (by simp; omega)) ?_
  intro r s8 t8
  simp (dsimp := false) (implicitDefEqProofs := false) (disch := first | omega | assumption | (simp only [rL, Nat.reduceAdd]; try omega)) only [↓rA, rZ, List.drop_succ_cons, ne_eq, not_true_eq_false, not_false_eq_true, List.getElem?_cons_zero, List.getElem?_cons_succ, ev, ofConst, ofCell, simprocAttr]
  exact ⟨_, Hp.sub_refl, t8⟩
theorem wafter_none (lw : Nat) (x : AV) (ws : List (List UInt8)) (s0 s : Hp) (h : WR lw ws s0 s) :
    AC Tryz.prog 102 [.ptr lw 0, .v (.int .i64 (-1)), x] s fun _ s' => WR lw ws s0 s' := by
  refine AC_run hm prep102 (by simp) ?_
  simp (dsimp := false) (implicitDefEqProofs := false) (disch := first | omega | assumption | (simp only [rL, Nat.reduceAdd]; try omega)) only [↓rA, rZ, List.drop_succ_cons, ne_eq, not_true_eq_false, not_false_eq_true, List.getElem?_cons_zero, List.getElem?_cons_succ, ev, ofConst, ofCell, simprocAttr]
  exact ⟨_, Hp.sub_refl, h⟩
theorem wafter_spec (lw : Nat) (n : Int) (n0 : 0 ≤ n) (n1 : n ≤ 9223372036854775807) (vs : List (List UInt8)) (ov : Own) (ws : List (List UInt8)) (s0 s : Hp) (hT : Tabs s0) (h : WR lw ws s0 s) (hn : ws.length + vs.length ≤ 5000) :
    AC Tryz.prog 102 [.ptr lw 0, .v (.int .i64 n), .sl (vs.map strV) ov] s fun _ s' => WR lw (ws ++ vs ++ [itoaS n]) s0 s' := by
  refine AC_run hm prep102 (by simp) ?_
  obtain ⟨o, h4⟩ : ∃ o, s lw = some (.cells [.sl (ws.map strV) o, .v (.bool false)]) := by obtain ⟨_, _, o, _, h4⟩ := h; exact ⟨o, h4⟩
  have hset := set_self h4
  have z1 : ¬ n = -1 := by omega
  have z2 : ¬ n < 0 := by omega
  simp (dsimp := false) (implicitDefEqProofs := false) (disch := first | omega | assumption | (simp only [rL, Nat.reduceAdd]; try omega)) only [↓rA, rZ, List.drop_succ_cons, ne_eq, not_true_eq_false, not_false_eq_true, List.getElem?_cons_zero, List.getElem?_cons_succ, ev, ofConst, ofCell, simprocAttr, z1, z2, Hp.read_of h4, Hp.stA_of h4, putAt_z1, putAt_sc, hset]
  refine call_intro (put_spec lw vs ov _ _ s h (by omega)) ?_
  intro r s7 t7
  simp (dsimp := false) (implicitDefEqProofs := false) (disch := first | omega | assumption | (simp only [rL, Nat.reduceAdd]; try omega)) only [↓rA, rZ, List.drop_succ_cons, ne_eq, not_true_eq_false, not_false_eq_true, List.getElem?_cons_zero, List.getElem?_cons_succ, ev, ofConst, ofCell, simprocAttr]
  refine call_intro (wnumber_spec lw n (by omega) n1 _ _ s7 (hT.wr t7) t7 (by simp; omega)) ?_
  intro r s8 t8
  simp (dsimp := false) (implicitDefEqProofs := false) (disch := first | omega | assumption | (simp only [rL, Nat.reduceAdd]; try omega)) only [↓rA, rZ, List.drop_succ_cons, ne_eq, not_true_eq_false, not_false_eq_true, List.getElem?_cons_zero, List.getElem?_cons_succ, ev, ofConst, ofCell, simprocAttr]
  exact ⟨_, Hp.sub_refl, t8⟩
theorem wsorting_spec (lw : Nat) (col : List UInt8) (hv : isNameS col = true) (hk : col ∉ keys) (down : Bool) (o : Own) (ws : List (List UInt8)) (s0 s : Hp) (h : WR lw ws s0 s) (hn : ws.length ≤ 5000) :
    AC Tryz.prog 103 [.ptr lw 0, .agg [strV col, .v (.bool down), .sl [] o]] s fun _ s' => WR lw (ws ++ [w_order, w_by] ++ [col] ++ if down = true then [w_desc] else []) s0 s' := by
  have hne : ¬ col = [] := by rintro rfl; revert hv; decide
  refine AC_run hm prep103 (by simp) ?_
  simp (dsimp := false) (implicitDefEqProofs := false) (disch := first | omega | assumption | (simp only [rL, Nat.reduceAdd]; try omega)) only [↓rA, rZ, List.drop_succ_cons, ne_eq, not_true_eq_false, not_false_eq_true, List.getElem?_cons_zero, List.getElem?_cons_succ, ev, ofConst, ofCell, simprocAttr]
  refine newK_intro fun l3 n3 => ?_
  have d3 := h.ne n3
  have d3' := Ne.symm d3
  have n03 := Hp.sub_none h.1 n3
  have t1 := (h.mono (Hp.sub_new (o := .cells [strV col, .v (.bool down), .sl [] o]) Hp.sub_refl n3)).with (Hp.set_same _ _ _) d3
  have back : (s0.sub (s0.set l3 (.cells [strV col, .v (.bool down), .sl [] o]))) := Hp.sub_new Hp.sub_refl n03
  obtain ⟨ow, h4⟩ : ∃ o', (s.set l3 (.cells [strV col, .v (.bool down), .sl [] o])) lw = some (.cells [.sl (ws.map strV) o', .v (.bool false)]) := by obtain ⟨_, _, o', _, h4⟩ := t1; exact ⟨o', h4⟩
  have hset := set_self h4
  have e1 : binA .neq (strV col) (.v (.string ⟨#[]⟩)) = some (.v (.bool true)) := by
    have := binA_neqS (a := col) (b := [])
    rw [decide_eq_false hne] at this
    exact this
  have hz : ¬ (0 : Int) < (([] : List AV).length : Int) := by simp
  have gS : (s.set l3 (.cells [strV col, .v (.bool down), .sl [] o])) l3 = some (.cells [strV col, .v (.bool down), .sl [] o]) := Hp.set_same _ _ _
  simp (dsimp := false) (implicitDefEqProofs := false) (disch := first | omega | assumption | (simp only [rL, Nat.reduceAdd]; try omega)) only [↓rA, rZ, List.drop_succ_cons, ne_eq, not_true_eq_false, not_false_eq_true, List.getElem?_cons_zero, List.getElem?_cons_succ, ev, ofConst, ofCell, simprocAttr, Hp.read_of gS, e1, Hp.read_of h4, Hp.stA_of h4, putAt_z1, putAt_sc, hset, hz]
  refine bsl_own (s0 := _) Hp.sub_refl (allLen_strs (ws := [w_order, w_by])) fun o6 s6 h6 => ?_
  simp (dsimp := false) (implicitDefEqProofs := false) (disch := first | omega | assumption | (simp only [rL, Nat.reduceAdd]; try omega)) only [↓rA, rZ, List.drop_succ_cons, ne_eq, not_true_eq_false, not_false_eq_true, List.getElem?_cons_zero, List.getElem?_cons_succ, ev, ofConst, ofCell, simprocAttr]
  refine call_intro (put_spec lw [w_order, w_by] o6 _ _ s6 (t1.mono h6.sub) (by simp; omega)) ?_
  intro r s7 t7
  have g7 := t7.1 _ _ (Hp.set_same _ _ _)
  simp (dsimp := false) (implicitDefEqProofs := false) (disch := first | omega | assumption | (simp only [rL, Nat.reduceAdd]; try omega)) only [↓rA, rZ, List.drop_succ_cons, ne_eq, not_true_eq_false, not_false_eq_true, List.getElem?_cons_zero, List.getElem?_cons_succ, ev, ofConst, ofCell, simprocAttr, Hp.read_of g7]
  refine call_intro (wname_spec lw col hv hk _ _ s7 t7 (by simp; omega)) ?_
  intro r s8 t8
  have g8 := t8.1 _ _ (Hp.set_same _ _ _)
  cases down with
  | false =>
    simp (dsimp := false) (implicitDefEqProofs := false) (disch := first | omega | assumption | (simp only [rL, Nat.reduceAdd]; try omega)) only [↓rA, rZ, List.drop_succ_cons, ne_eq, not_true_eq_false, not_false_eq_true, List.getElem?_cons_zero, List.getElem?_cons_succ, ev, ofConst, ofCell, simprocAttr, Hp.read_of g8]
    exact ⟨_, Hp.sub_refl, by simpa using t8.base back⟩
  | true =>
    simp (dsimp := false) (implicitDefEqProofs := false) (disch := first | omega | assumption | (simp only [rL, Nat.reduceAdd]; try omega)) only [↓rA, rZ, List.drop_succ_cons, ne_eq, not_true_eq_false, not_false_eq_true, List.getElem?_cons_zero, List.getElem?_cons_succ, ev, ofConst, ofCell, simprocAttr, Hp.read_of g8]
    refine bsl_own (s0 := _) Hp.sub_refl (allLen_strs (ws := [w_desc])) fun o9 s9 h9 => ?_
    simp (dsimp := false) (implicitDefEqProofs := false) (disch := first | omega | assumption | (simp only [rL, Nat.reduceAdd]; try omega)) only [↓rA, rZ, List.drop_succ_cons, ne_eq, not_true_eq_false, not_false_eq_true, List.getElem?_cons_zero, List.getElem?_cons_succ, ev, ofConst, ofCell, simprocAttr]
    refine call_intro (put_spec lw [w_desc] o9 _ _ s9 (t8.mono h9.sub) (by simp; omega)) ?_
    intro r sA tA
    simp (dsimp := false) (implicitDefEqProofs := false) (disch := first | omega | assumption | (simp only [rL, Nat.reduceAdd]; try omega)) only [↓rA, rZ, List.drop_succ_cons, ne_eq, not_true_eq_false, not_false_eq_true, List.getElem?_cons_zero, List.getElem?_cons_succ, ev, ofConst, ofCell, simprocAttr]
    exact ⟨_, Hp.sub_refl, by simpa using tA.base back⟩
end Go.Proofs.YtgfbealjkdhdbaaGreatDoor
set_option maxRecDepth 100000
namespace Go.Proofs.YtgfbealjkdhdbaaGreatDoor
open Go Go.Av Go.RowKit
theorem flat_strs : ∀ ws : List (List UInt8), flat (ws.map strV) = ws.map strV
  | [] => rfl
  | a :: t => congrArg (strV a :: ·) (flat_strs t)
theorem Join_spec (ws : List (List UInt8)) (o : Own) (sep : List UInt8) (s : Hp) (hn : ws.length ≤ 100000) (hlen : (Lib.join ws sep).length ≤ 1000000000) :
    AC Tryz.prog 43 [.sl (ws.map strV) o, strV sep] s fun r s' => s' = s ∧ r = strV (Lib.join ws sep) := by
  intro vs w H hv hh
  obtain ⟨hsz, hv⟩ := hv
  have h0 := hv 0 _ rfl
  have h1 := RV.ev_v (hv 1 (.v (.string ⟨sep.toArray⟩)) rfl)
  obtain ⟨v0, v1, rfl⟩ : ∃ v0 v1, vs = #[v0, v1] := by
    obtain ⟨l⟩ := vs
    match l, hsz with
    | [a, b], _ => exact ⟨a, b, rfl⟩
  have h1 : v1 = .string ⟨sep.toArray⟩ := h1
  have h0 : RV H v0 (.sl (ws.map strV) o) := h0
  subst h1
  have hmt : ∀ xs : List (List UInt8), (xs.map fun x => (⟨x.toArray⟩ : ByteArray)).map (·.data.toList) = xs := fun xs => by
    induction xs with
    | nil => rfl
    | cons a t ih => exact congrArg (a :: ·) ih
  generalize hxs : ws.map strV = xs at h0
  cases h0 with
  | slEmpty a cap _ ha ho =>
    obtain rfl : ws = [] := by simpa using hxs
    refine (Tryz.strings_Join_none a cap ⟨sep.toArray⟩ w).mono ?_
    rintro e w' ⟨rfl, rfl⟩
    exact ⟨_, _, H, s, rfl, .refl hh, .v _ rfl, rfl, rfl⟩
  | sl b off len cap k vals _ _ hk hl hcap hel hone hH hR ho =>
    subst hxs
    by_cases hne : ws = []
    · subst hne
      obtain rfl : len = 0 := by simpa using hl
      refine (Tryz.strings_Join_none (some ⟨b, off, none⟩) cap ⟨sep.toArray⟩ w).mono ?_
      rintro e w' ⟨rfl, rfl⟩
      exact ⟨_, _, H, s, rfl, .refl hh, .v _ rfl, rfl, rfl⟩
    obtain ⟨x0, r0, hx0⟩ : ∃ x0 r0, ws = x0 :: r0 := by
      cases ws with
      | nil => exact absurd rfl hne
      | cons a t => exact ⟨a, t, rfl⟩
    have hk1 : k = 1 := by
      have := hel (strV x0) (by rw [hx0]; simp)
      exact this.symm
    subst hk1
    have hlw : len = ws.length := by simpa using hl
    have hfl := flat_strs ws
    have hcell : ∀ (j : Nat) (x : ByteArray), (ws.map fun x => (⟨x.toArray⟩ : ByteArray))[j]? = some x → w.cell? ⟨b, off + j, none⟩ = some (.string x) := by
      intro j x hj
      simp only [List.getElem?_map, Option.map_eq_some_iff] at hj
      obtain ⟨y, hy, rfl⟩ := hj
      have hjl : j < ws.length := (List.getElem?_eq_some_iff.1 hy).1
      have hr := RV.ev_v (hR j (.v (.string ⟨y.toArray⟩)) (by rw [hfl, List.getElem?_map, hy]; rfl))
      rw [hh.ro b (off + j) (vals j) (hH j (by omega)), hr]
    have hbk : b < w.heap.size := hh.lt (hH 0 (by rw [hlw, hx0]; simp))
    have hc := Tryz.strings_Join b off cap (ws.map fun x => (⟨x.toArray⟩ : ByteArray)) ⟨sep.toArray⟩ w hcell hbk (by simp; omega) (by simp; omega) (by rw [hmt]; simp; omega)
    rw [List.length_map, ← hlw, hmt] at hc
    refine hc.mono ?_
    rintro e w' ⟨rfl, hb⟩
    exact ⟨_, _, H, s, rfl, Step.below hh hb, .v _ rfl, rfl, rfl⟩
end Go.Proofs.YtgfbealjkdhdbaaGreatDoor
set_option maxRecDepth 100000
namespace Go.Proofs.YtgfbealjkdhdbaaGreatDoor
open Go Go.Av
structure SelOk (x : Sel) : Prop where
  tab : isNameS x.tab = true
  tkey : x.tab ∉ keys
  count : x.count = false
  asof : x.asof = -1
  wh : ∀ c ∈ x.wh, CondOk c
  wh1 : 0 < x.wh.length
  wh2 : x.wh.length ≤ 100
  col : isNameS x.srt.col = true
  ckey : x.srt.col ∉ keys
  pt : x.srt.pt = []
  lim : 0 ≤ x.lim ∧ x.lim ≤ 9223372036854775807
def selT (x : Sel) : List (List UInt8) :=
  [w_select] ++ [w_star] ++ [w_from] ++ [x.tab] ++ [w_where] ++ allS x.wh x.wh.length ++ [w_order, w_by] ++ [x.srt.col] ++ (if x.srt.down = true then [w_desc] else []) ++ [w_limit] ++ [itoaS x.lim]
def SelV (x : Sel) (av : List AV) (ow op : Own) : List AV := [strV x.tab, .v (.bool x.count), .v (.int .i64 x.asof), .sl av ow, strV x.srt.col, .v (.bool x.srt.down), .sl [] op, .v (.int .i64 x.lim)]
theorem SelV_cells {x : Sel} {av : List AV} {ow op : Own} : (AV.agg (SelV x av ow op)).cells = SelV x av ow op := rfl
theorem SelV_len {x : Sel} {av : List AV} {ow op : Own} : (SelV x av ow op).length = 8 := rfl
theorem rdS0 {x : Sel} {av : List AV} {ow op : Own} : rdA false 1 0 (some (SelV x av ow op)) = some (strV x.tab) := rfl
theorem rdS1 {x : Sel} {av : List AV} {ow op : Own} : rdA false 1 1 (some (SelV x av ow op)) = some (.v (.bool x.count)) := rfl
theorem rdS2 {x : Sel} {av : List AV} {ow op : Own} : rdA false 1 2 (some (SelV x av ow op)) = some (.v (.int .i64 x.asof)) := rfl
theorem rdS3 {x : Sel} {av : List AV} {ow op : Own} : rdA false 1 3 (some (SelV x av ow op)) = some (.sl av ow) := rfl
theorem rdS4 {x : Sel} {av : List AV} {ow op : Own} : rdA true 3 4 (some (SelV x av ow op)) = some (.agg [strV x.srt.col, .v (.bool x.srt.down), .sl [] op]) := rfl
theorem rdS7 {x : Sel} {av : List AV} {ow op : Own} : rdA false 1 7 (some (SelV x av ow op)) = some (.v (.int .i64 x.lim)) := rfl
theorem rdSA {x : Sel} {av : List AV} {ow op : Own} : rdA true 8 0 (some (SelV x av ow op)) = some (.agg (SelV x av ow op)) := rfl
theorem putS {x : Sel} {av : List AV} {ow op : Own} {xs : List AV} (h : xs.length = 8) : putAt xs 0 (SelV x av ow op) = SelV x av ow op := by simp [putAt, h, SelV_len]
def rSel := And.intro @SelV_cells <| And.intro @SelV_len <| And.intro @rdS0 <| And.intro @rdS1 <| And.intro @rdS2 <| And.intro @rdS3 <| And.intro @rdS4 <| And.intro @rdS7 @rdSA
theorem wselection_spec (lw : Nat) (x : Sel) (hx : SelOk x) (av : List AV) (ow op : Own) (hA : AllV condR x.wh av) (s0 s : Hp) (hT : Tabs s0) (h : WR lw [] s0 s) :
    AC Tryz.prog 68 [.ptr lw 0, .agg (SelV x av ow op)] s fun _ s' => WR lw (selT x) s0 s' := by
  refine AC_run hm prep68 (by simp) ?_
  simp (dsimp := false) (implicitDefEqProofs := false) (disch := first | omega | assumption | (simp only [rL, Nat.reduceAdd]; try omega)) only [↓rA, rZ, List.drop_succ_cons, ne_eq, not_true_eq_false, not_false_eq_true, List.getElem?_cons_zero, List.getElem?_cons_succ, ev, ofConst, ofCell, simprocAttr, rSel]
  refine newK_intro fun l3 n3 => ?_
  have d3 := h.ne n3
  have n03 := Hp.sub_none h.1 n3
  have t1 := (h.mono (Hp.sub_new (o := .cells (SelV x av ow op)) Hp.sub_refl n3)).with (Hp.set_same _ _ _) d3
  have hT1 : Tabs (s0.set l3 (.cells (SelV x av ow op))) := hT.mono (Hp.sub_new Hp.sub_refl n03)
  have back : (s0.sub (s0.set l3 (.cells (SelV x av ow op)))) := Hp.sub_new Hp.sub_refl n03
  simp (dsimp := false) (implicitDefEqProofs := false) (disch := first | omega | assumption | (simp only [rL, Nat.reduceAdd]; try omega)) only [↓rA, rZ, List.drop_succ_cons, ne_eq, not_true_eq_false, not_false_eq_true, List.getElem?_cons_zero, List.getElem?_cons_succ, ev, ofConst, ofCell, simprocAttr, rSel]
  refine bsl_own (s0 := _) Hp.sub_refl (allLen_strs (ws := [w_select])) fun o4 s4 h4 => ?_
  simp (dsimp := false) (implicitDefEqProofs := false) (disch := first | omega | assumption | (simp only [rL, Nat.reduceAdd]; try omega)) only [↓rA, rZ, List.drop_succ_cons, ne_eq, not_true_eq_false, not_false_eq_true, List.getElem?_cons_zero, List.getElem?_cons_succ, ev, ofConst, ofCell, simprocAttr]
  refine call_intro (put_spec lw [w_select] o4 _ _ s4 (t1.mono h4.sub) (by simp)) ?_
  intro r s5 t5
  have g5 := t5.1 _ _ (Hp.set_same _ _ _)
  have hcnt := hx.count
  simp (dsimp := false) (implicitDefEqProofs := false) (disch := first | omega | assumption | (simp only [rL, Nat.reduceAdd]; try omega)) only [↓rA, rZ, List.drop_succ_cons, ne_eq, not_true_eq_false, not_false_eq_true, List.getElem?_cons_zero, List.getElem?_cons_succ, ev, ofConst, ofCell, simprocAttr, Hp.read_of g5, rSel, hcnt]
  refine bsl_own (s0 := _) Hp.sub_refl (allLen_strs (ws := [w_star])) fun o6 s6 h6 => ?_
  simp (dsimp := false) (implicitDefEqProofs := false) (disch := first | omega | assumption | (simp only [rL, Nat.reduceAdd]; try omega)) only [↓rA, rZ, List.drop_succ_cons, ne_eq, not_true_eq_false, not_false_eq_true, List.getElem?_cons_zero, List.getElem?_cons_succ, ev, ofConst, ofCell, simprocAttr]
  refine call_intro (put_spec lw [w_star] o6 _ _ s6 (t5.mono h6.sub) (by simp)) ?_
  intro r s7 t7
  simp (dsimp := false) (implicitDefEqProofs := false) (disch := first | omega | assumption | (simp only [rL, Nat.reduceAdd]; try omega)) only [↓rA, rZ, List.drop_succ_cons, ne_eq, not_true_eq_false, not_false_eq_true, List.getElem?_cons_zero, List.getElem?_cons_succ, ev, ofConst, ofCell, simprocAttr]
  refine bsl_own (s0 := _) Hp.sub_refl (allLen_strs (ws := [w_from])) fun o8 s8 h8 => ?_
  simp (dsimp := false) (implicitDefEqProofs := false) (disch := first | omega | assumption | (simp only [rL, Nat.reduceAdd]; try omega)) only [↓rA, rZ, List.drop_succ_cons, ne_eq, not_true_eq_false, not_false_eq_true, List.getElem?_cons_zero, List.getElem?_cons_succ, ev, ofConst, ofCell, simprocAttr]
  refine call_intro (put_spec lw [w_from] o8 _ _ s8 (t7.mono h8.sub) (by simp)) ?_
  intro r s9 t9
  have g9 := t9.1 _ _ (Hp.set_same _ _ _)
  simp (dsimp := false) (implicitDefEqProofs := false) (disch := first | omega | assumption | (simp only [rL, Nat.reduceAdd]; try omega)) only [↓rA, rZ, List.drop_succ_cons, ne_eq, not_true_eq_false, not_false_eq_true, List.getElem?_cons_zero, List.getElem?_cons_succ, ev, ofConst, ofCell, simprocAttr, Hp.read_of g9, rSel]
  refine call_intro (wname_spec lw x.tab hx.tab hx.tkey _ _ s9 t9 (by simp)) ?_
  intro r sA tA
  have gA := tA.1 _ _ (Hp.set_same _ _ _)
  have hasof := hx.asof
  simp (dsimp := false) (implicitDefEqProofs := false) (disch := first | omega | assumption | (simp only [rL, Nat.reduceAdd]; try omega)) only [↓rA, rZ, List.drop_succ_cons, ne_eq, not_true_eq_false, not_false_eq_true, List.getElem?_cons_zero, List.getElem?_cons_succ, ev, ofConst, ofCell, simprocAttr, Hp.read_of gA, rSel, hasof]
  refine bsl_own (s0 := _) Hp.sub_refl (allLen_strs (ws := [w_as, w_of])) fun oB sB hB => ?_
  simp (dsimp := false) (implicitDefEqProofs := false) (disch := first | omega | assumption | (simp only [rL, Nat.reduceAdd]; try omega)) only [↓rA, rZ, List.drop_succ_cons, ne_eq, not_true_eq_false, not_false_eq_true, List.getElem?_cons_zero, List.getElem?_cons_succ, ev, ofConst, ofCell, simprocAttr]
  refine call_intro (wafter_none lw _ _ _ sB (tA.mono hB.sub)) ?_
  intro r sC tC
  have gC := tC.1 _ _ (Hp.set_same _ _ _)
  simp (dsimp := false) (implicitDefEqProofs := false) (disch := first | omega | assumption | (simp only [rL, Nat.reduceAdd]; try omega)) only [↓rA, rZ, List.drop_succ_cons, ne_eq, not_true_eq_false, not_false_eq_true, List.getElem?_cons_zero, List.getElem?_cons_succ, ev, ofConst, ofCell, simprocAttr, Hp.read_of gC, rSel]
  refine call_intro (wwhere_spec lw x.wh hx.wh av ow hA hx.wh1 (by have := hx.wh2; omega) _ _ sC hT1 tC (by simp)) ?_
  intro r sD tD
  have gD := tD.1 _ _ (Hp.set_same _ _ _)
  have hal := allS_len x.wh x.wh.length
  have hw2 := hx.wh2
  simp (dsimp := false) (implicitDefEqProofs := false) (disch := first | omega | assumption | (simp only [rL, Nat.reduceAdd]; try omega)) only [↓rA, rZ, List.drop_succ_cons, ne_eq, not_true_eq_false, not_false_eq_true, List.getElem?_cons_zero, List.getElem?_cons_succ, ev, ofConst, ofCell, simprocAttr, Hp.read_of gD, rSel]
  refine call_intro (wsorting_spec lw x.srt.col hx.col hx.ckey x.srt.down op _ _ sD tD (by simp; omega)) ?_
  intro r sE tE
  have gE := tE.1 _ _ (Hp.set_same _ _ _)
  simp (dsimp := false) (implicitDefEqProofs := false) (disch := first | omega | assumption | (simp only [rL, Nat.reduceAdd]; try omega)) only [↓rA, rZ, List.drop_succ_cons, ne_eq, not_true_eq_false, not_false_eq_true, List.getElem?_cons_zero, List.getElem?_cons_succ, ev, ofConst, ofCell, simprocAttr, Hp.read_of gE, rSel]
  refine bsl_own (s0 := _) Hp.sub_refl (allLen_strs (ws := [w_limit])) fun oF sF hF => ?_
  simp (dsimp := false) (implicitDefEqProofs := false) (disch := first | omega | assumption | (simp only [rL, Nat.reduceAdd]; try omega)) only [↓rA, rZ, List.drop_succ_cons, ne_eq, not_true_eq_false, not_false_eq_true, List.getElem?_cons_zero, List.getElem?_cons_succ, ev, ofConst, ofCell, simprocAttr]
  refine call_intro (wafter_spec lw x.lim hx.lim.1 hx.lim.2 [w_limit] oF _ _ sF hT1 (tE.mono hF.sub) (by
    have : (if x.srt.down = true then [w_desc] else []).length ≤ 1 := by split <;> simp
    simp only [List.length_append, List.length_cons, List.length_nil]; omega)) ?_
  intro r sG tG
  simp (dsimp := false) (implicitDefEqProofs := false) (disch := first | omega | assumption | (simp only [rL, Nat.reduceAdd]; try omega)) only [↓rA, rZ, List.drop_succ_cons, ne_eq, not_true_eq_false, not_false_eq_true, List.getElem?_cons_zero, List.getElem?_cons_succ, ev, ofConst, ofCell, simprocAttr]
  refine ⟨_, Hp.sub_refl, ?_⟩
  have := tG.base back
  simpa [selT] using this
theorem wstatement_spec (lw : Nat) (x : Sel) (hx : SelOk x) (av : List AV) (ow op : Own) (hA : AllV condR x.wh av) (s0 s : Hp) (hT : Tabs s0) (h : WR lw [] s0 s) :
    AC Tryz.prog 42 [.ptr lw 0, .iface 99 (.agg (SelV x av ow op))] s fun _ s' => WR lw (selT x) s0 s' := by
  refine AC_run hm prep42 (by simp) ?_
  simp (dsimp := false) (implicitDefEqProofs := false) (disch := first | omega | assumption | (simp only [rL, Nat.reduceAdd]; try omega)) only [↓rA, rZ, List.drop_succ_cons, ne_eq, not_true_eq_false, not_false_eq_true, List.getElem?_cons_zero, List.getElem?_cons_succ, ev, ofConst, ofCell, simprocAttr]
  refine newK_intro fun l2 n2 => ?_
  have d2 := h.ne n2
  have n02 := Hp.sub_none h.1 n2
  have t1 := (h.mono (Hp.sub_new (o := .cells [.ptr lw 0]) Hp.sub_refl n2)).with (Hp.set_same _ _ _) d2
  have hT1 : Tabs (s0.set l2 (.cells [.ptr lw 0])) := hT.mono (Hp.sub_new Hp.sub_refl n02)
  have back : (s0.sub (s0.set l2 (.cells [.ptr lw 0]))) := Hp.sub_new Hp.sub_refl n02
  have k1 : (99 : TypeId) ≠ 89 := by decide
  have k2 : (99 : TypeId) ≠ 91 := by decide
  have k3 : (99 : TypeId) ≠ 93 := by decide
  have k4 : (99 : TypeId) ≠ 95 := by decide
  have k5 : (99 : TypeId) ≠ 97 := by decide
  simp (dsimp := false) (implicitDefEqProofs := false) (disch := first | omega | assumption | (simp only [rL, Nat.reduceAdd]; try omega)) only [↓rA, rZ, List.drop_succ_cons, ne_eq, not_true_eq_false, not_false_eq_true, List.getElem?_cons_zero, List.getElem?_cons_succ, ev, ofConst, ofCell, simprocAttr, asrtA_yes, asrtA_no]
  refine newK_intro fun l9 n9 => ?_
  have d9 : l2 ≠ l9 := by rintro rfl; rw [Hp.set_same] at n9; cases n9
  have d9' := Ne.symm d9
  simp (dsimp := false) (implicitDefEqProofs := false) (disch := first | omega | assumption | (simp only [rL, Nat.reduceAdd]; try omega)) only [↓rA, rZ, List.drop_succ_cons, ne_eq, not_true_eq_false, not_false_eq_true, List.getElem?_cons_zero, List.getElem?_cons_succ, ev, ofConst, ofCell, simprocAttr, rSel, Hp.set_ne, d9, d9', putS]
  refine call_intro (wselection_spec lw x hx av ow op hA _ _ hT1 (t1.mono (Hp.sub_new Hp.sub_refl n9))) ?_
  intro r s5 t5
  simp (dsimp := false) (implicitDefEqProofs := false) (disch := first | omega | assumption | (simp only [rL, Nat.reduceAdd]; try omega)) only [↓rA, rZ, List.drop_succ_cons, ne_eq, not_true_eq_false, not_false_eq_true, List.getElem?_cons_zero, List.getElem?_cons_succ, ev, ofConst, ofCell, simprocAttr]
  exact ⟨_, Hp.sub_refl, t5.base back⟩
theorem pText_spec (x : Sel) (hx : SelOk x) (av : List AV) (ow op : Own) (hA : AllV condR x.wh av) (s : Hp) (hT : Tabs s) (hle : (Lib.join (selT x) [32]).length ≤ 1000000) :
    AC Tryz.prog 24 [.iface 99 (.agg (SelV x av ow op))] s fun r s' => s.sub s' ∧ r = .tup [strV (Lib.join (selT x) [32]), .v (.bool true)] := by
  refine AC_run hm prep24 (by simp) ?_
  simp (dsimp := false) (implicitDefEqProofs := false) (disch := first | omega | assumption | (simp only [rL, Nat.reduceAdd]; try omega)) only [↓rA, rZ, List.drop_succ_cons, ne_eq, not_true_eq_false, not_false_eq_true, List.getElem?_cons_zero, List.getElem?_cons_succ, ev, ofConst, ofCell, simprocAttr]
  refine newK_intro fun lw nw => ?_
  have h0 : WR lw [] s (s.set lw (.cells [.sl [] .nil, .v (.bool false)])) := ⟨Hp.sub_new Hp.sub_refl nw, nw, .nil, Owned.nil (Hp.sub_new Hp.sub_refl nw), Hp.set_same _ _ _⟩
  simp (dsimp := false) (implicitDefEqProofs := false) (disch := first | omega | assumption | (simp only [rL, Nat.reduceAdd]; try omega)) only [↓rA, rZ, List.drop_succ_cons, ne_eq, not_true_eq_false, not_false_eq_true, List.getElem?_cons_zero, List.getElem?_cons_succ, ev, ofConst, ofCell, simprocAttr]
  refine call_intro (wstatement_spec lw x hx av ow op hA s _ hT h0) ?_
  intro r s2 t2
  obtain ⟨h1, h2, o, h3, h4⟩ := t2
  simp (dsimp := false) (implicitDefEqProofs := false) (disch := first | omega | assumption | (simp only [rL, Nat.reduceAdd]; try omega)) only [↓rA, rZ, List.drop_succ_cons, ne_eq, not_true_eq_false, not_false_eq_true, List.getElem?_cons_zero, List.getElem?_cons_succ, ev, ofConst, ofCell, simprocAttr, Hp.read_of h4]
  refine call_intro (Join_spec (selT x) o [32] s2 (by
    have hal := allS_len x.wh x.wh.length
    have hw2 := hx.wh2
    have : (if x.srt.down = true then [w_desc] else []).length ≤ 1 := by split <;> simp
    simp only [selT, List.length_append, List.length_cons, List.length_nil]; omega) (by omega)) ?_
  rintro _ _ ⟨rfl, rfl⟩
  simp (dsimp := false) (implicitDefEqProofs := false) (disch := first | omega | assumption | (simp only [rL, Nat.reduceAdd]; try omega)) only [↓rA, rZ, List.drop_succ_cons, ne_eq, not_true_eq_false, not_false_eq_true, List.getElem?_cons_zero, List.getElem?_cons_succ, ev, ofConst, ofCell, simprocAttr]
  exact ⟨_, Hp.sub_refl, h1⟩
end Go.Proofs.YtgfbealjkdhdbaaGreatDoor
set_option maxRecDepth 100000
namespace Go.Proofs.YtgfbealjkdhdbaaGreatDoor
open Go Go.Av
def X1 : Sel := ⟨[116], false, -1, [⟨[97], w_ge, 1, 0⟩, ⟨[98], w_between, 2, 3⟩], ⟨[97], true, []⟩, 5⟩
theorem p1 : parseT [83, 69, 76, 69, 67, 84, 32, 42, 32, 70, 82, 79, 77, 32, 116, 32, 87, 72, 69, 82, 69, 32, 97, 32, 62, 61, 32, 49, 32, 65, 78, 68, 32, 98, 32, 66, 69, 84, 87, 69, 69, 78, 32, 50, 32, 65, 78, 68, 32, 51, 32, 79, 82, 68, 69, 82, 32, 66, 89, 32, 97, 32, 68, 69, 83, 67, 32, 76, 73, 77, 73, 84, 32, 53] = .ok (.sel X1) := by kernel_rfl
theorem p2 : parseT [105, 110, 115, 101, 114, 116, 32, 105, 110, 116, 111, 32, 116, 32, 118, 97, 108, 117, 101, 115, 32, 40, 49, 44, 32, 50, 41, 44, 32, 40, 51, 44, 32, 52, 41] = .ok (.insert [116] [[1, 2], [3, 4]]) := by kernel_rfl
theorem p3 : parseT [115, 101, 108, 101, 99, 116, 32, 42, 32, 102, 114, 111, 109, 32, 102, 114, 111, 109] = .error 2 := by kernel_rfl
theorem p4 : parseT [115, 101, 108, 101, 99, 116, 32, 42, 32, 102, 114, 111, 109, 32, 116, 32, 108, 105, 109, 105, 116, 32, 45, 49] = .error 7 := by kernel_rfl
theorem p5 : Lib.join (selT X1) [32] = [115, 101, 108, 101, 99, 116, 32, 42, 32, 102, 114, 111, 109, 32, 116, 32, 119, 104, 101, 114, 101, 32, 97, 32, 62, 61, 32, 49, 32, 97, 110, 100, 32, 98, 32, 98, 101, 116, 119, 101, 101, 110, 32, 50, 32, 97, 110, 100, 32, 51, 32, 111, 114, 100, 101, 114, 32, 98, 121, 32, 97, 32, 100, 101, 115, 99, 32, 108, 105, 109, 105, 116, 32, 53] := by kernel_rfl
theorem X1_ok : SelOk X1 where
  tab := by decide
  tkey := by decide
  count := rfl
  asof := rfl
  wh := by
    intro c hc
    simp only [X1, List.mem_cons, List.not_mem_nil, or_false] at hc
    rcases hc with rfl | rfl
    · exact ⟨by decide, by decide, .inr ⟨rfl, rfl⟩, by decide, by decide⟩
    · exact ⟨by decide, by decide, .inl rfl, by decide, by decide⟩
  wh1 := by decide
  wh2 := by decide
  col := by decide
  ckey := by decide
  pt := rfl
  lim := by decide
theorem alive24_spec (s : Hp) (hT : Tabs s) : AC Tryz.prog 9 [] s fun r s' => s.sub s' ∧ r = .v (.bool true) := by
  refine AC_run hm prep9 (by simp) ?_
  obtain ⟨X, hX⟩ : ∃ X, X = X1 := ⟨_, rfl⟩
  have hp1 := p1
  have hp5 := p5
  have hok := X1_ok
  rw [← hX] at hp1 hp5 hok
  clear hX
  simp (dsimp := false) (implicitDefEqProofs := false) (disch := first | omega | assumption | (simp only [rL, Nat.reduceAdd]; try omega)) only [↓rA, rZ, List.drop_succ_cons, ne_eq, not_true_eq_false, not_false_eq_true, List.getElem?_cons_zero, List.getElem?_cons_succ, ev, ofConst, ofCell, simprocAttr]
  refine call_intro (Parse_spec _ s hT) ?_
  rintro r s1 ⟨h1, hr⟩
  rw [hp1] at hr
  obtain ⟨a, ⟨c, p, ⟨aw, ow, hAw, rfl⟩, ⟨ap, op, hAp, rfl⟩, rfl⟩, rfl⟩ := hr
  rw [hok.pt] at hAp
  obtain rfl : ap = [] := by
    cases ap with
    | nil => rfl
    | cons _ _ => exact hAp.elim
  have hT1 := hT.mono h1
  have eV : (AV.agg [strV X.tab, .v (.bool X.count), .v (.int .i64 X.asof), .sl aw ow, strV X.srt.col, .v (.bool X.srt.down), .sl [] op, .v (.int .i64 X.lim)]) = .agg (SelV X aw ow op) := rfl
  rw [eV]
  simp (dsimp := false) (implicitDefEqProofs := false) (disch := first | omega | assumption | (simp only [rL, Nat.reduceAdd]; try omega)) only [↓rA, rZ, List.drop_succ_cons, ne_eq, not_true_eq_false, not_false_eq_true, List.getElem?_cons_zero, List.getElem?_cons_succ, ev, ofConst, ofCell, simprocAttr]
  refine call_intro (pText_spec X hok aw ow op hAw s1 hT1 (by rw [hp5]; decide)) ?_
  rintro _ s2 ⟨h2, rfl⟩
  rw [hp5]
  have hT2 := hT1.mono h2
  simp (dsimp := false) (implicitDefEqProofs := false) (disch := first | omega | assumption | (simp only [rL, Nat.reduceAdd]; try omega)) only [↓rA, rZ, List.drop_succ_cons, ne_eq, not_true_eq_false, not_false_eq_true, List.getElem?_cons_zero, List.getElem?_cons_succ, ev, ofConst, ofCell, simprocAttr, strV]
  refine call_intro (Parse_spec _ s2 hT2) ?_
  rintro r s3 ⟨h3, hr⟩
  rw [p2] at hr
  obtain ⟨b, hb, rfl⟩ := hr
  have hT3 := hT2.mono h3
  simp (dsimp := false) (implicitDefEqProofs := false) (disch := first | omega | assumption | (simp only [rL, Nat.reduceAdd]; try omega)) only [↓rA, rZ, List.drop_succ_cons, ne_eq, not_true_eq_false, not_false_eq_true, List.getElem?_cons_zero, List.getElem?_cons_succ, ev, ofConst, ofCell, simprocAttr]
  refine call_intro (Parse_spec _ s3 hT3) ?_
  rintro r s4 ⟨h4, hr⟩
  rw [p3] at hr
  obtain rfl := hr
  have hT4 := hT3.mono h4
  simp (dsimp := false) (implicitDefEqProofs := false) (disch := first | omega | assumption | (simp only [rL, Nat.reduceAdd]; try omega)) only [↓rA, rZ, List.drop_succ_cons, ne_eq, not_true_eq_false, not_false_eq_true, List.getElem?_cons_zero, List.getElem?_cons_succ, ev, ofConst, ofCell, simprocAttr]
  refine call_intro (Parse_spec _ s4 hT4) ?_
  rintro r s5 ⟨h5, hr⟩
  rw [p4] at hr
  obtain rfl := hr
  simp (dsimp := false) (implicitDefEqProofs := false) (disch := first | omega | assumption | (simp only [rL, Nat.reduceAdd]; try omega)) only [↓rA, rZ, List.drop_succ_cons, ne_eq, not_true_eq_false, not_false_eq_true, List.getElem?_cons_zero, List.getElem?_cons_succ, ev, ofConst, ofCell, simprocAttr]
  refine call_intro (Of_spec _ b hb s5) ?_
  rintro _ s6 ⟨h6, cs, ⟨_, r0, _, _, _, _, ⟨ar, or0, hAr, rfl⟩, _, _, _, rfl⟩, rfl⟩
  have hlr : ((ar.length : Nat) : Int) = 2 := by rw [hAr.len]; rfl
  have c2 : ((2 : Nat) : Int) = 2 := rfl
  have c7 : ((7 : Nat) : Int) = 7 := rfl
  simp (dsimp := false) (implicitDefEqProofs := false) (disch := first | omega | assumption | (simp only [rL, Nat.reduceAdd]; try omega)) only [↓rA, rZ, List.drop_succ_cons, ne_eq, not_true_eq_false, not_false_eq_true, List.getElem?_cons_zero, List.getElem?_cons_succ, ev, ofConst, ofCell, simprocAttr, hlr, c2, c7]
  exact ⟨_, Hp.sub_refl, Hp.sub_trans h1 (Hp.sub_trans h2 (Hp.sub_trans h3 (Hp.sub_trans h4 (Hp.sub_trans h5 h6))))⟩
end Go.Proofs.YtgfbealjkdhdbaaGreatDoor
set_option maxRecDepth 100000
namespace Go.Proofs.YtgfbealjkdhdbaaGreatDoor
open Go Go.Av
theorem up_ge {b : UInt8} (h : 97 ≤ b.toNat) (h2 : b.toNat ≤ 122) : IntKind.u8.wrap ((b.toNat : Int) - 32) = ((Lib.upperB b).toNat : Int) := by
  have h1 := u8all (p := fun b => !(decide (97 ≤ b.toNat) && decide (b.toNat ≤ 122)) || decide ((Lib.upperB b).toNat + 32 = b.toNat)) (by kernel_rfl) b
  simp [h, h2] at h1
  rw [wrap_u8 (by omega) (by omega)]; omega
theorem up_lt {b : UInt8} (h : ¬ (97 ≤ b.toNat ∧ b.toNat ≤ 122)) : Lib.upperB b = b := by
  have h1 := u8all (p := fun b => (decide (97 ≤ b.toNat) && decide (b.toNat ≤ 122)) || Lib.upperB b == b) (by kernel_rfl) b
  simp only [Bool.or_eq_true, Bool.and_eq_true, decide_eq_true_eq, beq_iff_eq] at h1
  exact h1.resolve_left h
theorem ParseSmall_spec (x : List UInt8) (s : Hp) (hT : Tabs s) :
    AC Tryz.prog 4 [strV x] s fun r _ => r = .v (.bool true) := by
  refine AC_run hm prep4 (by simp) ?_
  simp (dsimp := false) (implicitDefEqProofs := false) (disch := first | omega | assumption | (simp only [rL, Nat.reduceAdd]; try omega)) only [↓rA, rZ, List.drop_succ_cons, ne_eq, not_true_eq_false, not_false_eq_true, List.getElem?_cons_zero, List.getElem?_cons_succ, ev, ofConst, ofCell, simprocAttr]
  refine call_intro (alive24_spec _ hT) ?_
  rintro _ s1 ⟨hs1, rfl⟩
  by_cases c1 : (400 : Int) < (x.length : Int)
  · simp (dsimp := false) (implicitDefEqProofs := false) (disch := first | omega | assumption | (simp only [rL, Nat.reduceAdd]; try omega)) only [↓rA, rZ, List.drop_succ_cons, ne_eq, not_true_eq_false, not_false_eq_true, List.getElem?_cons_zero, List.getElem?_cons_succ, ev, ofConst, ofCell, simprocAttr, lenTS, c1]
    exact ⟨_, Hp.sub_refl⟩
  simp (dsimp := false) (implicitDefEqProofs := false) (disch := first | omega | assumption | (simp only [rL, Nat.reduceAdd]; try omega)) only [↓rA, rZ, List.drop_succ_cons, ne_eq, not_true_eq_false, not_false_eq_true, List.getElem?_cons_zero, List.getElem?_cons_succ, ev, ofConst, ofCell, simprocAttr, lenTS, c1]
  refine call_intro (refLex_spec x s1) ?_
  intro r s2 h2
  cases hx : lexT x with
  | error e =>
    rw [hx] at h2
    obtain ⟨h2, rfl⟩ := h2
    have he : ¬ ((e : Nat) : Int) = 0 := by rcases lexT_err hx with h | h | h <;> omega
    simp (dsimp := false) (implicitDefEqProofs := false) (disch := first | omega | assumption | (simp only [rL, Nat.reduceAdd]; try omega)) only [↓rA, rZ, List.drop_succ_cons, ne_eq, not_true_eq_false, not_false_eq_true, List.getElem?_cons_zero, List.getElem?_cons_succ, ev, ofConst, ofCell, simprocAttr, he]
    exact ⟨_, Hp.sub_refl⟩
  | ok ts =>
    rw [hx] at h2
    obtain ⟨o2, h2, rfl⟩ := h2
    obtain ⟨l1, l2⟩ := lexT_len hx
    simp (dsimp := false) (implicitDefEqProofs := false) (disch := first | omega | assumption | (simp only [rL, Nat.reduceAdd]; try omega)) only [↓rA, rZ, List.drop_succ_cons, ne_eq, not_true_eq_false, not_false_eq_true, List.getElem?_cons_zero, List.getElem?_cons_succ, ev, ofConst, ofCell, simprocAttr]
    refine call_intro (refText_spec ts o2 s2 (by omega) (by omega)) ?_
    rintro _ _ ⟨rfl, rfl⟩
    have hsm := small_parse hx
    generalize joinT (texts ts) = t at hsm l1
    have hs2 := Hp.sub_trans hs1 h2.sub
    simp (dsimp := false) (implicitDefEqProofs := false) (disch := first | omega | assumption | (simp only [rL, Nat.reduceAdd]; try omega)) only [↓rA, rZ, List.drop_succ_cons, ne_eq, not_true_eq_false, not_false_eq_true, List.getElem?_cons_zero, List.getElem?_cons_succ, ev, ofConst, ofCell, simprocAttr]
    refine loop_intro (fun f s' => ∃ (i : Nat) (o : Own), i ≤ t.length ∧ Owned s s' 1 (((t.take i).flatMap expB).map byteAV) o ∧ f 0 = strV x ∧ f 5 = strV t ∧ f 6 = .sl (((t.take i).flatMap expB).map byteAV) o ∧ f 7 = .v (.int .i64 i))
      (fun f _ => match f 7 with | .v (.int _ n) => t.length - n.toNat | _ => 0) ⟨0, .nil, by omega, Owned.nil hs2, ?_⟩ ?_
    · simp (dsimp := false) (implicitDefEqProofs := false) (disch := first | omega | assumption | (simp only [rL, Nat.reduceAdd]; try omega)) only [↓rA, rZ, List.drop_succ_cons, ne_eq, not_true_eq_false, not_false_eq_true, List.getElem?_cons_zero, List.getElem?_cons_succ, ev, ofConst, ofCell, simprocAttr]
      rfl
    · rintro f s' ⟨i, o, hi, hO, f0, f5, f6, f7⟩
      have hel0 := exp_len (t.take i)
      rw [List.length_take, Nat.min_eq_left hi] at hel0
      by_cases hlt : (i : Int) < (t.length : Int)
      · have hi' : i < t.length := by omega
        have hel : t[i]? = some t[i] := List.getElem?_eq_getElem hi'
        have htk : (t.take (i + 1)).flatMap expB = (t.take i).flatMap expB ++ expB t[i] := by
          rw [List.take_succ, hel, List.flatMap_append]; simp
        generalize t[i] = c at hel htk
        by_cases h1 : 97 ≤ (c.toNat : Int)
        · by_cases h2 : (c.toNat : Int) ≤ 122
          · have hu := up_ge (b := c) (by omega) (by omega)
            have hsb : binV .sub (.int .u8 (c.toNat : Int)) (.int .u8 32) = some (.int .u8 ((Lib.upperB c).toNat : Int)) := by
              simp only [binV, isShift, binInt, Bool.false_eq_true, if_false, if_true]
              rw [hu]
            have hne : ¬ Lib.upperB c = 32 := fun h => by
              have := upper_32.1 h
              subst this
              revert h1; decide
            have hz : ¬ ((Lib.upperB c).toNat : Int) = 32 := fun h => hne (UInt8.toNat_inj.1 (show (Lib.upperB c).toNat = (32 : UInt8).toNat from by
              have : (32 : UInt8).toNat = 32 := rfl
              omega))
            simp (dsimp := false) (implicitDefEqProofs := false) (disch := first | omega | assumption | (simp only [rL, Nat.reduceAdd]; try omega)) only [↓rA, rZ, List.drop_succ_cons, ne_eq, not_true_eq_false, not_false_eq_true, List.getElem?_cons_zero, List.getElem?_cons_succ, ev, ofConst, ofCell, simprocAttr, f0, f5, f6, f7, lenTS, hlt, ix hel rfl, h1, h2, hsb, Option.map_some, hz]
            refine bsl_byte (b := (Lib.upperB c)) Hp.sub_refl fun o3 s3 h3 => ?_
            simp (dsimp := false) (implicitDefEqProofs := false) (disch := first | omega | assumption | (simp only [rL, Nat.reduceAdd]; try omega)) only [↓rA, rZ, List.drop_succ_cons, ne_eq, not_true_eq_false, not_false_eq_true, List.getElem?_cons_zero, List.getElem?_cons_succ, ev, ofConst, ofCell, simprocAttr, f0, f5, f6, f7, h1, h2, hsb, Option.map_some, hz]
            refine app_own (hO.mono h3.sub) (by rw [allLen_bytes]; trivial) (show allLen 1 [byteAV (Lib.upperB c)] from fun e he => by simp at he; subst he; rfl) (by simp only [List.length_map, List.length_append, List.length_cons, List.length_nil]; omega) (by simp only [List.length_map, List.length_append, List.length_cons, List.length_nil]; omega) fun o4 s4 h4 => ?_
            have hm : ((t.take i).flatMap expB).map byteAV ++ [byteAV (Lib.upperB c)] = (((t.take (i + 1)).flatMap expB)).map byteAV := by
              rw [htk, expB, if_neg hne]; simp
            rw [hm] at h4 ⊢
            simp (dsimp := false) (implicitDefEqProofs := false) (disch := first | omega | assumption | (simp only [rL, Nat.reduceAdd]; try omega)) only [↓rA, rZ, List.drop_succ_cons, ne_eq, not_true_eq_false, not_false_eq_true, List.getElem?_cons_zero, List.getElem?_cons_succ, ev, ofConst, ofCell, simprocAttr, f0, f5, f6, f7, h1, h2, hsb, Option.map_some, hz]
            exact ⟨⟨i + 1, o4, by omega, h4, rfl, by simp⟩, by omega⟩
          · have hu : Lib.upperB c = c := up_lt (fun h => h2 (by omega))
            have hne : ¬ c = 32 := by rintro rfl; revert h1; decide
            have hz : ¬ (c.toNat : Int) = 32 := by omega
            simp (dsimp := false) (implicitDefEqProofs := false) (disch := first | omega | assumption | (simp only [rL, Nat.reduceAdd]; try omega)) only [↓rA, rZ, List.drop_succ_cons, ne_eq, not_true_eq_false, not_false_eq_true, List.getElem?_cons_zero, List.getElem?_cons_succ, ev, ofConst, ofCell, simprocAttr, f0, f5, f6, f7, lenTS, hlt, ix hel rfl, h1, h2, hz]
            refine bsl_byte (b := c) Hp.sub_refl fun o3 s3 h3 => ?_
            simp (dsimp := false) (implicitDefEqProofs := false) (disch := first | omega | assumption | (simp only [rL, Nat.reduceAdd]; try omega)) only [↓rA, rZ, List.drop_succ_cons, ne_eq, not_true_eq_false, not_false_eq_true, List.getElem?_cons_zero, List.getElem?_cons_succ, ev, ofConst, ofCell, simprocAttr, f0, f5, f6, f7, h1, h2, hz]
            refine app_own (hO.mono h3.sub) (by rw [allLen_bytes]; trivial) (show allLen 1 [byteAV c] from fun e he => by simp at he; subst he; rfl) (by simp only [List.length_map, List.length_append, List.length_cons, List.length_nil]; omega) (by simp only [List.length_map, List.length_append, List.length_cons, List.length_nil]; omega) fun o4 s4 h4 => ?_
            have hm : ((t.take i).flatMap expB).map byteAV ++ [byteAV c] = (((t.take (i + 1)).flatMap expB)).map byteAV := by
              rw [htk, expB, hu, if_neg hne]; simp
            rw [hm] at h4 ⊢
            simp (dsimp := false) (implicitDefEqProofs := false) (disch := first | omega | assumption | (simp only [rL, Nat.reduceAdd]; try omega)) only [↓rA, rZ, List.drop_succ_cons, ne_eq, not_true_eq_false, not_false_eq_true, List.getElem?_cons_zero, List.getElem?_cons_succ, ev, ofConst, ofCell, simprocAttr, f0, f5, f6, f7, h1, h2, hz]
            exact ⟨⟨i + 1, o4, by omega, h4, rfl, by simp⟩, by omega⟩
        · have hu : Lib.upperB c = c := up_lt (fun h => h1 (by omega))
          by_cases hz : (c.toNat : Int) = 32
          · have hne : c = 32 := UInt8.toNat_inj.1 (show c.toNat = (32 : UInt8).toNat from by
              have : (32 : UInt8).toNat = 32 := rfl
              omega)
            have hz' : ((c.toNat : Int) = 32) = True := eq_true hz
            simp (dsimp := false) (implicitDefEqProofs := false) (disch := first | omega | assumption | (simp only [rL, Nat.reduceAdd]; try omega)) only [↓rA, rZ, List.drop_succ_cons, ne_eq, not_true_eq_false, not_false_eq_true, List.getElem?_cons_zero, List.getElem?_cons_succ, ev, ofConst, ofCell, simprocAttr, f0, f5, f6, f7, lenTS, hlt, ix hel rfl, h1, hz']
            refine bsl_byte (b := c) Hp.sub_refl fun o3 s3 h3 => ?_
            simp (dsimp := false) (implicitDefEqProofs := false) (disch := first | omega | assumption | (simp only [rL, Nat.reduceAdd]; try omega)) only [↓rA, rZ, List.drop_succ_cons, ne_eq, not_true_eq_false, not_false_eq_true, List.getElem?_cons_zero, List.getElem?_cons_succ, ev, ofConst, ofCell, simprocAttr, f0, f5, f6, f7, h1, hz']
            refine app_own (hO.mono h3.sub) (by rw [allLen_bytes]; trivial) (show allLen 1 [byteAV c] from fun e he => by simp at he; subst he; rfl) (by simp only [List.length_map, List.length_append, List.length_cons, List.length_nil]; omega) (by simp only [List.length_map, List.length_append, List.length_cons, List.length_nil]; omega) fun o4 s4 h4 => ?_
            simp (dsimp := false) (implicitDefEqProofs := false) (disch := first | omega | assumption | (simp only [rL, Nat.reduceAdd]; try omega)) only [↓rA, rZ, List.drop_succ_cons, ne_eq, not_true_eq_false, not_false_eq_true, List.getElem?_cons_zero, List.getElem?_cons_succ, ev, ofConst, ofCell, simprocAttr, f0, f5, f6, f7, h1, hz']
            refine bsl_byte (b := 10) Hp.sub_refl fun o5 s5 h5 => ?_
            simp (dsimp := false) (implicitDefEqProofs := false) (disch := first | omega | assumption | (simp only [rL, Nat.reduceAdd]; try omega)) only [↓rA, rZ, List.drop_succ_cons, ne_eq, not_true_eq_false, not_false_eq_true, List.getElem?_cons_zero, List.getElem?_cons_succ, ev, ofConst, ofCell, simprocAttr, f0, f5, f6, f7, h1, hz']
            refine app_own (h4.mono h5.sub) (show allLen 1 (((t.take i).flatMap expB).map byteAV ++ [byteAV c]) from by rw [allLen_append, allLen_bytes]; exact ⟨trivial, fun e he => by simp at he; subst he; rfl⟩) (show allLen 1 [byteAV 10] from fun e he => by simp at he; subst he; rfl) (by simp only [List.length_map, List.length_append, List.length_cons, List.length_nil]; omega) (by simp only [List.length_map, List.length_append, List.length_cons, List.length_nil]; omega) fun o6 s6 h6 => ?_
            have hm : ((t.take i).flatMap expB).map byteAV ++ [byteAV c] ++ [byteAV 10] = (((t.take (i + 1)).flatMap expB)).map byteAV := by
              rw [htk, expB, hu, if_pos hne]; simp
            rw [hm] at h6 ⊢
            simp (dsimp := false) (implicitDefEqProofs := false) (disch := first | omega | assumption | (simp only [rL, Nat.reduceAdd]; try omega)) only [↓rA, rZ, List.drop_succ_cons, ne_eq, not_true_eq_false, not_false_eq_true, List.getElem?_cons_zero, List.getElem?_cons_succ, ev, ofConst, ofCell, simprocAttr, f0, f5, f6, f7, h1, hz']
            exact ⟨⟨i + 1, o6, by omega, h6, rfl, by simp⟩, by omega⟩
          · have hne : ¬ c = 32 := by
              rintro rfl
              exact hz rfl
            simp (dsimp := false) (implicitDefEqProofs := false) (disch := first | omega | assumption | (simp only [rL, Nat.reduceAdd]; try omega)) only [↓rA, rZ, List.drop_succ_cons, ne_eq, not_true_eq_false, not_false_eq_true, List.getElem?_cons_zero, List.getElem?_cons_succ, ev, ofConst, ofCell, simprocAttr, f0, f5, f6, f7, lenTS, hlt, ix hel rfl, h1, hz]
            refine bsl_byte (b := c) Hp.sub_refl fun o3 s3 h3 => ?_
            simp (dsimp := false) (implicitDefEqProofs := false) (disch := first | omega | assumption | (simp only [rL, Nat.reduceAdd]; try omega)) only [↓rA, rZ, List.drop_succ_cons, ne_eq, not_true_eq_false, not_false_eq_true, List.getElem?_cons_zero, List.getElem?_cons_succ, ev, ofConst, ofCell, simprocAttr, f0, f5, f6, f7, h1, hz]
            refine app_own (hO.mono h3.sub) (by rw [allLen_bytes]; trivial) (show allLen 1 [byteAV c] from fun e he => by simp at he; subst he; rfl) (by simp only [List.length_map, List.length_append, List.length_cons, List.length_nil]; omega) (by simp only [List.length_map, List.length_append, List.length_cons, List.length_nil]; omega) fun o4 s4 h4 => ?_
            have hm : ((t.take i).flatMap expB).map byteAV ++ [byteAV c] = (((t.take (i + 1)).flatMap expB)).map byteAV := by
              rw [htk, expB, hu, if_neg hne]; simp
            rw [hm] at h4 ⊢
            simp (dsimp := false) (implicitDefEqProofs := false) (disch := first | omega | assumption | (simp only [rL, Nat.reduceAdd]; try omega)) only [↓rA, rZ, List.drop_succ_cons, ne_eq, not_true_eq_false, not_false_eq_true, List.getElem?_cons_zero, List.getElem?_cons_succ, ev, ofConst, ofCell, simprocAttr, f0, f5, f6, f7, h1, hz]
            exact ⟨⟨i + 1, o4, by omega, h4, rfl, by simp⟩, by omega⟩
      · obtain rfl : i = t.length := by omega
        rw [List.take_length] at hO f6 hel0
        by_cases hbig : 1000 < ((t.flatMap expB).length : Int)
        · simp (dsimp := false) (implicitDefEqProofs := false) (disch := first | omega | assumption | (simp only [rL, Nat.reduceAdd]; try omega)) only [↓rA, rZ, List.drop_succ_cons, ne_eq, not_true_eq_false, not_false_eq_true, List.getElem?_cons_zero, List.getElem?_cons_succ, ev, ofConst, ofCell, simprocAttr, f0, f5, f6, f7, lenTS, hlt, List.length_map, hbig]
          exact ⟨_, Hp.sub_refl⟩
        have hsame := hsm (by omega)
        have hb2 : b2sA (.sl ((t.flatMap expB).map byteAV) o) = some (strV (t.flatMap expB)) := b2sA_bytes
        simp (dsimp := false) (implicitDefEqProofs := false) (disch := first | omega | assumption | (simp only [rL, Nat.reduceAdd]; try omega)) only [↓rA, rZ, List.drop_succ_cons, ne_eq, not_true_eq_false, not_false_eq_true, List.getElem?_cons_zero, List.getElem?_cons_succ, ev, ofConst, ofCell, simprocAttr, f0, f5, f6, f7, lenTS, hlt, List.length_map, hbig]
        refine call_intro (Parse_spec x _ (hT.mono hO.sub)) ?_
        rintro r4 s4 ⟨h4, hr4⟩
        have hT4 := (hT.mono hO.sub).mono h4
        cases hp : parseT x with
        | error e =>
          rw [hp] at hr4 hsame
          obtain rfl := hr4
          simp (dsimp := false) (implicitDefEqProofs := false) (disch := first | omega | assumption | (simp only [rL, Nat.reduceAdd]; try omega)) only [↓rA, rZ, List.drop_succ_cons, ne_eq, not_true_eq_false, not_false_eq_true, List.getElem?_cons_zero, List.getElem?_cons_succ, ev, ofConst, ofCell, simprocAttr, f0, f5, f6, f7, hb2]
          refine call_intro (Parse_spec (t.flatMap expB) s4 hT4) ?_
          rintro r5 s5 ⟨h5, hr5⟩
          rw [hsame] at hr5
          obtain rfl := hr5
          simp (dsimp := false) (implicitDefEqProofs := false) (disch := first | omega | assumption | (simp only [rL, Nat.reduceAdd]; try omega)) only [↓rA, rZ, List.drop_succ_cons, ne_eq, not_true_eq_false, not_false_eq_true, List.getElem?_cons_zero, List.getElem?_cons_succ, ev, ofConst, ofCell, simprocAttr, f0, f5, f6, f7]
          refine call_intro (Of_nil s5) ?_
          rintro _ s6 ⟨h6, cs, hcs, rfl⟩
          simp (dsimp := false) (implicitDefEqProofs := false) (disch := first | omega | assumption | (simp only [rL, Nat.reduceAdd]; try omega)) only [↓rA, rZ, List.drop_succ_cons, ne_eq, not_true_eq_false, not_false_eq_true, List.getElem?_cons_zero, List.getElem?_cons_succ, ev, ofConst, ofCell, simprocAttr, f0, f5, f6, f7]
          refine call_intro (Of_nil s6) ?_
          rintro _ s7 ⟨h7, ds, hds, rfl⟩
          simp (dsimp := false) (implicitDefEqProofs := false) (disch := first | omega | assumption | (simp only [rL, Nat.reduceAdd]; try omega)) only [↓rA, rZ, List.drop_succ_cons, ne_eq, not_true_eq_false, not_false_eq_true, List.getElem?_cons_zero, List.getElem?_cons_succ, ev, ofConst, ofCell, simprocAttr, f0, f5, f6, f7]
          refine call_intro (same24_spec zRS (rs_zero rfl rfl rfl rfl rfl) cs ds hcs hds s7) ?_
          rintro _ s8 ⟨h8, rfl⟩
          simp (dsimp := false) (implicitDefEqProofs := false) (disch := first | omega | assumption | (simp only [rL, Nat.reduceAdd]; try omega)) only [↓rA, rZ, List.drop_succ_cons, ne_eq, not_true_eq_false, not_false_eq_true, List.getElem?_cons_zero, List.getElem?_cons_succ, ev, ofConst, ofCell, simprocAttr, f0, f5, f6, f7]
          exact ⟨_, Hp.sub_refl⟩
        | ok st =>
          rw [hp] at hr4 hsame
          obtain ⟨a, ha, rfl⟩ := hr4
          simp (dsimp := false) (implicitDefEqProofs := false) (disch := first | omega | assumption | (simp only [rL, Nat.reduceAdd]; try omega)) only [↓rA, rZ, List.drop_succ_cons, ne_eq, not_true_eq_false, not_false_eq_true, List.getElem?_cons_zero, List.getElem?_cons_succ, ev, ofConst, ofCell, simprocAttr, f0, f5, f6, f7, hb2]
          refine call_intro (Parse_spec (t.flatMap expB) s4 hT4) ?_
          rintro r5 s5 ⟨h5, hr5⟩
          rw [hsame] at hr5
          obtain ⟨b, hb, rfl⟩ := hr5
          simp (dsimp := false) (implicitDefEqProofs := false) (disch := first | omega | assumption | (simp only [rL, Nat.reduceAdd]; try omega)) only [↓rA, rZ, List.drop_succ_cons, ne_eq, not_true_eq_false, not_false_eq_true, List.getElem?_cons_zero, List.getElem?_cons_succ, ev, ofConst, ofCell, simprocAttr, f0, f5, f6, f7]
          refine call_intro (Of_spec st a ha s5) ?_
          rintro _ s6 ⟨h6, cs, hcs, rfl⟩
          simp (dsimp := false) (implicitDefEqProofs := false) (disch := first | omega | assumption | (simp only [rL, Nat.reduceAdd]; try omega)) only [↓rA, rZ, List.drop_succ_cons, ne_eq, not_true_eq_false, not_false_eq_true, List.getElem?_cons_zero, List.getElem?_cons_succ, ev, ofConst, ofCell, simprocAttr, f0, f5, f6, f7]
          refine call_intro (Of_spec st b hb s6) ?_
          rintro _ s7 ⟨h7, ds, hds, rfl⟩
          simp (dsimp := false) (implicitDefEqProofs := false) (disch := first | omega | assumption | (simp only [rL, Nat.reduceAdd]; try omega)) only [↓rA, rZ, List.drop_succ_cons, ne_eq, not_true_eq_false, not_false_eq_true, List.getElem?_cons_zero, List.getElem?_cons_succ, ev, ofConst, ofCell, simprocAttr, f0, f5, f6, f7]
          refine call_intro (same24_spec (ofS st) (parseT_rs hp) cs ds hcs hds s7) ?_
          rintro _ s8 ⟨h8, rfl⟩
          simp (dsimp := false) (implicitDefEqProofs := false) (disch := first | omega | assumption | (simp only [rL, Nat.reduceAdd]; try omega)) only [↓rA, rZ, List.drop_succ_cons, ne_eq, not_true_eq_false, not_false_eq_true, List.getElem?_cons_zero, List.getElem?_cons_succ, ev, ofConst, ofCell, simprocAttr, f0, f5, f6, f7]
          exact ⟨_, Hp.sub_refl⟩
end Go.Proofs.YtgfbealjkdhdbaaGreatDoor
