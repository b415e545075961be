/- Merged by program from smaller texts; what is proved stands in the last text of the claim. -/
import Derived.Test.YtgfbealjkdhdbaaGreatDoorME
import Derived.Test.YtgfbealjkdhdbaaGreatDoorMC
set_option linter.all false
set_option maxRecDepth 100000
namespace Go.Proofs.YtgfbealjkdhdbaaGreatDoor
open Go Go.Av
theorem neg_spec (v : Int) (s : Hp) : AC Tryz.prog 34 [.v (.int .i64 v)] s fun r s' => s' = s ∧ r = .v (.bool (decide (v < 0))) := by
  refine AC_run hm prep34 (by simp) ?_
  simp (dsimp := false) (implicitDefEqProofs := false) (disch := first | omega | assumption | (simp only [rL, Nat.reduceAdd]; try omega)) only [↓rA, rZ, List.drop_succ_cons, ne_eq, not_true_eq_false, not_false_eq_true, List.getElem?_cons_zero, List.getElem?_cons_succ, ev, ofConst, ofCell, simprocAttr]
  exact ⟨_, Hp.sub_refl, rfl⟩
theorem AllV_int : ∀ {xs : List Int} {av : List AV}, AllV intR xs av → av = xs.map fun v => .v (.int .i64 v)
  | [], [], _ => rfl
  | x :: r, a :: q, h => by
    have h1 : a = .v (.int .i64 x) := h.1
    rw [h1, AllV_int h.2]; rfl
  | [], _ :: _, h => h.elim
  | _ :: _, [], h => h.elim
def intsV (xs : List Int) : List AV := xs.map fun v => .v (.int .i64 v)
theorem iaSA_ints {xs : List Int} {o : Own} {i : Nat} {v : Int} (h : xs[i]? = some v) : iaSA 1 (.sl (intsV xs) o) (.v (.int .i64 (i : Int))) = some (.rptr [.v (.int .i64 v)]) := by
  have h0 : (0 : Int) ≤ (i : Int) := by omega
  have hel : (intsV xs)[i]? = some (.v (.int .i64 v)) := by simp [intsV, h]
  simp only [iaSA, h0, if_true, Int.toNat_natCast, hel]
  rw [elA_some (e := .v (.int .i64 v)) (k := 1) rfl]; rfl
theorem indexN_spec (xs : List Int) (o : Own) (s : Hp) (hn : xs.length ≤ 1000000) :
    AC Tryz.prog 53 [.sl (intsV xs) o, .clo 34 [] []] s fun r s' => s' = s ∧ ∃ k : Int, r = .v (.int .i64 k) ∧ (0 ≤ k ↔ ∃ v ∈ xs, v < 0) := by
  refine AC_run hm prep53 (by simp) ?_
  have hlen : (intsV xs).length = xs.length := by simp [intsV]
  simp (dsimp := false) (implicitDefEqProofs := false) (disch := first | omega | assumption | (simp only [rL, Nat.reduceAdd]; try omega)) only [↓rA, rZ, List.drop_succ_cons, ne_eq, not_true_eq_false, not_false_eq_true, List.getElem?_cons_zero, List.getElem?_cons_succ, ev, ofConst, ofCell, simprocAttr, hlen]
  refine loop_intro (fun f s' => ∃ i : Nat, i ≤ xs.length ∧ s' = s ∧ f 0 = .sl (intsV xs) o ∧ f 1 = .clo 34 [] [] ∧ f 7 = .v (.int .i64 xs.length) ∧ f 8 = .v (.int .i64 i) ∧ ¬ ∃ v ∈ xs.take i, v < 0)
    (fun f _ => match f 8 with | .v (.int _ n) => xs.length - n.toNat | _ => 0) ⟨0, by omega, rfl, ?_⟩ ?_
  · simp (dsimp := false) (implicitDefEqProofs := false) (disch := first | omega | assumption | (simp only [rL, Nat.reduceAdd]; try omega)) only [↓rA, rZ, List.drop_succ_cons, ne_eq, not_true_eq_false, not_false_eq_true, List.getElem?_cons_zero, List.getElem?_cons_succ, ev, ofConst, ofCell, simprocAttr, hlen]
    simp
  · rintro f s' ⟨i, hi, rfl, f0, f1, f7, f8, hni⟩
    by_cases hlt : (i : Int) < (xs.length : Int)
    · have hi' : i < xs.length := by omega
      have hw1 : xs[i]? = some xs[i] := List.getElem?_eq_getElem hi'
      have hwi : xs[i] ∈ xs := List.getElem_mem _
      have htk : xs.take (i + 1) = xs.take i ++ [xs[i]] := by rw [List.take_succ, hw1]; rfl
      generalize xs[i] = v at hw1 hwi htk
      simp (dsimp := false) (implicitDefEqProofs := false) (disch := first | omega | assumption | (simp only [rL, Nat.reduceAdd]; try omega)) only [↓rA, rZ, List.drop_succ_cons, ne_eq, not_true_eq_false, not_false_eq_true, List.getElem?_cons_zero, List.getElem?_cons_succ, ev, ofConst, ofCell, simprocAttr, f0, f1, f7, f8, hlt, iaSA_ints hw1]
      refine callV_intro (by kernel_rfl) (neg_spec v s') ?_
      rintro _ _ ⟨rfl, rfl⟩
      by_cases hv : v < 0
      · simp (dsimp := false) (implicitDefEqProofs := false) (disch := first | omega | assumption | (simp only [rL, Nat.reduceAdd]; try omega)) only [↓rA, rZ, List.drop_succ_cons, ne_eq, not_true_eq_false, not_false_eq_true, List.getElem?_cons_zero, List.getElem?_cons_succ, ev, ofConst, ofCell, simprocAttr, f0, f1, f7, f8, hv, decide_true]
        refine ⟨_, Hp.sub_refl, rfl, _, rfl, ?_⟩
        exact ⟨fun _ => ⟨v, hwi, hv⟩, fun _ => by omega⟩
      · simp (dsimp := false) (implicitDefEqProofs := false) (disch := first | omega | assumption | (simp only [rL, Nat.reduceAdd]; try omega)) only [↓rA, rZ, List.drop_succ_cons, ne_eq, not_true_eq_false, not_false_eq_true, List.getElem?_cons_zero, List.getElem?_cons_succ, ev, ofConst, ofCell, simprocAttr, f0, f1, f7, f8, hv, decide_false]
        refine ⟨⟨i + 1, by omega, by simp, ?_⟩, by omega⟩
        rw [htk]
        rintro ⟨w, hw, hw0⟩
        rcases List.mem_append.1 hw with h | h
        · exact hni ⟨w, h, hw0⟩
        · simp only [List.mem_singleton] at h; subst h; exact hv hw0
    · obtain rfl : i = xs.length := by omega
      simp (dsimp := false) (implicitDefEqProofs := false) (disch := first | omega | assumption | (simp only [rL, Nat.reduceAdd]; try omega)) only [↓rA, rZ, List.drop_succ_cons, ne_eq, not_true_eq_false, not_false_eq_true, List.getElem?_cons_zero, List.getElem?_cons_succ, ev, ofConst, ofCell, simprocAttr, f0, f1, f7, f8, hlt]
      refine ⟨_, Hp.sub_refl, rfl, _, rfl, ?_⟩
      rw [List.take_length] at hni
      exact ⟨fun h => absurd h (by omega), fun h => absurd h hni⟩
def anyNeg (xs : List Int) : Bool := xs.any fun v => decide (v < 0)
theorem anyNeg_iff {xs : List Int} : (∃ v ∈ xs, v < 0) ↔ anyNeg xs = true := by simp [anyNeg]
theorem containsN_spec (xs : List Int) (o : Own) (s : Hp) (hn : xs.length ≤ 1000000) :
    AC Tryz.prog 33 [.sl (intsV xs) o, .clo 34 [] []] s fun r s' => s' = s ∧ r = .v (.bool (anyNeg xs)) := by
  refine AC_run hm prep33 (by simp) ?_
  simp (dsimp := false) (implicitDefEqProofs := false) (disch := first | omega | assumption | (simp only [rL, Nat.reduceAdd]; try omega)) only [↓rA, rZ, List.drop_succ_cons, ne_eq, not_true_eq_false, not_false_eq_true, List.getElem?_cons_zero, List.getElem?_cons_succ, ev, ofConst, ofCell, simprocAttr]
  refine call_intro (indexN_spec xs o s hn) ?_
  rintro _ _ ⟨rfl, k, rfl, hk⟩
  rw [anyNeg_iff] at hk
  cases h : anyNeg xs with
  | true =>
    have h0 := hk.2 h
    simp (dsimp := false) (implicitDefEqProofs := false) (disch := first | omega | assumption | (simp only [rL, Nat.reduceAdd]; try omega)) only [↓rA, rZ, List.drop_succ_cons, ne_eq, not_true_eq_false, not_false_eq_true, List.getElem?_cons_zero, List.getElem?_cons_succ, ev, ofConst, ofCell, simprocAttr, h0]
    exact ⟨_, Hp.sub_refl, rfl⟩
  | false =>
    have h0 : ¬ 0 ≤ k := fun h' => by have := hk.1 h'; rw [h] at this; cases this
    simp (dsimp := false) (implicitDefEqProofs := false) (disch := first | omega | assumption | (simp only [rL, Nat.reduceAdd]; try omega)) only [↓rA, rZ, List.drop_succ_cons, ne_eq, not_true_eq_false, not_false_eq_true, List.getElem?_cons_zero, List.getElem?_cons_succ, ev, ofConst, ofCell, simprocAttr, h0]
    exact ⟨_, Hp.sub_refl, rfl⟩
theorem parse1_ret (l2 l3 : Nat) (s : Hp) (Q : Hp → Prop) (hQ : Q s) : ACret Tryz.prog 30 [.ptr l2 0, .ptr l3 0] s Q := by
  refine ACret_run hm prep30 (by simp) ?_
  simp (dsimp := false) (implicitDefEqProofs := false) (disch := first | omega | assumption | (simp only [rL, Nat.reduceAdd]; try omega)) only [↓rA, rZ, List.drop_succ_cons, ne_eq, not_true_eq_false, not_false_eq_true, List.getElem?_cons_zero, List.getElem?_cons_succ, ev, ofConst, ofCell, simprocAttr, ↓rR]
  exact ⟨_, Hp.sub_refl, hQ⟩
theorem parse1_rec (l2 l3 : Nat) (n : Int) (s : Hp) (a b : AV) (h2 : s l2 = some (.cells [a])) (h3 : s l3 = some (.cells [b])) (d : l2 ≠ l3) (Q : Hp → Prop) (hQ : ∀ s', (∀ l o, l ≠ l2 → l ≠ l3 → s l = some o → s' l = some o) → s' l2 = some (.cells [.v .nilIface]) → s' l3 = some (.cells [.v (.int .i64 n)]) → Q s') :
    ACrec Tryz.prog 30 [.ptr l2 0, .ptr l3 0] (stopV n) s Q := by
  refine ACrec_run hm prep30 (by simp) ?_
  have e : stopV n = .iface 74 (.agg [.v (.int .i64 n)]) := rfl
  rw [e]
  simp (dsimp := false) (implicitDefEqProofs := false) (disch := first | omega | assumption | (simp only [rL, Nat.reduceAdd]; try omega)) only [↓rA, rZ, List.drop_succ_cons, ne_eq, not_true_eq_false, not_false_eq_true, List.getElem?_cons_zero, List.getElem?_cons_succ, ev, ofConst, ofCell, simprocAttr, ↓rR]
  refine newK_intro fun l4 n4 => ?_
  have d24 : l2 ≠ l4 := by rintro rfl; rw [n4] at h2; cases h2
  have d34 : l3 ≠ l4 := by rintro rfl; rw [n4] at h3; cases h3
  have d42 := Ne.symm d24
  have d43 := Ne.symm d34
  have d' := Ne.symm d
  simp (dsimp := false) (implicitDefEqProofs := false) (disch := first | omega | assumption | (simp only [rL, Nat.reduceAdd]; try omega)) only [↓rA, rZ, List.drop_succ_cons, ne_eq, not_true_eq_false, not_false_eq_true, List.getElem?_cons_zero, List.getElem?_cons_succ, ev, ofConst, ofCell, simprocAttr, ↓rR, putAt_z1, Hp.stA_of h2, Hp.stA_of h3, Hp.set_ne, d, d', d24, d34, d42, d43, h2, h3]
  refine ⟨_, Hp.sub_refl, hQ _ (fun l o h2' h3' ho => ?_) ?_ (Hp.set_same _ _ _)⟩
  · have h4' : l ≠ l4 := by rintro rfl; rw [n4] at ho; cases ho
    rw [Hp.set_ne _ _ h3', Hp.set_ne _ _ h2', Hp.set_ne _ _ h4']; exact ho
  · rw [Hp.set_ne _ _ d, Hp.set_same]
theorem lexP_count : ∀ (f N : Nat) (l : List UInt8) (ts : List (Tok × Nat)), lexP f N l = .ok ts → ts.length ≤ l.length
  | 0, N, l, ts, h => by simp only [lexP] at h; first | (cases h; simp) | cases h
  | f + 1, N, l, ts, h => by
    simp only [lexP] at h
    split at h
    · cases h; simp
    · rename_i hne
      cases ht : tokP (skip false l) with
      | error e => rw [ht] at h; cases h
      | ok x =>
        obtain ⟨t, k⟩ := x
        rw [ht] at h
        simp only at h
        have h1 := tokP_n hne ht
        have h2 := skip_le false l
        cases hr : lexP f N ((skip false l).drop k) with
        | error e => rw [hr] at h; cases h
        | ok us =>
          rw [hr] at h
          have := lexP_count f N _ us hr
          rw [List.length_drop] at this
          cases h
          simp only [List.length_cons]
          omega
theorem lexT_count {l : List UInt8} {ts : List (Tok × Nat)} (h : lexT l = .ok ts) : ts.length ≤ 1000 := by
  unfold lexT at h
  split at h
  · cases h
  · have := lexP_count _ _ _ _ h; omega
theorem lexP_err : ∀ (f N : Nat) (l : List UInt8) (e : Nat), lexP f N l = .error e → e = 2 ∨ e = 7
  | 0, N, l, e, h => by simp only [lexP] at h; cases h
  | f + 1, N, l, e, h => by
    simp only [lexP] at h
    split at h
    · cases h
    · cases ht : tokP (skip false l) with
      | error e' => rw [ht] at h; cases h; exact tokP_err ht
      | ok x =>
        obtain ⟨t, k⟩ := x
        rw [ht] at h
        simp only at h
        cases hr : lexP f N ((skip false l).drop k) with
        | error e' => rw [hr] at h; cases h; exact lexP_err f N _ _ hr
        | ok us => rw [hr] at h; cases h
theorem lexT_err {l : List UInt8} {e : Nat} (h : lexT l = .error e) : e = 10 ∨ e = 2 ∨ e = 7 := by
  unfold lexT at h
  split at h
  · cases h; exact .inl rfl
  · exact .inr (lexP_err _ _ _ _ h)
theorem numOr_ys {ws : List (List UInt8)} {l l' : List Tok} {v : Int} {ys : List Int} (h : numOr ws l = some ((v, ys), l')) : ys.length ≤ 1 := by
  unfold numOr at h
  split at h
  · simp only [Option.map_eq_some_iff, Prod.mk.injEq] at h
    obtain ⟨p, _, ⟨_, h2⟩, _⟩ := h
    rw [← h2]; simp
  · simp only [Option.some.injEq, Prod.mk.injEq] at h
    rw [← h.1.2]; simp
theorem selF_ys {l l' : List Tok} {x : Sel} {ys : List Int} (h : selF l = some ((x, ys), l')) : ys.length ≤ 2 := by
  unfold selF at h
  simp only [Option.bind_eq_some_iff] at h
  obtain ⟨p1, _, l2, _, p2, _, p3, h3, p4, _, h5⟩ := h
  obtain ⟨⟨v3, y3⟩, l3⟩ := p3
  have q3 := numOr_ys h3
  split at h5
  · simp only [Option.some.injEq, Prod.mk.injEq] at h5
    rw [← h5.1.2]; omega
  · simp only [Option.bind_eq_some_iff, Option.map_eq_some_iff, Prod.mk.injEq] at h5
    obtain ⟨p5, _, p6, h6, ⟨_, h7⟩, _⟩ := h5
    obtain ⟨⟨v6, y6⟩, l6⟩ := p6
    have q6 := numOr_ys h6
    rw [← h7]; simp only [List.length_append]; omega
theorem plain_ys {α : Type} {o : Option (Stm × α)} {x : Stm} {ys : List Int} {l' : α} (h : o.map plain = some ((x, ys), l')) : ys.length ≤ 2 := by
  simp only [Option.map_eq_some_iff, plain, Prod.mk.injEq] at h
  obtain ⟨p, _, ⟨_, h2⟩, _⟩ := h
  rw [← h2]; simp
theorem stmF_ys {l l' : List Tok} {x : Stm} {ys : List Int} (h : stmF l = some ((x, ys), l')) : ys.length ≤ 2 := by
  unfold stmF at h
  split at h
  · exact plain_ys h
  unfold stm2 at h
  split at h
  · simp only [Option.map_eq_some_iff, Prod.mk.injEq] at h
    obtain ⟨p, _, ⟨_, h2⟩, _⟩ := h
    rw [← h2]; simp
  unfold stm3 at h
  split at h
  · exact plain_ys h
  unfold stm4 at h
  split at h
  · simp only [Option.bind_eq_some_iff, Option.map_eq_some_iff, Prod.mk.injEq] at h
    obtain ⟨p, _, q, _, ⟨_, h2⟩, _⟩ := h
    rw [← h2]; simp
  unfold stm5 at h
  split at h
  · exact plain_ys h
  unfold stm6 at h
  split at h
  · simp only [Option.map_eq_some_iff, Prod.mk.injEq] at h
    obtain ⟨⟨⟨a, b⟩, c⟩, h1, ⟨_, h2⟩, _⟩ := h
    rw [← h2]; exact selF_ys h1
  unfold stm7 at h
  exact plain_ys h
def parseL (l : List Tok) : Except Nat Stm :=
  match stmF l with
  | none => .error 2
  | some ((x, ys), l') => if l' = [] then (if anyNeg ys = true then .error 7 else .ok x) else .error 2
def parseT (l : List UInt8) : Except Nat Stm :=
  match lexT l with
  | .error e => .error e
  | .ok ts => parseL (ts.map Prod.fst)
def PRes (r : AV) : Except Nat Stm → Prop
  | .error e => r = .tup [.v .nilIface, .v (.int .i64 e)]
  | .ok x => ∃ a, stmR x a ∧ r = .tup [a, .v (.int .i64 0)]
theorem stm_cells {x : Stm} {a : AV} (h : stmR x a) : a.cells = [a] := by
  cases x with
  | create t c => obtain ⟨_, _, rfl⟩ := h; rfl
  | drop t => obtain rfl := h; rfl
  | insert t c => obtain ⟨_, _, rfl⟩ := h; rfl
  | delete t c => obtain ⟨_, _, rfl⟩ := h; rfl
  | update t c d => obtain ⟨_, _, _, _, rfl⟩ := h; rfl
  | sel x => obtain ⟨_, _, _, _, rfl⟩ := h; rfl
  | tx k => obtain rfl := h; rfl
theorem dfer_cut {f : Fr} {s : Hp} {p : Program} {post : ACode} {rs : List (Nat × Option (Bool × Nat))} {R : AV → Hp → Prop} {n : FuncId} {ds cs : List AV} (hok : callOk p n = true)
    (h : ∀ f' Kp, f' = f → Kp = (fun r s' => ACrec p n (ds ++ cs) r s' (resK rs R f')) → awp ⟨p, Kp⟩ post (dretK p n (ds ++ cs) rs R) f' s) : dferV p post rs R [] (.clo n ds cs) f s :=
  dfer_intro hok fun Kp hKp => h f Kp rfl hKp
theorem set_self {s : Hp} {l : Nat} {ob : Ob} (h : s l = some ob) : s.set l ob = s := by
  funext x
  by_cases e : x = l
  · subst e; rw [Hp.set_same, h]
  · rw [Hp.set_ne _ _ e]
theorem resK_two {f : Fr} {s : Hp} {R : AV → Hp → Prop} {l2 l3 : Nat} {a b : AV} (f2 : f 2 = .ptr l2 0) (f3 : f 3 = .ptr l3 0) (h2 : s l2 = some (.cells [a])) (h3 : s l3 = some (.cells [b])) (h : R (.tup [a, b]) s) :
    resK [(2, some (false, 1)), (3, some (false, 1))] R f s := by
  refine ⟨.tup [a, b], s, resAll_two ?_ ?_, Hp.sub_refl, h⟩
  · simp only [resG, f2, Hp.read_of h2]; rfl
  · simp only [resG, f3, Hp.read_of h3]; rfl
theorem Parse_spec (l : List UInt8) (s : Hp) (hT : Tabs s) :
    AC Tryz.prog 12 [strV l] s fun r s' => s.sub s' ∧ PRes r (parseT l) := by
  refine AC_drun hm prep12 (by simp) ?_
  simp (dsimp := false) (implicitDefEqProofs := false) (disch := first | omega | assumption | (simp only [rL, Nat.reduceAdd]; try omega)) only [↓rA, rZ, List.drop_succ_cons, ne_eq, not_true_eq_false, not_false_eq_true, List.getElem?_cons_zero, List.getElem?_cons_succ, ev, ofConst, ofCell, simprocAttr, ↓rR]
  refine newK_intro fun l2 n2 => ?_
  simp (dsimp := false) (implicitDefEqProofs := false) (disch := first | omega | assumption | (simp only [rL, Nat.reduceAdd]; try omega)) only [↓rA, rZ, List.drop_succ_cons, ne_eq, not_true_eq_false, not_false_eq_true, List.getElem?_cons_zero, List.getElem?_cons_succ, ev, ofConst, ofCell, simprocAttr, ↓rR]
  refine newK_intro fun l3 n3 => ?_
  have d23 : l2 ≠ l3 := by rintro rfl; rw [Hp.set_same] at n3; cases n3
  have d32 := Ne.symm d23
  have n3s : s l3 = none := by rw [Hp.set_ne _ _ d32] at n3; exact n3
  have hs2 : s.sub ((s.set l2 (.cells [.v .nilIface])).set l3 (.cells [.v (.int .i64 0)])) := Hp.sub_new (Hp.sub_new Hp.sub_refl n2) n3s
  simp (dsimp := false) (implicitDefEqProofs := false) (disch := first | omega | assumption | (simp only [rL, Nat.reduceAdd]; try omega)) only [↓rA, rZ, List.drop_succ_cons, ne_eq, not_true_eq_false, not_false_eq_true, List.getElem?_cons_zero, List.getElem?_cons_succ, ev, ofConst, ofCell, simprocAttr, ↓rR]
  refine call_intro (Lex_spec l _ (hT.mono hs2)) ?_
  intro r s4 h4
  cases hlx : lexT l with
  | error e =>
    rw [hlx] at h4
    obtain ⟨h4, rfl⟩ := h4
    have g2 := h4 l2 (.cells [.v .nilIface]) (by rw [Hp.set_ne _ _ d23, Hp.set_same])
    have g3 := h4 l3 _ (Hp.set_same _ _ _)
    have he : ¬ ((e : Nat) : Int) = 0 := by
      rcases lexT_err hlx with h | h | h <;> omega
    simp (dsimp := false) (implicitDefEqProofs := false) (disch := first | omega | assumption | (simp only [rL, Nat.reduceAdd]; try omega)) only [↓rA, rZ, List.drop_succ_cons, ne_eq, not_true_eq_false, not_false_eq_true, List.getElem?_cons_zero, List.getElem?_cons_succ, ev, ofConst, ofCell, simprocAttr, ↓rR, Hp.stA_of g3, Hp.stA_of g2, putAt_z1, he, Hp.set_ne, d23, d32]
    refine ⟨_, Hp.sub_refl, fun x ob hx => ?_, by rw [parseT, hlx]; rfl⟩
    have x2 : x ≠ l2 := by rintro rfl; rw [n2] at hx; cases hx
    have x3 : x ≠ l3 := by rintro rfl; rw [n3s] at hx; cases hx
    rw [Hp.set_ne _ _ x2, Hp.set_ne _ _ x3]
    exact h4 _ _ (hs2 _ _ hx)
  | ok ts =>
    rw [hlx] at h4
    obtain ⟨o, h4, rfl⟩ := h4
    have g2 := h4.sub l2 (.cells [.v .nilIface]) (by rw [Hp.set_ne _ _ d23, Hp.set_same])
    have g3 := h4.sub l3 _ (Hp.set_same _ _ _)
    have hs4 : s.sub s4 := Hp.sub_trans hs2 h4.sub
    have hpT : parseT l = parseL (ts.map Prod.fst) := by rw [parseT, hlx]
    have hcnt := lexT_count hlx
    have hcnt' : (ts.map Prod.fst).length ≤ 100000 := by rw [List.length_map]; omega
    have hToks : Toks (TL ts) (ts.map Prod.fst) := ⟨ts, rfl, rfl⟩
    rw [hpT]
    generalize ts.map Prod.fst = l0 at hToks hcnt'
    have hset := set_self g3
    simp (dsimp := false) (implicitDefEqProofs := false) (disch := first | omega | assumption | (simp only [rL, Nat.reduceAdd]; try omega)) only [↓rA, rZ, List.drop_succ_cons, ne_eq, not_true_eq_false, not_false_eq_true, List.getElem?_cons_zero, List.getElem?_cons_succ, ev, ofConst, ofCell, simprocAttr, ↓rR, hset, Hp.read_of g3, Hp.stA_of g3, Hp.stA_of g2, putAt_z1, Hp.set_ne, d23, d32]
    refine dfer_cut (by kernel_rfl) fun f' Kp hf hKp => ?_
    have f2 : f' 2 = .ptr l2 0 := by rw [hf]; simp (dsimp := false) (implicitDefEqProofs := false) (disch := first | omega | assumption | (simp only [rL, Nat.reduceAdd]; try omega)) only [↓rA, rZ, List.drop_succ_cons, ne_eq, not_true_eq_false, not_false_eq_true, List.getElem?_cons_zero, List.getElem?_cons_succ, ev, ofConst, ofCell, simprocAttr]
    have f3 : f' 3 = .ptr l3 0 := by rw [hf]; simp (dsimp := false) (implicitDefEqProofs := false) (disch := first | omega | assumption | (simp only [rL, Nat.reduceAdd]; try omega)) only [↓rA, rZ, List.drop_succ_cons, ne_eq, not_true_eq_false, not_false_eq_true, List.getElem?_cons_zero, List.getElem?_cons_succ, ev, ofConst, ofCell, simprocAttr]
    have f4 : f' 4 = .sl (TL ts) o := by rw [hf]; simp (dsimp := false) (implicitDefEqProofs := false) (disch := first | omega | assumption | (simp only [rL, Nat.reduceAdd]; try omega)) only [↓rA, rZ, List.drop_succ_cons, ne_eq, not_true_eq_false, not_false_eq_true, List.getElem?_cons_zero, List.getElem?_cons_succ, ev, ofConst, ofCell, simprocAttr]
    clear hf
    have kp : ∀ (n : Nat) (s' : Hp) (b2 b3 : AV), s.sub s' → s' l2 = some (.cells [b2]) → s' l3 = some (.cells [b3]) → parseL l0 = .error n → Kp (stopV n) s' := fun n s' b2 b3 hs hb2 hb3 hp => by
      rw [hKp]
      refine parse1_rec l2 l3 n s' _ _ hb2 hb3 d23 _ fun s'' hk k2 k3 => resK_two f2 f3 k2 k3 ⟨fun x ob hx => ?_, by rw [hp]; rfl⟩
      have x2 : x ≠ l2 := by rintro rfl; rw [n2] at hx; cases hx
      have x3 : x ≠ l3 := by rintro rfl; rw [n3s] at hx; cases hx
      exact hk _ _ x2 x3 (hs _ _ hx)
    simp (dsimp := false) (implicitDefEqProofs := false) (disch := first | omega | assumption | (simp only [rL, Nat.reduceAdd]; try omega)) only [↓rA, rZ, List.drop_succ_cons, ne_eq, not_true_eq_false, not_false_eq_true, List.getElem?_cons_zero, List.getElem?_cons_succ, ev, ofConst, ofCell, simprocAttr, ↓rR, f2, f3, f4, putAt_z1]
    refine newK_intro fun lt nt => ?_
    simp (dsimp := false) (implicitDefEqProofs := false) (disch := first | omega | assumption | (simp only [rL, Nat.reduceAdd]; try omega)) only [↓rA, rZ, List.drop_succ_cons, ne_eq, not_true_eq_false, not_false_eq_true, List.getElem?_cons_zero, List.getElem?_cons_succ, ev, ofConst, ofCell, simprocAttr, ↓rR, f2, f3, f4, putAt_z1]
    refine newK_intro fun ll nl => ?_
    have dlt : ll ≠ lt := by rintro rfl; rw [Hp.set_same] at nl; cases nl
    have nl4 : s4 ll = none := by rw [Hp.set_ne _ _ dlt] at nl; exact nl
    have b2t : l2 ≠ lt := by rintro rfl; rw [g2] at nt; cases nt
    have b2l : l2 ≠ ll := by rintro rfl; rw [g2] at nl4; cases nl4
    have b3t : l3 ≠ lt := by rintro rfl; rw [g3] at nt; cases nt
    have b3l : l3 ≠ ll := by rintro rfl; rw [g3] at nl4; cases nl4
    have bt2 := Ne.symm b2t
    have bl2 := Ne.symm b2l
    have bt3 := Ne.symm b3t
    have bl3 := Ne.symm b3l
    have hsub5 : s4.sub ((s4.set lt (.cells [.sl (TL ts) o])).set ll (.cells [.sl [] .nil])) := Hp.sub_new (Hp.sub_new Hp.sub_refl nt) nl4
    have hTK : TK lt l0 s4 ((s4.set lt (.cells [.sl (TL ts) o])).set ll (.cells [.sl [] .nil])) :=
      ⟨hsub5, nt, TL ts, o, hToks, by rw [Hp.set_ne _ _ (Ne.symm dlt), Hp.set_same]⟩
    have hLK : LK ll [] s4 ((s4.set lt (.cells [.sl (TL ts) o])).set ll (.cells [.sl [] .nil])) :=
      ⟨nl4, [], .nil, trivial, Owned.nil hsub5, Hp.set_same _ _ _⟩
    simp (dsimp := false) (implicitDefEqProofs := false) (disch := first | omega | assumption | (simp only [rL, Nat.reduceAdd]; try omega)) only [↓rA, rZ, List.drop_succ_cons, ne_eq, not_true_eq_false, not_false_eq_true, List.getElem?_cons_zero, List.getElem?_cons_succ, ev, ofConst, ofCell, simprocAttr, ↓rR, f2, f3, f4, putAt_z1]
    refine callp_intro (statement_spec lt ll l0 [] s4 _ hcnt' rfl hTK hLK dlt) ?_ ?_
    rotate_left
    · rintro r s' ⟨e, rfl, hs⟩
      exact kp 2 s' _ _ (Hp.sub_trans hs4 hs) (hs _ _ g2) (hs _ _ g3) (by rw [parseL, e])
    rintro a s6 ⟨x, ys, l', e6, hR, tk, lk⟩
    have hac := stm_cells hR
    have c2 := tk.1 _ _ g2
    have c3 := tk.1 _ _ g3
    obtain ⟨k1, k2, xs, ox, hx, hx2⟩ := tk
    obtain ⟨m1, av, oa, hA, hO, hl2⟩ := lk
    have hxl := hx.len
    have hav : av = intsV ys := AllV_int hA
    subst hav
    have hys := stmF_ys e6
    have hss : s.sub (s6.set l2 (.cells [a])) := Hp.sub_new (Hp.sub_trans hs4 k1) n2
    have hss3 : (s6.set l2 (.cells [a])) l3 = some (.cells [.v (.int .i64 0)]) := by rw [Hp.set_ne _ _ d32]; exact c3
    by_cases hl' : l' = []
    · have hz : ¬ ((0 : Int) < (xs.length : Int)) := by rw [hxl, hl']; simp
      simp (dsimp := false) (implicitDefEqProofs := false) (disch := first | omega | assumption | (simp only [rL, Nat.reduceAdd]; try omega)) only [↓rA, rZ, List.drop_succ_cons, ne_eq, not_true_eq_false, not_false_eq_true, List.getElem?_cons_zero, List.getElem?_cons_succ, ev, ofConst, ofCell, simprocAttr, ↓rR, f2, f3, f4, putAt_z1, hac, Hp.stA_of c2, Hp.set_ne, b2t, bt2, b2l, bl2, Hp.read_of hx2, hz, Hp.read_of hl2]
      refine call_intro (containsN_spec ys oa _ (by omega)) ?_
      rintro _ _ ⟨rfl, rfl⟩
      cases hneg : anyNeg ys with
      | true =>
        simp (dsimp := false) (implicitDefEqProofs := false) (disch := first | omega | assumption | (simp only [rL, Nat.reduceAdd]; try omega)) only [↓rA, rZ, List.drop_succ_cons, ne_eq, not_true_eq_false, not_false_eq_true, List.getElem?_cons_zero, List.getElem?_cons_succ, ev, ofConst, ofCell, simprocAttr, ↓rR, f2, f3, f4, putAt_z1]
        exact pan_intro (kp 7 _ _ _ hss (Hp.set_same _ _ _) hss3 (by rw [parseL, e6]; simp [hl', hneg]))
      | false =>
        simp (dsimp := false) (implicitDefEqProofs := false) (disch := first | omega | assumption | (simp only [rL, Nat.reduceAdd]; try omega)) only [↓rA, rZ, List.drop_succ_cons, ne_eq, not_true_eq_false, not_false_eq_true, List.getElem?_cons_zero, List.getElem?_cons_succ, ev, ofConst, ofCell, simprocAttr, ↓rR, f2, f3, f4, putAt_z1, hac, Hp.stA_of c3, Hp.set_ne, d23, d32, Hp.read_of c3, mkv_one]
        refine parse1_ret l2 l3 _ _ (resK_two (l2 := l2) (l3 := l3) (a := a) (b := .v (.int .i64 0)) ?_ ?_ ?_ (Hp.set_same _ _ _) ⟨?_, ?_⟩)
        · simp (dsimp := false) (implicitDefEqProofs := false) (disch := first | omega | assumption | (simp only [rL, Nat.reduceAdd]; try omega)) only [↓rA, rZ, List.drop_succ_cons, ne_eq, not_true_eq_false, not_false_eq_true, List.getElem?_cons_zero, List.getElem?_cons_succ, ev, ofConst, ofCell, simprocAttr, f2]
        · simp (dsimp := false) (implicitDefEqProofs := false) (disch := first | omega | assumption | (simp only [rL, Nat.reduceAdd]; try omega)) only [↓rA, rZ, List.drop_succ_cons, ne_eq, not_true_eq_false, not_false_eq_true, List.getElem?_cons_zero, List.getElem?_cons_succ, ev, ofConst, ofCell, simprocAttr, f3]
        · rw [Hp.set_ne _ _ d23, Hp.set_same]
        · exact Hp.sub_new hss n3s
        · rw [parseL, e6]; simp only [hl', hneg, if_true]; exact ⟨a, hR, rfl⟩
    · have hz : ((0 : Int) < (xs.length : Int)) := by
        rw [hxl]; have := List.length_pos_iff.2 hl'; omega
      simp (dsimp := false) (implicitDefEqProofs := false) (disch := first | omega | assumption | (simp only [rL, Nat.reduceAdd]; try omega)) only [↓rA, rZ, List.drop_succ_cons, ne_eq, not_true_eq_false, not_false_eq_true, List.getElem?_cons_zero, List.getElem?_cons_succ, ev, ofConst, ofCell, simprocAttr, ↓rR, f2, f3, f4, putAt_z1, hac, Hp.stA_of c2, Hp.set_ne, b2t, bt2, b2l, bl2, Hp.read_of hx2, hz, Hp.read_of hl2]
      refine callp_intro (fail_spec _) (fun _ _ h => h.elim) ?_
      rintro r s' ⟨rfl, hs⟩
      exact kp 2 s' _ _ (Hp.sub_trans hss hs) (hs _ _ (Hp.set_same _ _ _)) (hs _ _ hss3) (by rw [parseL, e6]; simp [hl'])
end Go.Proofs.YtgfbealjkdhdbaaGreatDoor
set_option maxRecDepth 100000
namespace Go.Proofs.YtgfbealjkdhdbaaGreatDoor
open Go Go.Av
theorem putAt_full {xs ys : List AV} (h : ys.length = xs.length) : putAt xs 0 ys = ys := by simp [putAt, h]
theorem AllV.get {α : Type} {V : α → AV → Prop} : ∀ {xs : List α} {av : List AV} {i : Nat} {x : α}, AllV V xs av → xs[i]? = some x → ∃ a, av[i]? = some a ∧ V x a
  | [], [], _, _, _, h => by simp at h
  | x :: r, a :: q, 0, y, h, hi => by
    simp only [List.getElem?_cons_zero, Option.some.injEq] at hi; subst hi
    exact ⟨a, rfl, h.1⟩
  | x :: r, a :: q, i + 1, y, h, hi => by
    rw [List.getElem?_cons_succ] at hi
    obtain ⟨b, h1, h2⟩ := AllV.get h.2 hi
    exact ⟨b, by rw [List.getElem?_cons_succ]; exact h1, h2⟩
  | [], _ :: _, _, _, h, _ => h.elim
  | _ :: _, [], _, _, h, _ => h.elim
theorem iaSA_row {rows : List (List Int)} {av : List AV} {o : Own} {i : Nat} {r : List Int} (hA : AllV rowR rows av) (hi : rows[i]? = some r) : ∃ o2, iaSA 1 (.sl av o) (.v (.int .i64 (i : Int))) = some (.rptr [.sl (intsV r) o2]) := by
  obtain ⟨a, h1, ⟨av2, o2, h2, rfl⟩⟩ := hA.get hi
  refine ⟨o2, ?_⟩
  have h0 : (0 : Int) ≤ (i : Int) := by omega
  simp only [iaSA, h0, if_true, Int.toNat_natCast, h1]
  rw [elA_some (e := .sl av2 o2) (k := 1) rfl, AllV_int h2]; rfl
end Go.Proofs.YtgfbealjkdhdbaaGreatDoor
set_option maxRecDepth 100000
namespace Go.Proofs.YtgfbealjkdhdbaaGreatDoor
open Go Go.Av
structure RStm where
  kind : Int
  tab : List UInt8
  cols : List (List UInt8)
  rows : List (List Int)
  wh : List Cond
  sets : List Asg
  count : Bool
  asof : Int
  col : List UInt8
  down : Bool
  pt : List Int
  lim : Int
  tx : Int
def zRS : RStm := ⟨0, [], [], [], [], [], false, 0, [], false, [], 0, 0⟩
def rsR (x : RStm) (cs : List AV) : Prop := ∃ c r w t p, slR strR x.cols c ∧ slR rowR x.rows r ∧ slR condR x.wh w ∧ slR asgR x.sets t ∧ slR intR x.pt p ∧
  cs = [.v (.int .i64 x.kind), strV x.tab, c, r, w, t, .v (.bool x.count), .v (.int .i64 x.asof), strV x.col, .v (.bool x.down), p, .v (.int .i64 x.lim), .v (.int .u8 x.tx)]
def ofS : Stm → RStm
  | .create t c => { zRS with kind := 1, tab := t, cols := c }
  | .drop t => { zRS with kind := 2, tab := t }
  | .insert t r => { zRS with kind := 3, tab := t, rows := r }
  | .delete t w => { zRS with kind := 4, tab := t, wh := w }
  | .update t a w => { zRS with kind := 5, tab := t, sets := a, wh := w }
  | .sel x => { zRS with kind := 6, tab := x.tab, count := x.count, asof := x.asof, wh := x.wh, col := x.srt.col, down := x.srt.down, pt := x.srt.pt, lim := x.lim }
  | .tx k => { zRS with kind := 7, tx := k }
def zCells : List AV := [.v (.int .i64 0), .v (.string ⟨#[]⟩), .sl [] .nil, .sl [] .nil, .sl [] .nil, .sl [] .nil, .v (.bool false), .v (.int .i64 0), .v (.string ⟨#[]⟩), .v (.bool false), .sl [] .nil, .v (.int .i64 0), .v (.int .u8 0)]
theorem take3 {a b c : AV} {r : List AV} : List.take 3 (a :: b :: c :: r) = [a, b, c] := rfl
theorem z_cells : ([AV.v (.int .i64 0)] ++ [AV.v (.string ⟨#[]⟩)] ++ List.replicate 4 (.sl [] .nil) ++ [.v (.bool false)] ++ [.v (.int .i64 0)] ++ [.v (.string ⟨#[]⟩)] ++ [.v (.bool false)] ++ [.sl [] .nil] ++ [.v (.int .i64 0)] ++ [.v (.int .u8 0)]) = zCells := rfl
theorem Of_nil (s : Hp) : AC Tryz.prog 14 [.v .nilIface] s fun r s' => s.sub s' ∧ ∃ cs, rsR zRS cs ∧ r = .agg cs := by
  refine AC_run hm prep14 (by simp) ?_
  simp (dsimp := false) (implicitDefEqProofs := false) (disch := first | omega | assumption | (simp only [rL, Nat.reduceAdd]; try omega)) only [↓rA, rZ, List.drop_succ_cons, ne_eq, not_true_eq_false, not_false_eq_true, List.getElem?_cons_zero, List.getElem?_cons_succ, ev, ofConst, ofCell, ↓reduceIte, Nat.reduceEqDiff, Nat.reduceAdd, Nat.reduceSub, Nat.reduceMul, Nat.reduceLeDiff, Nat.reduceLT, Int.reduceNeg, Int.reduceToNat, Int.reduceAdd, Int.reduceSub, Int.reduceMul, Int.reduceLT, Int.reduceLE, Int.reduceEq, Int.reduceNe, z_cells]
  refine newK_intro fun l2 n2 => ?_
  simp (dsimp := false) (implicitDefEqProofs := false) (disch := first | omega | assumption | (simp only [rL, Nat.reduceAdd]; try omega)) only [↓rA, rZ, List.drop_succ_cons, ne_eq, not_true_eq_false, not_false_eq_true, List.getElem?_cons_zero, List.getElem?_cons_succ, ev, ofConst, ofCell, ↓reduceIte, Nat.reduceEqDiff, Nat.reduceAdd, Nat.reduceSub, Nat.reduceMul, Nat.reduceLeDiff, Nat.reduceLT, Int.reduceNeg, Int.reduceToNat, Int.reduceAdd, Int.reduceSub, Int.reduceMul, Int.reduceLT, Int.reduceLE, Int.reduceEq, Int.reduceNe, z_cells, zCells, asrtA_nil, putAt_full]
  exact ⟨_, Hp.sub_refl, Hp.sub_new Hp.sub_refl n2, _, ⟨_, _, _, _, _, slR_nil, slR_nil, slR_nil, slR_nil, slR_nil, rfl⟩, rfl⟩
theorem Of_spec (x : Stm) (a : AV) (h : stmR x a) (s : Hp) : AC Tryz.prog 14 [a] s fun r s' => s.sub s' ∧ ∃ cs, rsR (ofS x) cs ∧ r = .agg cs := by
  refine AC_run hm prep14 (by simp) ?_
  simp (dsimp := false) (implicitDefEqProofs := false) (disch := first | omega | assumption | (simp only [rL, Nat.reduceAdd]; try omega)) only [↓rA, rZ, List.drop_succ_cons, ne_eq, not_true_eq_false, not_false_eq_true, List.getElem?_cons_zero, List.getElem?_cons_succ, ev, ofConst, ofCell, ↓reduceIte, Nat.reduceEqDiff, Nat.reduceAdd, Nat.reduceSub, Nat.reduceMul, Nat.reduceLeDiff, Nat.reduceLT, Int.reduceNeg, Int.reduceToNat, Int.reduceAdd, Int.reduceSub, Int.reduceMul, Int.reduceLT, Int.reduceLE, Int.reduceEq, Int.reduceNe, z_cells]
  refine newK_intro fun l2 n2 => ?_
  cases x with
  | create t c =>
    obtain ⟨c', hc, rfl⟩ := h
    obtain ⟨av, o, hA, rfl⟩ := id hc
    simp (dsimp := false) (implicitDefEqProofs := false) (disch := first | omega | assumption | (simp only [rL, Nat.reduceAdd]; try omega)) only [↓rA, rZ, List.drop_succ_cons, ne_eq, not_true_eq_false, not_false_eq_true, List.getElem?_cons_zero, List.getElem?_cons_succ, ev, ofConst, ofCell, ↓reduceIte, Nat.reduceEqDiff, Nat.reduceAdd, Nat.reduceSub, Nat.reduceMul, Nat.reduceLeDiff, Nat.reduceLT, Int.reduceNeg, Int.reduceToNat, Int.reduceAdd, Int.reduceSub, Int.reduceMul, Int.reduceLT, Int.reduceLE, Int.reduceEq, Int.reduceNe, z_cells, asrtA_yes, asrtA_no, strV]
    refine newK_intro fun l3 n3 => ?_
    have d : l2 ≠ l3 := by rintro rfl; rw [Hp.set_same] at n3; cases n3
    have d' := Ne.symm d
    have n3s : s l3 = none := by rw [Hp.set_ne _ _ d'] at n3; exact n3
    simp (dsimp := false) (implicitDefEqProofs := false) (disch := first | omega | assumption | (simp only [rL, Nat.reduceAdd]; try omega)) only [↓rA, rZ, List.drop_succ_cons, ne_eq, not_true_eq_false, not_false_eq_true, List.getElem?_cons_zero, List.getElem?_cons_succ, ev, ofConst, ofCell, ↓reduceIte, Nat.reduceEqDiff, Nat.reduceAdd, Nat.reduceSub, Nat.reduceMul, Nat.reduceLeDiff, Nat.reduceLT, Int.reduceNeg, Int.reduceToNat, Int.reduceAdd, Int.reduceSub, Int.reduceMul, Int.reduceLT, Int.reduceLE, Int.reduceEq, Int.reduceNe, z_cells, strV, Hp.set_ne, d, d', take3, putAt_full, putAt_z1, putAt_z3, putAt_sc, zCells]
    exact ⟨_, Hp.sub_refl, Hp.sub_new (Hp.sub_new Hp.sub_refl n2) n3s, _, ⟨_, _, _, _, _, hc, slR_nil, slR_nil, slR_nil, slR_nil, rfl⟩, rfl⟩
  | drop t =>
    obtain rfl := h
    have k0 : (91 : TypeId) ≠ 89 := by decide
    simp (dsimp := false) (implicitDefEqProofs := false) (disch := first | omega | assumption | (simp only [rL, Nat.reduceAdd]; try omega)) only [↓rA, rZ, List.drop_succ_cons, ne_eq, not_true_eq_false, not_false_eq_true, List.getElem?_cons_zero, List.getElem?_cons_succ, ev, ofConst, ofCell, ↓reduceIte, Nat.reduceEqDiff, Nat.reduceAdd, Nat.reduceSub, Nat.reduceMul, Nat.reduceLeDiff, Nat.reduceLT, Int.reduceNeg, Int.reduceToNat, Int.reduceAdd, Int.reduceSub, Int.reduceMul, Int.reduceLT, Int.reduceLE, Int.reduceEq, Int.reduceNe, z_cells, asrtA_yes, asrtA_no, strV]
    refine newK_intro fun l3 n3 => ?_
    have d : l2 ≠ l3 := by rintro rfl; rw [Hp.set_same] at n3; cases n3
    have d' := Ne.symm d
    have n3s : s l3 = none := by rw [Hp.set_ne _ _ d'] at n3; exact n3
    simp (dsimp := false) (implicitDefEqProofs := false) (disch := first | omega | assumption | (simp only [rL, Nat.reduceAdd]; try omega)) only [↓rA, rZ, List.drop_succ_cons, ne_eq, not_true_eq_false, not_false_eq_true, List.getElem?_cons_zero, List.getElem?_cons_succ, ev, ofConst, ofCell, ↓reduceIte, Nat.reduceEqDiff, Nat.reduceAdd, Nat.reduceSub, Nat.reduceMul, Nat.reduceLeDiff, Nat.reduceLT, Int.reduceNeg, Int.reduceToNat, Int.reduceAdd, Int.reduceSub, Int.reduceMul, Int.reduceLT, Int.reduceLE, Int.reduceEq, Int.reduceNe, z_cells, strV, Hp.set_ne, d, d', take3, putAt_full, putAt_z1, putAt_z3, putAt_sc, zCells]
    exact ⟨_, Hp.sub_refl, Hp.sub_new (Hp.sub_new Hp.sub_refl n2) n3s, _, ⟨_, _, _, _, _, slR_nil, slR_nil, slR_nil, slR_nil, slR_nil, rfl⟩, rfl⟩
  | insert t c =>
    obtain ⟨c', hc, rfl⟩ := h
    obtain ⟨av, o, hA, rfl⟩ := id hc
    have k0 : (93 : TypeId) ≠ 89 := by decide
    have k1 : (93 : TypeId) ≠ 91 := by decide
    simp (dsimp := false) (implicitDefEqProofs := false) (disch := first | omega | assumption | (simp only [rL, Nat.reduceAdd]; try omega)) only [↓rA, rZ, List.drop_succ_cons, ne_eq, not_true_eq_false, not_false_eq_true, List.getElem?_cons_zero, List.getElem?_cons_succ, ev, ofConst, ofCell, ↓reduceIte, Nat.reduceEqDiff, Nat.reduceAdd, Nat.reduceSub, Nat.reduceMul, Nat.reduceLeDiff, Nat.reduceLT, Int.reduceNeg, Int.reduceToNat, Int.reduceAdd, Int.reduceSub, Int.reduceMul, Int.reduceLT, Int.reduceLE, Int.reduceEq, Int.reduceNe, z_cells, asrtA_yes, asrtA_no, strV]
    refine newK_intro fun l3 n3 => ?_
    have d : l2 ≠ l3 := by rintro rfl; rw [Hp.set_same] at n3; cases n3
    have d' := Ne.symm d
    have n3s : s l3 = none := by rw [Hp.set_ne _ _ d'] at n3; exact n3
    simp (dsimp := false) (implicitDefEqProofs := false) (disch := first | omega | assumption | (simp only [rL, Nat.reduceAdd]; try omega)) only [↓rA, rZ, List.drop_succ_cons, ne_eq, not_true_eq_false, not_false_eq_true, List.getElem?_cons_zero, List.getElem?_cons_succ, ev, ofConst, ofCell, ↓reduceIte, Nat.reduceEqDiff, Nat.reduceAdd, Nat.reduceSub, Nat.reduceMul, Nat.reduceLeDiff, Nat.reduceLT, Int.reduceNeg, Int.reduceToNat, Int.reduceAdd, Int.reduceSub, Int.reduceMul, Int.reduceLT, Int.reduceLE, Int.reduceEq, Int.reduceNe, z_cells, strV, Hp.set_ne, d, d', take3, putAt_full, putAt_z1, putAt_z3, putAt_sc, zCells]
    exact ⟨_, Hp.sub_refl, Hp.sub_new (Hp.sub_new Hp.sub_refl n2) n3s, _, ⟨_, _, _, _, _, slR_nil, hc, slR_nil, slR_nil, slR_nil, rfl⟩, rfl⟩
  | delete t c =>
    obtain ⟨c', hc, rfl⟩ := h
    obtain ⟨av, o, hA, rfl⟩ := id hc
    have k0 : (95 : TypeId) ≠ 89 := by decide
    have k1 : (95 : TypeId) ≠ 91 := by decide
    have k2 : (95 : TypeId) ≠ 93 := by decide
    simp (dsimp := false) (implicitDefEqProofs := false) (disch := first | omega | assumption | (simp only [rL, Nat.reduceAdd]; try omega)) only [↓rA, rZ, List.drop_succ_cons, ne_eq, not_true_eq_false, not_false_eq_true, List.getElem?_cons_zero, List.getElem?_cons_succ, ev, ofConst, ofCell, ↓reduceIte, Nat.reduceEqDiff, Nat.reduceAdd, Nat.reduceSub, Nat.reduceMul, Nat.reduceLeDiff, Nat.reduceLT, Int.reduceNeg, Int.reduceToNat, Int.reduceAdd, Int.reduceSub, Int.reduceMul, Int.reduceLT, Int.reduceLE, Int.reduceEq, Int.reduceNe, z_cells, asrtA_yes, asrtA_no, strV]
    refine newK_intro fun l3 n3 => ?_
    have d : l2 ≠ l3 := by rintro rfl; rw [Hp.set_same] at n3; cases n3
    have d' := Ne.symm d
    have n3s : s l3 = none := by rw [Hp.set_ne _ _ d'] at n3; exact n3
    simp (dsimp := false) (implicitDefEqProofs := false) (disch := first | omega | assumption | (simp only [rL, Nat.reduceAdd]; try omega)) only [↓rA, rZ, List.drop_succ_cons, ne_eq, not_true_eq_false, not_false_eq_true, List.getElem?_cons_zero, List.getElem?_cons_succ, ev, ofConst, ofCell, ↓reduceIte, Nat.reduceEqDiff, Nat.reduceAdd, Nat.reduceSub, Nat.reduceMul, Nat.reduceLeDiff, Nat.reduceLT, Int.reduceNeg, Int.reduceToNat, Int.reduceAdd, Int.reduceSub, Int.reduceMul, Int.reduceLT, Int.reduceLE, Int.reduceEq, Int.reduceNe, z_cells, strV, Hp.set_ne, d, d', take3, putAt_full, putAt_z1, putAt_z3, putAt_sc, zCells]
    exact ⟨_, Hp.sub_refl, Hp.sub_new (Hp.sub_new Hp.sub_refl n2) n3s, _, ⟨_, _, _, _, _, slR_nil, slR_nil, hc, slR_nil, slR_nil, rfl⟩, rfl⟩
  | update t c d =>
    obtain ⟨c', d', hc, hd, rfl⟩ := h
    obtain ⟨av, o, hA, rfl⟩ := id hc
    obtain ⟨aw, ow, hB, rfl⟩ := id hd
    have k0 : (97 : TypeId) ≠ 89 := by decide
    have k1 : (97 : TypeId) ≠ 91 := by decide
    have k2 : (97 : TypeId) ≠ 93 := by decide
    have k3 : (97 : TypeId) ≠ 95 := by decide
    simp (dsimp := false) (implicitDefEqProofs := false) (disch := first | omega | assumption | (simp only [rL, Nat.reduceAdd]; try omega)) only [↓rA, rZ, List.drop_succ_cons, ne_eq, not_true_eq_false, not_false_eq_true, List.getElem?_cons_zero, List.getElem?_cons_succ, ev, ofConst, ofCell, ↓reduceIte, Nat.reduceEqDiff, Nat.reduceAdd, Nat.reduceSub, Nat.reduceMul, Nat.reduceLeDiff, Nat.reduceLT, Int.reduceNeg, Int.reduceToNat, Int.reduceAdd, Int.reduceSub, Int.reduceMul, Int.reduceLT, Int.reduceLE, Int.reduceEq, Int.reduceNe, z_cells, asrtA_yes, asrtA_no, strV]
    refine newK_intro fun l3 n3 => ?_
    have d : l2 ≠ l3 := by rintro rfl; rw [Hp.set_same] at n3; cases n3
    have d' := Ne.symm d
    have n3s : s l3 = none := by rw [Hp.set_ne _ _ d'] at n3; exact n3
    simp (dsimp := false) (implicitDefEqProofs := false) (disch := first | omega | assumption | (simp only [rL, Nat.reduceAdd]; try omega)) only [↓rA, rZ, List.drop_succ_cons, ne_eq, not_true_eq_false, not_false_eq_true, List.getElem?_cons_zero, List.getElem?_cons_succ, ev, ofConst, ofCell, ↓reduceIte, Nat.reduceEqDiff, Nat.reduceAdd, Nat.reduceSub, Nat.reduceMul, Nat.reduceLeDiff, Nat.reduceLT, Int.reduceNeg, Int.reduceToNat, Int.reduceAdd, Int.reduceSub, Int.reduceMul, Int.reduceLT, Int.reduceLE, Int.reduceEq, Int.reduceNe, z_cells, strV, Hp.set_ne, d, d', take3, putAt_full, putAt_z1, putAt_z3, putAt_sc, zCells]
    exact ⟨_, Hp.sub_refl, Hp.sub_new (Hp.sub_new Hp.sub_refl n2) n3s, _, ⟨_, _, _, _, _, slR_nil, slR_nil, hd, hc, slR_nil, rfl⟩, rfl⟩
  | sel x =>
    obtain ⟨c', p', hc, hp, rfl⟩ := h
    obtain ⟨av, o, hA, rfl⟩ := id hc
    obtain ⟨ap, op, hP, rfl⟩ := id hp
    have k0 : (99 : TypeId) ≠ 89 := by decide
    have k1 : (99 : TypeId) ≠ 91 := by decide
    have k2 : (99 : TypeId) ≠ 93 := by decide
    have k3 : (99 : TypeId) ≠ 95 := by decide
    have k4 : (99 : TypeId) ≠ 97 := by decide
    simp (dsimp := false) (implicitDefEqProofs := false) (disch := first | omega | assumption | (simp only [rL, Nat.reduceAdd]; try omega)) only [↓rA, rZ, List.drop_succ_cons, ne_eq, not_true_eq_false, not_false_eq_true, List.getElem?_cons_zero, List.getElem?_cons_succ, ev, ofConst, ofCell, ↓reduceIte, Nat.reduceEqDiff, Nat.reduceAdd, Nat.reduceSub, Nat.reduceMul, Nat.reduceLeDiff, Nat.reduceLT, Int.reduceNeg, Int.reduceToNat, Int.reduceAdd, Int.reduceSub, Int.reduceMul, Int.reduceLT, Int.reduceLE, Int.reduceEq, Int.reduceNe, z_cells, asrtA_yes, asrtA_no, strV]
    refine newK_intro fun l3 n3 => ?_
    have d : l2 ≠ l3 := by rintro rfl; rw [Hp.set_same] at n3; cases n3
    have d' := Ne.symm d
    have n3s : s l3 = none := by rw [Hp.set_ne _ _ d'] at n3; exact n3
    simp (dsimp := false) (implicitDefEqProofs := false) (disch := first | omega | assumption | (simp only [rL, Nat.reduceAdd]; try omega)) only [↓rA, rZ, List.drop_succ_cons, ne_eq, not_true_eq_false, not_false_eq_true, List.getElem?_cons_zero, List.getElem?_cons_succ, ev, ofConst, ofCell, ↓reduceIte, Nat.reduceEqDiff, Nat.reduceAdd, Nat.reduceSub, Nat.reduceMul, Nat.reduceLeDiff, Nat.reduceLT, Int.reduceNeg, Int.reduceToNat, Int.reduceAdd, Int.reduceSub, Int.reduceMul, Int.reduceLT, Int.reduceLE, Int.reduceEq, Int.reduceNe, z_cells, strV, Hp.set_ne, d, d', take3, putAt_full, putAt_z1, putAt_z3, putAt_sc, zCells]
    exact ⟨_, Hp.sub_refl, Hp.sub_new (Hp.sub_new Hp.sub_refl n2) n3s, _, ⟨_, _, _, _, _, slR_nil, slR_nil, hc, slR_nil, hp, rfl⟩, rfl⟩
  | tx k =>
    obtain rfl := h
    have k0 : (101 : TypeId) ≠ 89 := by decide
    have k1 : (101 : TypeId) ≠ 91 := by decide
    have k2 : (101 : TypeId) ≠ 93 := by decide
    have k3 : (101 : TypeId) ≠ 95 := by decide
    have k4 : (101 : TypeId) ≠ 97 := by decide
    have k5 : (101 : TypeId) ≠ 99 := by decide
    simp (dsimp := false) (implicitDefEqProofs := false) (disch := first | omega | assumption | (simp only [rL, Nat.reduceAdd]; try omega)) only [↓rA, rZ, List.drop_succ_cons, ne_eq, not_true_eq_false, not_false_eq_true, List.getElem?_cons_zero, List.getElem?_cons_succ, ev, ofConst, ofCell, ↓reduceIte, Nat.reduceEqDiff, Nat.reduceAdd, Nat.reduceSub, Nat.reduceMul, Nat.reduceLeDiff, Nat.reduceLT, Int.reduceNeg, Int.reduceToNat, Int.reduceAdd, Int.reduceSub, Int.reduceMul, Int.reduceLT, Int.reduceLE, Int.reduceEq, Int.reduceNe, z_cells, asrtA_yes, asrtA_no, strV]
    refine newK_intro fun l3 n3 => ?_
    have d : l2 ≠ l3 := by rintro rfl; rw [Hp.set_same] at n3; cases n3
    have d' := Ne.symm d
    have n3s : s l3 = none := by rw [Hp.set_ne _ _ d'] at n3; exact n3
    simp (dsimp := false) (implicitDefEqProofs := false) (disch := first | omega | assumption | (simp only [rL, Nat.reduceAdd]; try omega)) only [↓rA, rZ, List.drop_succ_cons, ne_eq, not_true_eq_false, not_false_eq_true, List.getElem?_cons_zero, List.getElem?_cons_succ, ev, ofConst, ofCell, ↓reduceIte, Nat.reduceEqDiff, Nat.reduceAdd, Nat.reduceSub, Nat.reduceMul, Nat.reduceLeDiff, Nat.reduceLT, Int.reduceNeg, Int.reduceToNat, Int.reduceAdd, Int.reduceSub, Int.reduceMul, Int.reduceLT, Int.reduceLE, Int.reduceEq, Int.reduceNe, z_cells, strV, Hp.set_ne, d, d', take3, putAt_full, putAt_z1, putAt_z3, putAt_sc, zCells]
    exact ⟨_, Hp.sub_refl, Hp.sub_new (Hp.sub_new Hp.sub_refl n2) n3s, _, ⟨_, _, _, _, _, slR_nil, slR_nil, slR_nil, slR_nil, slR_nil, rfl⟩, rfl⟩
end Go.Proofs.YtgfbealjkdhdbaaGreatDoor
set_option maxRecDepth 100000
namespace Go.Proofs.YtgfbealjkdhdbaaGreatDoor
open Go Go.Av
theorem same02_spec (xs : List Int) (o o2 : Own) (s : Hp) (hn : xs.length ≤ 1000000) :
    AC Tryz.prog 35 [.sl (intsV xs) o, .sl (intsV xs) o2] s fun r s' => s' = s ∧ r = .v (.bool true) := by
  refine AC_run hm prep35 (by simp) ?_
  have hlen : (intsV xs).length = xs.length := by simp [intsV]
  simp (dsimp := false) (implicitDefEqProofs := false) (disch := first | omega | assumption | (simp only [rL, Nat.reduceAdd]; try omega)) only [↓rA, rZ, List.drop_succ_cons, ne_eq, not_true_eq_false, not_false_eq_true, List.getElem?_cons_zero, List.getElem?_cons_succ, ev, ofConst, ofCell, simprocAttr, hlen]
  refine loop_intro (fun f s' => ∃ i : Nat, i ≤ xs.length ∧ s' = s ∧ f 0 = .sl (intsV xs) o ∧ f 1 = .sl (intsV xs) o2 ∧ f 5 = .v (.int .i64 i))
    (fun f _ => match f 5 with | .v (.int _ n) => xs.length - n.toNat | _ => 0) ⟨0, by omega, rfl, ?_⟩ ?_
  · simp (dsimp := false) (implicitDefEqProofs := false) (disch := first | omega | assumption | (simp only [rL, Nat.reduceAdd]; try omega)) only [↓rA, rZ, List.drop_succ_cons, ne_eq, not_true_eq_false, not_false_eq_true, List.getElem?_cons_zero, List.getElem?_cons_succ, ev, ofConst, ofCell, simprocAttr, hlen]
  · rintro f s' ⟨i, hi, rfl, f0, f1, f5⟩
    by_cases hlt : (i : Int) < (xs.length : Int)
    · have hw1 : xs[i]? = some xs[i] := List.getElem?_eq_getElem (by omega)
      generalize xs[i] = v at hw1
      simp (dsimp := false) (implicitDefEqProofs := false) (disch := first | omega | assumption | (simp only [rL, Nat.reduceAdd]; try omega)) only [↓rA, rZ, List.drop_succ_cons, ne_eq, not_true_eq_false, not_false_eq_true, List.getElem?_cons_zero, List.getElem?_cons_succ, ev, ofConst, ofCell, simprocAttr, f0, f1, f5, hlen, hlt, iaSA_ints hw1]
      exact ⟨⟨i + 1, by omega, by simp⟩, by omega⟩
    · simp (dsimp := false) (implicitDefEqProofs := false) (disch := first | omega | assumption | (simp only [rL, Nat.reduceAdd]; try omega)) only [↓rA, rZ, List.drop_succ_cons, ne_eq, not_true_eq_false, not_false_eq_true, List.getElem?_cons_zero, List.getElem?_cons_succ, ev, ofConst, ofCell, simprocAttr, f0, f1, f5, hlen, hlt]
      exact ⟨_, Hp.sub_refl, rfl⟩
def condC (c : Cond) : List AV := [strV c.col, strV c.op, .v (.int .i64 c.a), .v (.int .i64 c.b)]
def asgC (c : Asg) : List AV := [strV c.col, .v (.int .i64 c.n)]
def condA (c : Cond) : AV := .agg (condC c)
def asgA (c : Asg) : AV := .agg (asgC c)
theorem eqv_cond {c : Cond} {C : AV → Prop} : eqvK true [(2, .str), (2, .int .i64)] (condA c) (condA c) C = C (.v (.bool false)) := by
  show (fitR _ _ ∧ fitR _ _ ∧ C (.v (.bool (xor true (peq _ _))))) = _
  rw [peq_self]
  have h : fitR [(2, .str), (2, .int .i64)] (condC c) := by
    simp [fitR, condC, CK.fitA, CK.fit, strV]
  simp [h]
theorem eqv_asg {c : Asg} {C : AV → Prop} : eqvK true [(1, .str), (1, .int .i64)] (asgA c) (asgA c) C = C (.v (.bool false)) := by
  show (fitR _ _ ∧ fitR _ _ ∧ C (.v (.bool (xor true (peq _ _))))) = _
  rw [peq_self]
  have h : fitR [(1, .str), (1, .int .i64)] (asgC c) := by
    simp [fitR, asgC, CK.fitA, CK.fit, strV]
  simp [h]
theorem ld_cond {s : Hp} {c : Cond} : loadA true 4 s (.rptr (condC c)) = some (condA c) := rfl
theorem ld_asg {s : Hp} {c : Asg} : loadA true 2 s (.rptr (asgC c)) = some (asgA c) := rfl
theorem ia_cond {cs : List Cond} {av : List AV} {o : Own} {i : Nat} {c : Cond} (hA : AllV condR cs av) (hi : cs[i]? = some c) : iaSA 4 (.sl av o) (.v (.int .i64 (i : Int))) = some (.rptr (condC c)) := by
  obtain ⟨a, h1, rfl⟩ := hA.get hi
  have h0 : (0 : Int) ≤ (i : Int) := by omega
  simp only [iaSA, h0, if_true, Int.toNat_natCast, h1]
  rw [elA_some (k := 4) rfl]; rfl
theorem ia_asg {cs : List Asg} {av : List AV} {o : Own} {i : Nat} {c : Asg} (hA : AllV asgR cs av) (hi : cs[i]? = some c) : iaSA 2 (.sl av o) (.v (.int .i64 (i : Int))) = some (.rptr (asgC c)) := by
  obtain ⟨a, h1, rfl⟩ := hA.get hi
  have h0 : (0 : Int) ≤ (i : Int) := by omega
  simp only [iaSA, h0, if_true, Int.toNat_natCast, h1]
  rw [elA_some (k := 2) rfl]; rfl
theorem ia_str {cs : List (List UInt8)} {av : List AV} {o : Own} {i : Nat} {c : List UInt8} (hA : AllV strR cs av) (hi : cs[i]? = some c) : iaSA 1 (.sl av o) (.v (.int .i64 (i : Int))) = some (.rptr [strV c]) := by
  obtain ⟨a, h1, rfl⟩ := hA.get hi
  have h0 : (0 : Int) ≤ (i : Int) := by omega
  simp only [iaSA, h0, if_true, Int.toNat_natCast, h1]
  rw [elA_some (k := 1) rfl]; rfl
theorem ld_str1 {s : Hp} {w : List UInt8} : loadA false 1 s (.rptr [strV w]) = some (strV w) := rfl
theorem beqb {b : Bool} : (b == b) = true := by cases b <;> rfl
theorem neq_same {w : List UInt8} : binA .neq (strV w) (strV w) = some (.v (.bool false)) := by
  have := binA_neqS (a := w) (b := w); simpa using this
theorem eql_same {w : List UInt8} : binA .eql (strV w) (strV w) = some (.v (.bool true)) := by
  have := binA_eqlS (a := w) (b := w); simpa using this
structure RsOk (x : RStm) : Prop where
  cols : x.cols.length ≤ 1000000
  rows : x.rows.length ≤ 1000000
  row : ∀ r ∈ x.rows, r.length ≤ 1000000
  wh : x.wh.length ≤ 1000000
  sets : x.sets.length ≤ 1000000
  pt : x.pt.length ≤ 1000000
def rsL (x : RStm) (c r w t p : AV) : List AV := [.v (.int .i64 x.kind), strV x.tab, c, r, w, t, .v (.bool x.count), .v (.int .i64 x.asof), strV x.col, .v (.bool x.down), p, .v (.int .i64 x.lim), .v (.int .u8 x.tx)]
theorem same24_spec (x : RStm) (hx : RsOk x) (cs ds : List AV) (hc : rsR x cs) (hd : rsR x ds) (s : Hp) :
    AC Tryz.prog 13 [.agg cs, .agg ds] s fun r s' => s.sub s' ∧ r = .v (.bool true) := by
  obtain ⟨_, _, _, _, _, ⟨c1, oc1, hC1, rfl⟩, ⟨r1, or1, hR1, rfl⟩, ⟨w1, ow1, hW1, rfl⟩, ⟨t1, ot1, hT1, rfl⟩, ⟨p1, op1, hP1, rfl⟩, rfl⟩ := hc
  obtain ⟨_, _, _, _, _, ⟨c2, oc2, hC2, rfl⟩, ⟨r2, or2, hR2, rfl⟩, ⟨w2, ow2, hW2, rfl⟩, ⟨t2, ot2, hT2, rfl⟩, ⟨p2, op2, hP2, rfl⟩, rfl⟩ := hd
  obtain rfl : p1 = intsV x.pt := AllV_int hP1
  obtain rfl : p2 = intsV x.pt := AllV_int hP2
  have lc1 := hC1.len; have lc2 := hC2.len; have lr1 := hR1.len; have lr2 := hR2.len
  have lw1 := hW1.len; have lw2 := hW2.len; have lt1 := hT1.len; have lt2 := hT2.len
  refine AC_run hm prep13 (by simp) ?_
  simp (dsimp := false) (implicitDefEqProofs := false) (disch := first | omega | assumption | (simp only [rL, Nat.reduceAdd]; try omega)) only [↓rA, rZ, List.drop_succ_cons, ne_eq, not_true_eq_false, not_false_eq_true, List.getElem?_cons_zero, List.getElem?_cons_succ, ev, ofConst, ofCell, simprocAttr]
  refine newK_intro fun l2 n2 => ?_
  simp (dsimp := false) (implicitDefEqProofs := false) (disch := first | omega | assumption | (simp only [rL, Nat.reduceAdd]; try omega)) only [↓rA, rZ, List.drop_succ_cons, ne_eq, not_true_eq_false, not_false_eq_true, List.getElem?_cons_zero, List.getElem?_cons_succ, ev, ofConst, ofCell, simprocAttr]
  refine newK_intro fun l3 n3 => ?_
  have d : l2 ≠ l3 := by rintro rfl; rw [Hp.set_same] at n3; cases n3
  have d' := Ne.symm d
  have n3s : s l3 = none := by rw [Hp.set_ne _ _ d'] at n3; exact n3
  have b1 : x.cols.length ≤ 1000000 := hx.cols
  have b2 : x.rows.length ≤ 1000000 := hx.rows
  have b3 : x.wh.length ≤ 1000000 := hx.wh
  have b4 : x.sets.length ≤ 1000000 := hx.sets
  simp (dsimp := false) (implicitDefEqProofs := false) (disch := first | omega | assumption | (simp only [rL, Nat.reduceAdd]; try omega)) only [↓rA, rZ, List.drop_succ_cons, ne_eq, not_true_eq_false, not_false_eq_true, List.getElem?_cons_zero, List.getElem?_cons_succ, ev, ofConst, ofCell, simprocAttr, Hp.set_ne, d, d', lc1, lc2, lr1, lr2, lw1, lw2, lt1, lt2, neq_same]
  refine loop_intro (fun f s' => ∃ i : Nat, i ≤ x.cols.length ∧ s.sub s' ∧ s' l2 = some (.cells (rsL x (.sl c1 oc1) (.sl r1 or1) (.sl w1 ow1) (.sl t1 ot1) (.sl (intsV x.pt) op1))) ∧ s' l3 = some (.cells (rsL x (.sl c2 oc2) (.sl r2 or2) (.sl w2 ow2) (.sl t2 ot2) (.sl (intsV x.pt) op2))) ∧ f 2 = .ptr l2 0 ∧ f 3 = .ptr l3 0 ∧ f 5 = .v (.int .i64 i))
    (fun f _ => match f 5 with | .v (.int _ n) => x.cols.length - n.toNat | _ => 0) ⟨0, by omega, Hp.sub_new (Hp.sub_new Hp.sub_refl n2) n3s, (by rw [Hp.set_ne _ _ d, Hp.set_same]; rfl), (by rw [Hp.set_same]; rfl), ?_⟩ ?_
  · simp (dsimp := false) (implicitDefEqProofs := false) (disch := first | omega | assumption | (simp only [rL, Nat.reduceAdd]; try omega)) only [↓rA, rZ, List.drop_succ_cons, ne_eq, not_true_eq_false, not_false_eq_true, List.getElem?_cons_zero, List.getElem?_cons_succ, ev, ofConst, ofCell, simprocAttr]
  rintro f s' ⟨i, hi, hs, g2, g3, f2, f3, f5⟩
  by_cases hlt : (i : Int) < (x.cols.length : Int)
  · have hw : x.cols[i]? = some x.cols[i] := List.getElem?_eq_getElem (by omega)
    generalize x.cols[i]'(by omega) = v at hw
    simp (dsimp := false) (implicitDefEqProofs := false) (disch := first | omega | assumption | (simp only [rL, Nat.reduceAdd]; try omega)) only [↓rA, rZ, List.drop_succ_cons, ne_eq, not_true_eq_false, not_false_eq_true, List.getElem?_cons_zero, List.getElem?_cons_succ, ev, ofConst, ofCell, simprocAttr, f2, f3, f5, Hp.read_of g2, Hp.read_of g3, rsL, lc1, lc2, hlt, ia_str (o := oc1) hC1 hw, ia_str (o := oc2) hC2 hw, ld_str1, neq_same]
    exact ⟨⟨i + 1, by omega, hs, g2, g3, by simp⟩, by omega⟩
  obtain rfl : i = x.cols.length := by omega
  simp (dsimp := false) (implicitDefEqProofs := false) (disch := first | omega | assumption | (simp only [rL, Nat.reduceAdd]; try omega)) only [↓rA, rZ, List.drop_succ_cons, ne_eq, not_true_eq_false, not_false_eq_true, List.getElem?_cons_zero, List.getElem?_cons_succ, ev, ofConst, ofCell, simprocAttr, f2, f3, f5, Hp.read_of g2, rsL, lc1, hlt]
  refine loop_intro (fun f s' => ∃ i : Nat, i ≤ x.rows.length ∧ s.sub s' ∧ s' l2 = some (.cells (rsL x (.sl c1 oc1) (.sl r1 or1) (.sl w1 ow1) (.sl t1 ot1) (.sl (intsV x.pt) op1))) ∧ s' l3 = some (.cells (rsL x (.sl c2 oc2) (.sl r2 or2) (.sl w2 ow2) (.sl t2 ot2) (.sl (intsV x.pt) op2))) ∧ f 2 = .ptr l2 0 ∧ f 3 = .ptr l3 0 ∧ f 6 = .v (.int .i64 i))
    (fun f _ => match f 6 with | .v (.int _ n) => x.rows.length - n.toNat | _ => 0) ⟨0, by omega, hs, g2, g3, ?_⟩ ?_
  · simp (dsimp := false) (implicitDefEqProofs := false) (disch := first | omega | assumption | (simp only [rL, Nat.reduceAdd]; try omega)) only [↓rA, rZ, List.drop_succ_cons, ne_eq, not_true_eq_false, not_false_eq_true, List.getElem?_cons_zero, List.getElem?_cons_succ, ev, ofConst, ofCell, simprocAttr, f2, f3]
  rintro f s' ⟨i, hi, hs, g2, g3, f2, f3, f6⟩
  by_cases hlt : (i : Int) < (x.rows.length : Int)
  · have hw : x.rows[i]? = some x.rows[i] := List.getElem?_eq_getElem (by omega)
    have hrl := hx.row _ (List.getElem_mem (l := x.rows) (n := i) (by omega))
    generalize x.rows[i]'(by omega) = v at hw hrl
    obtain ⟨q1, e1⟩ := iaSA_row (o := or1) hR1 hw
    obtain ⟨q2, e2⟩ := iaSA_row (o := or2) hR2 hw
    simp (dsimp := false) (implicitDefEqProofs := false) (disch := first | omega | assumption | (simp only [rL, Nat.reduceAdd]; try omega)) only [↓rA, rZ, List.drop_succ_cons, ne_eq, not_true_eq_false, not_false_eq_true, List.getElem?_cons_zero, List.getElem?_cons_succ, ev, ofConst, ofCell, simprocAttr, f2, f3, f6, Hp.read_of g2, Hp.read_of g3, rsL, lr1, lr2, hlt, e1, e2]
    refine call_intro (same02_spec v q1 q2 _ hrl) ?_
    rintro _ _ ⟨rfl, rfl⟩
    simp (dsimp := false) (implicitDefEqProofs := false) (disch := first | omega | assumption | (simp only [rL, Nat.reduceAdd]; try omega)) only [↓rA, rZ, List.drop_succ_cons, ne_eq, not_true_eq_false, not_false_eq_true, List.getElem?_cons_zero, List.getElem?_cons_succ, ev, ofConst, ofCell, simprocAttr, f2, f3, f6]
    exact ⟨⟨i + 1, by omega, hs, g2, g3, by simp⟩, by omega⟩
  obtain rfl : i = x.rows.length := by omega
  simp (dsimp := false) (implicitDefEqProofs := false) (disch := first | omega | assumption | (simp only [rL, Nat.reduceAdd]; try omega)) only [↓rA, rZ, List.drop_succ_cons, ne_eq, not_true_eq_false, not_false_eq_true, List.getElem?_cons_zero, List.getElem?_cons_succ, ev, ofConst, ofCell, simprocAttr, f2, f3, f6, Hp.read_of g2, rsL, lr1, hlt]
  refine loop_intro (fun f s' => ∃ i : Nat, i ≤ x.wh.length ∧ s.sub s' ∧ s' l2 = some (.cells (rsL x (.sl c1 oc1) (.sl r1 or1) (.sl w1 ow1) (.sl t1 ot1) (.sl (intsV x.pt) op1))) ∧ s' l3 = some (.cells (rsL x (.sl c2 oc2) (.sl r2 or2) (.sl w2 ow2) (.sl t2 ot2) (.sl (intsV x.pt) op2))) ∧ f 2 = .ptr l2 0 ∧ f 3 = .ptr l3 0 ∧ f 7 = .v (.int .i64 i))
    (fun f _ => match f 7 with | .v (.int _ n) => x.wh.length - n.toNat | _ => 0) ⟨0, by omega, hs, g2, g3, ?_⟩ ?_
  · simp (dsimp := false) (implicitDefEqProofs := false) (disch := first | omega | assumption | (simp only [rL, Nat.reduceAdd]; try omega)) only [↓rA, rZ, List.drop_succ_cons, ne_eq, not_true_eq_false, not_false_eq_true, List.getElem?_cons_zero, List.getElem?_cons_succ, ev, ofConst, ofCell, simprocAttr, f2, f3]
  rintro f s' ⟨i, hi, hs, g2, g3, f2, f3, f7⟩
  by_cases hlt : (i : Int) < (x.wh.length : Int)
  · have hw : x.wh[i]? = some x.wh[i] := List.getElem?_eq_getElem (by omega)
    generalize x.wh[i]'(by omega) = v at hw
    simp (dsimp := false) (implicitDefEqProofs := false) (disch := first | omega | assumption | (simp only [rL, Nat.reduceAdd]; try omega)) only [↓rA, rZ, List.drop_succ_cons, ne_eq, not_true_eq_false, not_false_eq_true, List.getElem?_cons_zero, List.getElem?_cons_succ, ev, ofConst, ofCell, simprocAttr, f2, f3, f7, Hp.read_of g2, Hp.read_of g3, rsL, lw1, lw2, hlt, ia_cond (o := ow1) hW1 hw, ia_cond (o := ow2) hW2 hw, ld_cond, eqv_cond]
    exact ⟨⟨i + 1, by omega, hs, g2, g3, by simp⟩, by omega⟩
  obtain rfl : i = x.wh.length := by omega
  simp (dsimp := false) (implicitDefEqProofs := false) (disch := first | omega | assumption | (simp only [rL, Nat.reduceAdd]; try omega)) only [↓rA, rZ, List.drop_succ_cons, ne_eq, not_true_eq_false, not_false_eq_true, List.getElem?_cons_zero, List.getElem?_cons_succ, ev, ofConst, ofCell, simprocAttr, f2, f3, f7, Hp.read_of g2, rsL, lw1, hlt]
  refine loop_intro (fun f s' => ∃ i : Nat, i ≤ x.sets.length ∧ s.sub s' ∧ s' l2 = some (.cells (rsL x (.sl c1 oc1) (.sl r1 or1) (.sl w1 ow1) (.sl t1 ot1) (.sl (intsV x.pt) op1))) ∧ s' l3 = some (.cells (rsL x (.sl c2 oc2) (.sl r2 or2) (.sl w2 ow2) (.sl t2 ot2) (.sl (intsV x.pt) op2))) ∧ f 2 = .ptr l2 0 ∧ f 3 = .ptr l3 0 ∧ f 8 = .v (.int .i64 i))
    (fun f _ => match f 8 with | .v (.int _ n) => x.sets.length - n.toNat | _ => 0) ⟨0, by omega, hs, g2, g3, ?_⟩ ?_
  · simp (dsimp := false) (implicitDefEqProofs := false) (disch := first | omega | assumption | (simp only [rL, Nat.reduceAdd]; try omega)) only [↓rA, rZ, List.drop_succ_cons, ne_eq, not_true_eq_false, not_false_eq_true, List.getElem?_cons_zero, List.getElem?_cons_succ, ev, ofConst, ofCell, simprocAttr, f2, f3]
  rintro f s' ⟨i, hi, hs, g2, g3, f2, f3, f8⟩
  by_cases hlt : (i : Int) < (x.sets.length : Int)
  · have hw : x.sets[i]? = some x.sets[i] := List.getElem?_eq_getElem (by omega)
    generalize x.sets[i]'(by omega) = v at hw
    simp (dsimp := false) (implicitDefEqProofs := false) (disch := first | omega | assumption | (simp only [rL, Nat.reduceAdd]; try omega)) only [↓rA, rZ, List.drop_succ_cons, ne_eq, not_true_eq_false, not_false_eq_true, List.getElem?_cons_zero, List.getElem?_cons_succ, ev, ofConst, ofCell, simprocAttr, f2, f3, f8, Hp.read_of g2, Hp.read_of g3, rsL, lt1, lt2, hlt, ia_asg (o := ot1) hT1 hw, ia_asg (o := ot2) hT2 hw, ld_asg, eqv_asg]
    exact ⟨⟨i + 1, by omega, hs, g2, g3, by simp⟩, by omega⟩
  obtain rfl : i = x.sets.length := by omega
  simp (dsimp := false) (implicitDefEqProofs := false) (disch := first | omega | assumption | (simp only [rL, Nat.reduceAdd]; try omega)) only [↓rA, rZ, List.drop_succ_cons, ne_eq, not_true_eq_false, not_false_eq_true, List.getElem?_cons_zero, List.getElem?_cons_succ, ev, ofConst, ofCell, simprocAttr, f2, f3, f8, Hp.read_of g2, rsL, lt1, hlt]
  simp (dsimp := false) (implicitDefEqProofs := false) (disch := first | omega | assumption | (simp only [rL, Nat.reduceAdd]; try omega)) only [↓rA, rZ, List.drop_succ_cons, ne_eq, not_true_eq_false, not_false_eq_true, List.getElem?_cons_zero, List.getElem?_cons_succ, ev, ofConst, ofCell, simprocAttr, f2, f3, Hp.read_of g2, Hp.read_of g3, rsL, eql_same, decide_true, beqb]
  refine call_intro (same02_spec x.pt op1 op2 _ hx.pt) ?_
  rintro _ _ ⟨rfl, rfl⟩
  simp (dsimp := false) (implicitDefEqProofs := false) (disch := first | omega | assumption | (simp only [rL, Nat.reduceAdd]; try omega)) only [↓rA, rZ, List.drop_succ_cons, ne_eq, not_true_eq_false, not_false_eq_true, List.getElem?_cons_zero, List.getElem?_cons_succ, ev, ofConst, ofCell, simprocAttr, f2, f3, Hp.read_of g2, Hp.read_of g3, rsL, eql_same, decide_true, beqb]
  exact ⟨_, Hp.sub_refl, hs⟩
end Go.Proofs.YtgfbealjkdhdbaaGreatDoor
set_option maxRecDepth 100000
namespace Go.Proofs.YtgfbealjkdhdbaaGreatDoor
open Go Go.Av
theorem rletter_spec (c : Int) (s : Hp) : AC Tryz.prog 26 [.v (.int .u8 c)] s fun r s' => s' = s ∧ r = .v (.bool (letterR c)) := by
  refine AC_run hm prep26 (by simp) ?_
  by_cases h1 : 97 ≤ c
  · by_cases h2 : c ≤ 122
    · simp (dsimp := false) (implicitDefEqProofs := false) (disch := first | omega | assumption | (simp only [rL, Nat.reduceAdd]; try omega)) only [↓rD, rU, ev, ofConst, ofCell, ↓reduceIte, Nat.reduceEqDiff, Nat.reduceAdd, Nat.reduceSub, Nat.reduceMul, Nat.reduceLeDiff, Nat.reduceLT, Int.reduceNeg, Int.reduceToNat, Int.reduceAdd, Int.reduceSub, Int.reduceMul, Int.reduceLT, Int.reduceLE, Int.reduceEq, rX, List.drop_succ_cons, ↓rF, rG, ne_eq, not_true_eq_false, not_false_eq_true, Int.reduceNe, List.getElem?_cons_zero, List.getElem?_cons_succ, ↓rK, rM, h1, h2]
      exact ⟨_, Hp.sub_refl, rfl, by simp [letterR, h1, h2]⟩
    · have h3 : ¬ c ≤ 90 := by omega
      have h4 : 65 ≤ c := by omega
      simp (dsimp := false) (implicitDefEqProofs := false) (disch := first | omega | assumption | (simp only [rL, Nat.reduceAdd]; try omega)) only [↓rD, rU, ev, ofConst, ofCell, ↓reduceIte, Nat.reduceEqDiff, Nat.reduceAdd, Nat.reduceSub, Nat.reduceMul, Nat.reduceLeDiff, Nat.reduceLT, Int.reduceNeg, Int.reduceToNat, Int.reduceAdd, Int.reduceSub, Int.reduceMul, Int.reduceLT, Int.reduceLE, Int.reduceEq, rX, List.drop_succ_cons, ↓rF, rG, ne_eq, not_true_eq_false, not_false_eq_true, Int.reduceNe, List.getElem?_cons_zero, List.getElem?_cons_succ, ↓rK, rM, h1, h2, h3, h4]
      exact ⟨_, Hp.sub_refl, rfl, by simp [letterR, h2, h3]⟩
  · by_cases h3 : 65 ≤ c
    · by_cases h4 : c ≤ 90
      · simp (dsimp := false) (implicitDefEqProofs := false) (disch := first | omega | assumption | (simp only [rL, Nat.reduceAdd]; try omega)) only [↓rD, rU, ev, ofConst, ofCell, ↓reduceIte, Nat.reduceEqDiff, Nat.reduceAdd, Nat.reduceSub, Nat.reduceMul, Nat.reduceLeDiff, Nat.reduceLT, Int.reduceNeg, Int.reduceToNat, Int.reduceAdd, Int.reduceSub, Int.reduceMul, Int.reduceLT, Int.reduceLE, Int.reduceEq, rX, List.drop_succ_cons, ↓rF, rG, ne_eq, not_true_eq_false, not_false_eq_true, Int.reduceNe, List.getElem?_cons_zero, List.getElem?_cons_succ, ↓rK, rM, h1, h3, h4]
        exact ⟨_, Hp.sub_refl, rfl, by simp [letterR, h3, h4]⟩
      · simp (dsimp := false) (implicitDefEqProofs := false) (disch := first | omega | assumption | (simp only [rL, Nat.reduceAdd]; try omega)) only [↓rD, rU, ev, ofConst, ofCell, ↓reduceIte, Nat.reduceEqDiff, Nat.reduceAdd, Nat.reduceSub, Nat.reduceMul, Nat.reduceLeDiff, Nat.reduceLT, Int.reduceNeg, Int.reduceToNat, Int.reduceAdd, Int.reduceSub, Int.reduceMul, Int.reduceLT, Int.reduceLE, Int.reduceEq, rX, List.drop_succ_cons, ↓rF, rG, ne_eq, not_true_eq_false, not_false_eq_true, Int.reduceNe, List.getElem?_cons_zero, List.getElem?_cons_succ, ↓rK, rM, h1, h3, h4]
        exact ⟨_, Hp.sub_refl, rfl, by simp [letterR, h1, h4]⟩
    · simp (dsimp := false) (implicitDefEqProofs := false) (disch := first | omega | assumption | (simp only [rL, Nat.reduceAdd]; try omega)) only [↓rD, rU, ev, ofConst, ofCell, ↓reduceIte, Nat.reduceEqDiff, Nat.reduceAdd, Nat.reduceSub, Nat.reduceMul, Nat.reduceLeDiff, Nat.reduceLT, Int.reduceNeg, Int.reduceToNat, Int.reduceAdd, Int.reduceSub, Int.reduceMul, Int.reduceLT, Int.reduceLE, Int.reduceEq, rX, List.drop_succ_cons, ↓rF, rG, ne_eq, not_true_eq_false, not_false_eq_true, Int.reduceNe, List.getElem?_cons_zero, List.getElem?_cons_succ, ↓rK, rM, h1, h3]
      exact ⟨_, Hp.sub_refl, rfl, by simp [letterR, h1, h3]⟩
theorem rdigit_spec (c : Int) (s : Hp) : AC Tryz.prog 28 [.v (.int .u8 c)] s fun r s' => s' = s ∧ r = .v (.bool (digitR c)) := by
  refine AC_run hm prep28 (by simp) ?_
  by_cases h1 : 48 ≤ c
  · by_cases h2 : c ≤ 57
    · simp (dsimp := false) (implicitDefEqProofs := false) (disch := first | omega | assumption | (simp only [rL, Nat.reduceAdd]; try omega)) only [↓rD, rU, ev, ofConst, ofCell, ↓reduceIte, Nat.reduceEqDiff, Nat.reduceAdd, Nat.reduceSub, Nat.reduceMul, Nat.reduceLeDiff, Nat.reduceLT, Int.reduceNeg, Int.reduceToNat, Int.reduceAdd, Int.reduceSub, Int.reduceMul, Int.reduceLT, Int.reduceLE, Int.reduceEq, rX, List.drop_succ_cons, ↓rF, rG, ne_eq, not_true_eq_false, not_false_eq_true, Int.reduceNe, List.getElem?_cons_zero, List.getElem?_cons_succ, ↓rK, rM, h1, h2]
      exact ⟨_, Hp.sub_refl, rfl, by simp [digitR, h1, h2]⟩
    · simp (dsimp := false) (implicitDefEqProofs := false) (disch := first | omega | assumption | (simp only [rL, Nat.reduceAdd]; try omega)) only [↓rD, rU, ev, ofConst, ofCell, ↓reduceIte, Nat.reduceEqDiff, Nat.reduceAdd, Nat.reduceSub, Nat.reduceMul, Nat.reduceLeDiff, Nat.reduceLT, Int.reduceNeg, Int.reduceToNat, Int.reduceAdd, Int.reduceSub, Int.reduceMul, Int.reduceLT, Int.reduceLE, Int.reduceEq, rX, List.drop_succ_cons, ↓rF, rG, ne_eq, not_true_eq_false, not_false_eq_true, Int.reduceNe, List.getElem?_cons_zero, List.getElem?_cons_succ, ↓rK, rM, h1, h2]
      exact ⟨_, Hp.sub_refl, rfl, by simp [digitR, h2]⟩
  · simp (dsimp := false) (implicitDefEqProofs := false) (disch := first | omega | assumption | (simp only [rL, Nat.reduceAdd]; try omega)) only [↓rD, rU, ev, ofConst, ofCell, ↓reduceIte, Nat.reduceEqDiff, Nat.reduceAdd, Nat.reduceSub, Nat.reduceMul, Nat.reduceLeDiff, Nat.reduceLT, Int.reduceNeg, Int.reduceToNat, Int.reduceAdd, Int.reduceSub, Int.reduceMul, Int.reduceLT, Int.reduceLE, Int.reduceEq, rX, List.drop_succ_cons, ↓rF, rG, ne_eq, not_true_eq_false, not_false_eq_true, Int.reduceNe, List.getElem?_cons_zero, List.getElem?_cons_succ, ↓rK, rM, h1]
    exact ⟨_, Hp.sub_refl, rfl, by simp [digitR, h1]⟩
theorem rblank_spec (c : Int) (s : Hp) : AC Tryz.prog 25 [.v (.int .u8 c)] s fun r s' => s' = s ∧ r = .v (.bool (blankR c)) := by
  refine AC_run hm prep25 (by simp) ?_
  by_cases h1 : c = 32
  · subst h1
    simp (dsimp := false) (implicitDefEqProofs := false) (disch := first | omega | assumption | (simp only [rL, Nat.reduceAdd]; try omega)) only [↓rD, rU, ev, ofConst, ofCell, ↓reduceIte, Nat.reduceEqDiff, Nat.reduceAdd, Nat.reduceSub, Nat.reduceMul, Nat.reduceLeDiff, Nat.reduceLT, Int.reduceNeg, Int.reduceToNat, Int.reduceAdd, Int.reduceSub, Int.reduceMul, Int.reduceLT, Int.reduceLE, Int.reduceEq, rX, List.drop_succ_cons, ↓rF, rG, ne_eq, not_true_eq_false, not_false_eq_true, Int.reduceNe, List.getElem?_cons_zero, List.getElem?_cons_succ, ↓rK, rM]
    exact ⟨_, Hp.sub_refl, rfl, rfl⟩
  · by_cases h2 : c = 9
    · subst h2
      simp (dsimp := false) (implicitDefEqProofs := false) (disch := first | omega | assumption | (simp only [rL, Nat.reduceAdd]; try omega)) only [↓rD, rU, ev, ofConst, ofCell, ↓reduceIte, Nat.reduceEqDiff, Nat.reduceAdd, Nat.reduceSub, Nat.reduceMul, Nat.reduceLeDiff, Nat.reduceLT, Int.reduceNeg, Int.reduceToNat, Int.reduceAdd, Int.reduceSub, Int.reduceMul, Int.reduceLT, Int.reduceLE, Int.reduceEq, rX, List.drop_succ_cons, ↓rF, rG, ne_eq, not_true_eq_false, not_false_eq_true, Int.reduceNe, List.getElem?_cons_zero, List.getElem?_cons_succ, ↓rK, rM]
      exact ⟨_, Hp.sub_refl, rfl, rfl⟩
    · by_cases h3 : c = 10
      · subst h3
        simp (dsimp := false) (implicitDefEqProofs := false) (disch := first | omega | assumption | (simp only [rL, Nat.reduceAdd]; try omega)) only [↓rD, rU, ev, ofConst, ofCell, ↓reduceIte, Nat.reduceEqDiff, Nat.reduceAdd, Nat.reduceSub, Nat.reduceMul, Nat.reduceLeDiff, Nat.reduceLT, Int.reduceNeg, Int.reduceToNat, Int.reduceAdd, Int.reduceSub, Int.reduceMul, Int.reduceLT, Int.reduceLE, Int.reduceEq, rX, List.drop_succ_cons, ↓rF, rG, ne_eq, not_true_eq_false, not_false_eq_true, Int.reduceNe, List.getElem?_cons_zero, List.getElem?_cons_succ, ↓rK, rM]
        exact ⟨_, Hp.sub_refl, rfl, rfl⟩
      · simp (dsimp := false) (implicitDefEqProofs := false) (disch := first | omega | assumption | (simp only [rL, Nat.reduceAdd]; try omega)) only [↓rD, rU, ev, ofConst, ofCell, ↓reduceIte, Nat.reduceEqDiff, Nat.reduceAdd, Nat.reduceSub, Nat.reduceMul, Nat.reduceLeDiff, Nat.reduceLT, Int.reduceNeg, Int.reduceToNat, Int.reduceAdd, Int.reduceSub, Int.reduceMul, Int.reduceLT, Int.reduceLE, Int.reduceEq, rX, List.drop_succ_cons, ↓rF, rG, ne_eq, not_true_eq_false, not_false_eq_true, Int.reduceNe, List.getElem?_cons_zero, List.getElem?_cons_succ, ↓rK, rM, h1, h2, h3]
        exact ⟨_, Hp.sub_refl, rfl, by simp [blankR, h1, h2, h3]⟩
theorem rword_spec (c : Int) (s : Hp) : AC Tryz.prog 27 [.v (.int .u8 c)] s fun r s' => s' = s ∧ r = .v (.bool (wordR c)) := by
  refine AC_run hm prep27 (by simp) ?_
  simp (dsimp := false) (implicitDefEqProofs := false) (disch := first | omega | assumption | (simp only [rL, Nat.reduceAdd]; try omega)) only [↓rD, rU, ev, ofConst, ofCell, ↓reduceIte, Nat.reduceEqDiff, Nat.reduceAdd, Nat.reduceSub, Nat.reduceMul, Nat.reduceLeDiff, Nat.reduceLT, Int.reduceNeg, Int.reduceToNat, Int.reduceAdd, Int.reduceSub, Int.reduceMul, Int.reduceLT, Int.reduceLE, Int.reduceEq, rX, List.drop_succ_cons, ↓rF, rG, ne_eq, not_true_eq_false, not_false_eq_true, Int.reduceNe, List.getElem?_cons_zero, List.getElem?_cons_succ, ↓rK, rM]
  refine call_intro (rletter_spec c _) ?_
  rintro _ _ ⟨rfl, rfl⟩
  cases h1 : letterR c with
  | true =>
    simp (dsimp := false) (implicitDefEqProofs := false) (disch := first | omega | assumption | (simp only [rL, Nat.reduceAdd]; try omega)) only [↓rD, rU, ev, ofConst, ofCell, ↓reduceIte, Nat.reduceEqDiff, Nat.reduceAdd, Nat.reduceSub, Nat.reduceMul, Nat.reduceLeDiff, Nat.reduceLT, Int.reduceNeg, Int.reduceToNat, Int.reduceAdd, Int.reduceSub, Int.reduceMul, Int.reduceLT, Int.reduceLE, Int.reduceEq, rX, List.drop_succ_cons, ↓rF, rG, ne_eq, not_true_eq_false, not_false_eq_true, Int.reduceNe, List.getElem?_cons_zero, List.getElem?_cons_succ, ↓rK, rM, h1]
    exact ⟨_, Hp.sub_refl, rfl, by simp [wordR, h1]⟩
  | false =>
    simp (dsimp := false) (implicitDefEqProofs := false) (disch := first | omega | assumption | (simp only [rL, Nat.reduceAdd]; try omega)) only [↓rD, rU, ev, ofConst, ofCell, ↓reduceIte, Nat.reduceEqDiff, Nat.reduceAdd, Nat.reduceSub, Nat.reduceMul, Nat.reduceLeDiff, Nat.reduceLT, Int.reduceNeg, Int.reduceToNat, Int.reduceAdd, Int.reduceSub, Int.reduceMul, Int.reduceLT, Int.reduceLE, Int.reduceEq, rX, List.drop_succ_cons, ↓rF, rG, ne_eq, not_true_eq_false, not_false_eq_true, Int.reduceNe, List.getElem?_cons_zero, List.getElem?_cons_succ, ↓rK, rM, h1]
    refine call_intro (rdigit_spec c _) ?_
    rintro _ _ ⟨rfl, rfl⟩
    cases h2 : digitR c with
    | true =>
      simp (dsimp := false) (implicitDefEqProofs := false) (disch := first | omega | assumption | (simp only [rL, Nat.reduceAdd]; try omega)) only [↓rD, rU, ev, ofConst, ofCell, ↓reduceIte, Nat.reduceEqDiff, Nat.reduceAdd, Nat.reduceSub, Nat.reduceMul, Nat.reduceLeDiff, Nat.reduceLT, Int.reduceNeg, Int.reduceToNat, Int.reduceAdd, Int.reduceSub, Int.reduceMul, Int.reduceLT, Int.reduceLE, Int.reduceEq, rX, List.drop_succ_cons, ↓rF, rG, ne_eq, not_true_eq_false, not_false_eq_true, Int.reduceNe, List.getElem?_cons_zero, List.getElem?_cons_succ, ↓rK, rM, h2]
      exact ⟨_, Hp.sub_refl, rfl, by simp [wordR, h1, h2]⟩
    | false =>
      simp (dsimp := false) (implicitDefEqProofs := false) (disch := first | omega | assumption | (simp only [rL, Nat.reduceAdd]; try omega)) only [↓rD, rU, ev, ofConst, ofCell, ↓reduceIte, Nat.reduceEqDiff, Nat.reduceAdd, Nat.reduceSub, Nat.reduceMul, Nat.reduceLeDiff, Nat.reduceLT, Int.reduceNeg, Int.reduceToNat, Int.reduceAdd, Int.reduceSub, Int.reduceMul, Int.reduceLT, Int.reduceLE, Int.reduceEq, rX, List.drop_succ_cons, ↓rF, rG, ne_eq, not_true_eq_false, not_false_eq_true, Int.reduceNe, List.getElem?_cons_zero, List.getElem?_cons_succ, ↓rK, rM, h2]
      exact ⟨_, Hp.sub_refl, rfl, by simp [wordR, h1, h2]⟩
theorem binA_45S {b : List UInt8} (h : b.length + 1 ≤ 9223372036854775807) : binA .add (.v (.string ⟨#[45]⟩)) (strV b) = some (strV (45 :: b)) := binA_addS (a := [45]) (b := b) (by simp; omega)
theorem b2sA_one {b : UInt8} {o : Own} : b2sA (.sl [byteAV b] o) = some (strV [b]) := b2sA_map (bs := [b])
theorem rem_u64 {u m : Nat} (h : m ≠ 0) : binV .rem (.int .u64 (u : Int)) (.int .u64 (m : Int)) = some (.int .u64 ((u % m : Nat) : Int)) := by
  have h' : ¬ ((m : Nat) : Int) = 0 := by omega
  simp only [binV, isShift, binInt, if_neg h', Bool.false_eq_true, if_false, if_true]
  congr 2
theorem quo_u64 {u m : Nat} (h : m ≠ 0) (hu : u < 18446744073709551616) : binV .quo (.int .u64 (u : Int)) (.int .u64 (m : Int)) = some (.int .u64 ((u / m : Nat) : Int)) := by
  have h' : ¬ ((m : Nat) : Int) = 0 := by omega
  simp only [binV, isShift, binInt, if_neg h', Bool.false_eq_true, if_false, if_true]
  have e : ((u : Int)).tdiv (m : Int) = ((u / m : Nat) : Int) := rfl
  have := Nat.div_le_self u m
  rw [e]
  generalize u / m = q at this
  rw [wrap_u64 (by omega) (by omega)]
theorem Digits_spec (v : Int) (h0 : -9223372036854775808 ≤ v) (h1 : v ≤ 9223372036854775807) (s : Hp) :
    AC Tryz.prog 23 [.v (.int .i64 v)] s fun r s' => s.sub s' ∧ r = strV (itoaS v) := by
  refine AC_run hm prep23 (by simp) ?_
  have e20 : (10 : Nat) ^ 20 = 100000000000000000000 := by decide
  obtain ⟨U, hU⟩ : ∃ U : Nat, U = if v < 0 then v.natAbs else v.toNat := ⟨_, rfl⟩
  have hU1 : U ≤ 9223372036854775808 := by rw [hU]; split <;> omega
  have hI : itoaS v = if v < 0 then 45 :: decF 20 U else decF 20 U := by
    rw [hU, itoaS]; split <;> rfl
  simp (dsimp := false) (implicitDefEqProofs := false) (disch := first | omega | assumption | (simp only [rL, Nat.reduceAdd]; try omega)) only [↓rD, rU, ev, ofConst, ofCell, ↓reduceIte, Nat.reduceEqDiff, Nat.reduceAdd, Nat.reduceSub, Nat.reduceMul, Nat.reduceLeDiff, Nat.reduceLT, Int.reduceNeg, Int.reduceToNat, Int.reduceAdd, Int.reduceSub, Int.reduceMul, Int.reduceLT, Int.reduceLE, Int.reduceEq, rX, List.drop_succ_cons, ↓rF, rG, ne_eq, not_true_eq_false, not_false_eq_true, Int.reduceNe, List.getElem?_cons_zero, List.getElem?_cons_succ, ↓rK, rM]
  refine cond_join (fun f s' => s' = s ∧ f 0 = .v (.int .i64 v) ∧ f 3 = .v (.int .u64 (U : Nat))) ?_ ?_ ?_
  · intro hn
    rw [decide_eq_true_eq] at hn
    have w1 : unV .neg (.int .u64 (IntKind.u64.wrap v)) = some (.int .u64 (U : Nat)) := by
      simp only [unV]; rw [wrap_u64_mod, wrap_u64_mod, hU, if_pos hn]; congr 2; omega
    simp (dsimp := false) (implicitDefEqProofs := false) (disch := first | omega | assumption | (simp only [rL, Nat.reduceAdd]; try omega)) only [↓rD, rU, ev, ofConst, ofCell, ↓reduceIte, Nat.reduceEqDiff, Nat.reduceAdd, Nat.reduceSub, Nat.reduceMul, Nat.reduceLeDiff, Nat.reduceLT, Int.reduceNeg, Int.reduceToNat, Int.reduceAdd, Int.reduceSub, Int.reduceMul, Int.reduceLT, Int.reduceLE, Int.reduceEq, rX, List.drop_succ_cons, ↓rF, rG, ne_eq, not_true_eq_false, not_false_eq_true, Int.reduceNe, List.getElem?_cons_zero, List.getElem?_cons_succ, ↓rK, rM, w1]
  · intro hn
    rw [decide_eq_false_iff_not] at hn
    have w1 : IntKind.u64.wrap v = (U : Int) := by rw [wrap_u64_mod, hU, if_neg hn]; omega
    simp (dsimp := false) (implicitDefEqProofs := false) (disch := first | omega | assumption | (simp only [rL, Nat.reduceAdd]; try omega)) only [↓rD, rU, ev, ofConst, ofCell, ↓reduceIte, Nat.reduceEqDiff, Nat.reduceAdd, Nat.reduceSub, Nat.reduceMul, Nat.reduceLeDiff, Nat.reduceLT, Int.reduceNeg, Int.reduceToNat, Int.reduceAdd, Int.reduceSub, Int.reduceMul, Int.reduceLT, Int.reduceLE, Int.reduceEq, rX, List.drop_succ_cons, ↓rF, rG, ne_eq, not_true_eq_false, not_false_eq_true, Int.reduceNe, List.getElem?_cons_zero, List.getElem?_cons_succ, ↓rK, rM, w1]
  · rintro f s2 ⟨rfl, f0, f3⟩
    simp (dsimp := false) (implicitDefEqProofs := false) (disch := first | omega | assumption | (simp only [rL, Nat.reduceAdd]; try omega)) only [↓rD, rU, ev, ofConst, ofCell, ↓reduceIte, Nat.reduceEqDiff, Nat.reduceAdd, Nat.reduceSub, Nat.reduceMul, Nat.reduceLeDiff, Nat.reduceLT, Int.reduceNeg, Int.reduceToNat, Int.reduceAdd, Int.reduceSub, Int.reduceMul, Int.reduceLT, Int.reduceLE, Int.reduceEq, rX, List.drop_succ_cons, ↓rF, rG, ne_eq, not_true_eq_false, not_false_eq_true, Int.reduceNe, List.getElem?_cons_zero, List.getElem?_cons_succ, ↓rK, rM, f0, f3]
    refine loop_intro (fun f s' => ∃ (k u : Nat) (suf : List UInt8), s2.sub s' ∧ f 0 = .v (.int .i64 v) ∧ f 3 = .v (.int .u64 (u : Nat)) ∧ f 4 = strV suf ∧ 1 ≤ k ∧ u < 10 ^ k ∧ suf.length + k ≤ 20 ∧ decF k u ++ suf = decF 20 U ∧ u ≤ 9223372036854775808)
      (fun f _ => match f 3 with | .v (.int _ n) => n.toNat | _ => 0) ⟨20, U, [], ?_⟩ ?_
    · simp (dsimp := false) (implicitDefEqProofs := false) (disch := first | omega | assumption | (simp only [rL, Nat.reduceAdd]; try omega)) only [↓rD, rU, ev, ofConst, ofCell, ↓reduceIte, Nat.reduceEqDiff, Nat.reduceAdd, Nat.reduceSub, Nat.reduceMul, Nat.reduceLeDiff, Nat.reduceLT, Int.reduceNeg, Int.reduceToNat, Int.reduceAdd, Int.reduceSub, Int.reduceMul, Int.reduceLT, Int.reduceLE, Int.reduceEq, rX, List.drop_succ_cons, ↓rF, rG, ne_eq, not_true_eq_false, not_false_eq_true, Int.reduceNe, List.getElem?_cons_zero, List.getElem?_cons_succ, ↓rK, rM, f0, f3]
      exact ⟨Hp.sub_refl, rfl, by rw [e20]; omega, by simp, hU1⟩
    · rintro f s1 ⟨k, u, suf, h01, f0, f3, f4, hk, hlt, hlen, hd, hu0⟩
      have hu : u < 18446744073709551616 := by omega
      have g1 := rem_u64 (u := u) (m := 10) (by omega)
      have g2 := quo_u64 (u := u) (m := 10) (by omega) hu
      have g3 : IntKind.u8.wrap (48 + ((u % 10 : Nat) : Int)) = ((UInt8.ofNat (48 + u % 10)).toNat : Int) := by
        rw [ofNat_dig (by omega), wrap_u8 (by omega) (by omega)]; omega
      have e10 : ((10 : Nat) : Int) = 10 := rfl
      rw [e10] at g1 g2
      simp (dsimp := false) (implicitDefEqProofs := false) (disch := first | omega | assumption | (simp only [rL, Nat.reduceAdd]; try omega)) only [↓rD, rU, ev, ofConst, ofCell, ↓reduceIte, Nat.reduceEqDiff, Nat.reduceAdd, Nat.reduceSub, Nat.reduceMul, Nat.reduceLeDiff, Nat.reduceLT, Int.reduceNeg, Int.reduceToNat, Int.reduceAdd, Int.reduceSub, Int.reduceMul, Int.reduceLT, Int.reduceLE, Int.reduceEq, rX, List.drop_succ_cons, ↓rF, rG, ne_eq, not_true_eq_false, not_false_eq_true, Int.reduceNe, List.getElem?_cons_zero, List.getElem?_cons_succ, ↓rK, rM, f0, f3, f4, g1, g2, g3]
      refine bsl_byte h01 fun o2 s3 h3 => ?_
      have hlen1 : suf.length + 1 ≤ 9223372036854775807 := by omega
      have g4 : binA .add (strV [UInt8.ofNat (48 + u % 10)]) (strV suf) = some (strV (UInt8.ofNat (48 + u % 10) :: suf)) := binA_addS (a := [UInt8.ofNat (48 + u % 10)]) (by simp; omega)
      by_cases hz : ((u / 10 : Nat) : Int) = 0
      · have hlow : u < 10 := by omega
        have hfin : UInt8.ofNat (48 + u % 10) :: suf = decF 20 U := by
          rw [← hd]
          cases k with
          | zero => omega
          | succ k => simp only [decF, if_pos hlow]; rw [Nat.mod_eq_of_lt hlow]; rfl
        rw [hfin] at g4
        have hl20 := decF_len 20 U
        by_cases hn : v < 0
        · rw [if_pos hn] at hI
          simp (dsimp := false) (implicitDefEqProofs := false) (disch := first | omega | assumption | (simp only [rL, Nat.reduceAdd]; try omega)) only [↓rD, rU, ev, ofConst, ofCell, ↓reduceIte, Nat.reduceEqDiff, Nat.reduceAdd, Nat.reduceSub, Nat.reduceMul, Nat.reduceLeDiff, Nat.reduceLT, Int.reduceNeg, Int.reduceToNat, Int.reduceAdd, Int.reduceSub, Int.reduceMul, Int.reduceLT, Int.reduceLE, Int.reduceEq, rX, List.drop_succ_cons, ↓rF, rG, ne_eq, not_true_eq_false, not_false_eq_true, Int.reduceNe, List.getElem?_cons_zero, List.getElem?_cons_succ, ↓rK, rM, f0, f3, f4, g2, g4, hz, b2sA_one, hn, binA_45S]
          exact ⟨_, Hp.sub_refl, h3.sub, by rw [hI]⟩
        · rw [if_neg hn] at hI
          simp (dsimp := false) (implicitDefEqProofs := false) (disch := first | omega | assumption | (simp only [rL, Nat.reduceAdd]; try omega)) only [↓rD, rU, ev, ofConst, ofCell, ↓reduceIte, Nat.reduceEqDiff, Nat.reduceAdd, Nat.reduceSub, Nat.reduceMul, Nat.reduceLeDiff, Nat.reduceLT, Int.reduceNeg, Int.reduceToNat, Int.reduceAdd, Int.reduceSub, Int.reduceMul, Int.reduceLT, Int.reduceLE, Int.reduceEq, rX, List.drop_succ_cons, ↓rF, rG, ne_eq, not_true_eq_false, not_false_eq_true, Int.reduceNe, List.getElem?_cons_zero, List.getElem?_cons_succ, ↓rK, rM, f0, f3, f4, g2, g4, hz, b2sA_one, hn]
          exact ⟨_, Hp.sub_refl, h3.sub, by rw [hI]⟩
      · have hge : 10 ≤ u := by omega
        simp (dsimp := false) (implicitDefEqProofs := false) (disch := first | omega | assumption | (simp only [rL, Nat.reduceAdd]; try omega)) only [↓rD, rU, ev, ofConst, ofCell, ↓reduceIte, Nat.reduceEqDiff, Nat.reduceAdd, Nat.reduceSub, Nat.reduceMul, Nat.reduceLeDiff, Nat.reduceLT, Int.reduceNeg, Int.reduceToNat, Int.reduceAdd, Int.reduceSub, Int.reduceMul, Int.reduceLT, Int.reduceLE, Int.reduceEq, rX, List.drop_succ_cons, ↓rF, rG, ne_eq, not_true_eq_false, not_false_eq_true, Int.reduceNe, List.getElem?_cons_zero, List.getElem?_cons_succ, ↓rK, rM, f0, f3, f4, g2, g4, hz, b2sA_one]
        refine ⟨⟨k - 1, u / 10, UInt8.ofNat (48 + u % 10) :: suf, h3.sub, rfl, rfl, ?_, ?_, ?_, ?_, ?_⟩, ?_⟩
        · rcases k with _ | _ | k
          · omega
          · simp at hlt; omega
          · omega
        · rcases k with _ | k
          · omega
          · rw [Nat.pow_succ] at hlt; simp only [Nat.add_sub_cancel]; omega
        · simp; omega
        · rw [← hd]
          rcases k with _ | k
          · omega
          · simp only [Nat.add_sub_cancel, decF]; rw [if_neg (by omega)]; simp
        · omega
        · omega
end Go.Proofs.YtgfbealjkdhdbaaGreatDoor
set_option maxRecDepth 100000
namespace Go.Proofs.YtgfbealjkdhdbaaGreatDoor
open Go Go.Av
def joinT : List (List UInt8) → List UInt8
  | [] => []
  | x :: r => x ++ r.flatMap fun y => 32 :: y
theorem joinT_snoc (a : List (List UInt8)) (x : List UInt8) : joinT (a ++ [x]) = (if a = [] then joinT a else joinT a ++ [32]) ++ x := by
  cases a with
  | nil => simp [joinT]
  | cons y r => simp [joinT]
def texts (ts : List (Tok × Nat)) : List (List UInt8) := ts.map fun p => p.1.text
theorem joinT_take_le (a : List (List UInt8)) : ∀ b : List (List UInt8), (joinT a).length ≤ (joinT (a ++ b)).length := fun b => by
  cases a with
  | nil => simp [joinT]
  | cons y r => simp [joinT]
theorem iaSA_TL {ts : List (Tok × Nat)} {o : Own} {i : Nat} {t : Tok} {n : Nat} {k : IntKind} (h : ts[i]? = some (t, n)) : iaSA 4 (.sl (TL ts) o) (.v (.int k (i : Int))) = some (.rptr (t.C n)) := by
  have hel : (TL ts)[i]? = some (t.V n) := by simp [TL, h]
  have h0 : (0 : Int) ≤ (i : Int) := by omega
  simp only [iaSA, h0, if_true, Int.toNat_natCast, hel]
  rw [elA_some (e := t.V n) (k := 4) rfl]; rfl
end Go.Proofs.YtgfbealjkdhdbaaGreatDoor
set_option maxRecDepth 100000
namespace Go.Proofs.YtgfbealjkdhdbaaGreatDoor
open Go Go.Av
theorem joinT_step {ts : List (Tok × Nat)} {i : Nat} {t : Tok} {n : Nat} (h : ts[i]? = some (t, n)) : joinT (texts (ts.take (i + 1))) = (if i = 0 then joinT (texts (ts.take i)) else joinT (texts (ts.take i)) ++ [32]) ++ t.text := by
  have hi' : i < ts.length := (List.getElem?_eq_some_iff.1 h).1
  have e1 : ts.take (i + 1) = ts.take i ++ [(t, n)] := by rw [List.take_succ, h]; rfl
  have e2 : texts (ts.take (i + 1)) = texts (ts.take i) ++ [t.text] := by rw [e1]; simp [texts]
  rw [e2, joinT_snoc]
  have e3 : (texts (ts.take i) = []) ↔ i = 0 := by
    simp only [texts, List.map_eq_nil_iff]
    constructor
    · intro h; have := congrArg List.length h; simp only [List.length_take, List.length_nil] at this; omega
    · rintro rfl; rfl
  by_cases h0 : i = 0
  · rw [if_pos (e3.2 h0), if_pos h0]
  · rw [if_neg (fun h => h0 (e3.1 h)), if_neg h0]
theorem joinT_take {ts : List (Tok × Nat)} (i : Nat) : (joinT (texts (ts.take i))).length ≤ (joinT (texts ts)).length := by
  have e : texts ts = texts (ts.take i) ++ texts (ts.drop i) := by
    rw [texts, texts, texts, ← List.map_append, List.take_append_drop]
  rw [e]; exact joinT_take_le _ _
theorem refText_spec (ts : List (Tok × Nat)) (o : Own) (s : Hp) (hle : (joinT (texts ts)).length ≤ 900000000) (hn : ts.length ≤ 1000000) :
    AC Tryz.prog 11 [.sl (TL ts) o] s fun r s' => s' = s ∧ r = strV (joinT (texts ts)) := by
  refine AC_run hm prep11 (by simp) ?_
  have hTL : (TL ts).length = ts.length := by simp [TL]
  simp (dsimp := false) (implicitDefEqProofs := false) (disch := first | omega | assumption | (simp only [rL, Nat.reduceAdd]; try omega)) only [↓rD, rU, ev, ofConst, ofCell, simprocAttr, rX, List.drop_succ_cons, ↓rF, rG, ne_eq, not_true_eq_false, not_false_eq_true, Int.reduceNe, List.getElem?_cons_zero, List.getElem?_cons_succ, ↓rK, rM]
  refine loop_intro (fun f s' => ∃ i : Nat, i ≤ ts.length ∧ s' = s ∧ f 0 = .sl (TL ts) o ∧ f 3 = strV (joinT (texts (ts.take i))) ∧ f 4 = .v (.int .i64 i))
    (fun f _ => match f 4 with | .v (.int _ n) => ts.length - n.toNat | _ => 0) ⟨0, by omega, rfl, ?_⟩ ?_
  · simp (dsimp := false) (implicitDefEqProofs := false) (disch := first | omega | assumption | (simp only [rL, Nat.reduceAdd]; try omega)) only [↓rD, rU, ev, ofConst, ofCell, simprocAttr, rX, List.drop_succ_cons, ↓rF, rG, ne_eq, not_true_eq_false, not_false_eq_true, Int.reduceNe, List.getElem?_cons_zero, List.getElem?_cons_succ, ↓rK, rM, hTL]
    rfl
  · rintro f s' ⟨i, hi, rfl, f0, f3, f4⟩
    by_cases hlt : (i : Int) < (ts.length : Int)
    · have hi' : i < ts.length := by omega
      have hel : ts[i]? = some ts[i] := List.getElem?_eq_getElem hi'
      generalize hp : ts[i] = p at hel
      obtain ⟨t, at_⟩ := p
      have hsnoc := joinT_step hel
      have hlen := Nat.le_trans (joinT_take (ts := ts) (i + 1)) hle
      rw [hsnoc] at hlen
      by_cases h0 : i = 0
      · rw [if_pos h0] at hsnoc hlen
        have h0' : ¬ (0 : Int) < (i : Int) := by omega
        simp only [List.length_append] at hlen
        simp (dsimp := false) (implicitDefEqProofs := false) (disch := first | omega | assumption | (simp only [rL, Nat.reduceAdd]; try omega)) only [↓rD, rU, ev, ofConst, ofCell, simprocAttr, rX, List.drop_succ_cons, ↓rF, rG, ne_eq, not_true_eq_false, not_false_eq_true, Int.reduceNe, List.getElem?_cons_zero, List.getElem?_cons_succ, ↓rK, rM, f0, f3, f4, hlt, hTL, h0', iaSA_TL hel, rTok, binA_addS]
        refine ⟨⟨i + 1, by omega, ?_⟩, by omega⟩
        rw [hsnoc]
        simp
      · rw [if_neg h0] at hsnoc hlen
        have h0' : (0 : Int) < (i : Int) := by omega
        simp only [List.length_append, List.length_singleton] at hlen
        simp (dsimp := false) (implicitDefEqProofs := false) (disch := first | omega | assumption | (simp only [rL, Nat.reduceAdd]; try omega)) only [↓rD, rU, ev, ofConst, ofCell, simprocAttr, rX, List.drop_succ_cons, ↓rF, rG, ne_eq, not_true_eq_false, not_false_eq_true, Int.reduceNe, List.getElem?_cons_zero, List.getElem?_cons_succ, ↓rK, rM, f0, f3, f4, hlt, hTL, h0', iaSA_TL hel, rTok, binA_addS, binA_addS32, List.length_append, List.length_singleton]
        refine ⟨⟨i + 1, by omega, ?_⟩, by omega⟩
        rw [hsnoc]
        simp
    · obtain rfl : i = ts.length := by omega
      rw [List.take_length] at f3
      simp (dsimp := false) (implicitDefEqProofs := false) (disch := first | omega | assumption | (simp only [rL, Nat.reduceAdd]; try omega)) only [↓rD, rU, ev, ofConst, ofCell, simprocAttr, rX, List.drop_succ_cons, ↓rF, rG, ne_eq, not_true_eq_false, not_false_eq_true, Int.reduceNe, List.getElem?_cons_zero, List.getElem?_cons_succ, ↓rK, rM, f0, f3, f4, hlt, hTL]
      exact ⟨_, Hp.sub_refl, rfl⟩
def toks (ts : List (Tok × Nat)) : List Tok := ts.map Prod.fst
end Go.Proofs.YtgfbealjkdhdbaaGreatDoor
set_option maxRecDepth 100000
namespace Go.Proofs.YtgfbealjkdhdbaaGreatDoor
open Go Go.Av
def dropAt : Except Nat (List (Tok × Nat)) → Except Nat (List Tok)
  | .error e => .error e
  | .ok ts => .ok (toks ts)
def consE (t : Tok) : Except Nat (List Tok) → Except Nat (List Tok)
  | .error e => .error e
  | .ok ts => .ok (t :: ts)
def lexR (l : List UInt8) : Except Nat (List Tok) := dropAt (lexQ 0 l)
theorem lexP_N : ∀ (f N M : Nat) (l : List UInt8), dropAt (lexP f N l) = dropAt (lexP f M l)
  | 0, _, _, _ => rfl
  | f + 1, N, M, l => by
    simp only [lexP]
    split
    · rfl
    · cases tokP (skip false l) with
      | error e => rfl
      | ok x =>
        obtain ⟨t, n⟩ := x
        have h := lexP_N f N M ((skip false l).drop n)
        simp only
        revert h
        cases lexP f N ((skip false l).drop n) <;> cases lexP f M ((skip false l).drop n) <;> intro h <;> simp [dropAt, toks] at h ⊢ <;> exact h
theorem lexR_of (N : Nat) (l : List UInt8) : dropAt (lexQ N l) = lexR l := lexP_N _ _ _ _
theorem lexR_eq (l : List UInt8) : lexR l = if skip false l = [] then .ok [] else
    match tokP (skip false l) with
    | .error e => .error e
    | .ok (t, n) => consE t (lexR ((skip false l).drop n)) := by
  unfold lexR
  rw [lexQ_eq 0 l]
  split
  · rfl
  · cases tokP (skip false l) with
    | error e => rfl
    | ok x =>
      obtain ⟨t, n⟩ := x
      simp only
      cases lexQ 0 ((skip false l).drop n) <;> rfl
theorem lexR_skip (l : List UInt8) : lexR (skip false l) = lexR l := by
  rw [lexR_eq l, lexR_eq (skip false l), skip_idem]
theorem lexT_R {l : List UInt8} (h : l.length ≤ 1000) : dropAt (lexT l) = lexR l := by
  unfold lexT
  rw [if_neg (by omega)]
  exact lexR_of l.length l
theorem u8all {p : UInt8 → Bool} (h : (List.range 256).all (fun n => p (UInt8.ofNat n)) = true) (b : UInt8) : p b = true := by
  have := List.all_eq_true.1 h b.toNat (List.mem_range.2 b.toNat_lt)
  rwa [UInt8.ofNat_toNat] at this
def lowL (b : UInt8) : Bool := decide (97 ≤ b.toNat) && decide (b.toNat ≤ 122)
def lowW (b : UInt8) : Bool := lowL b || digitR b.toNat || decide (b = 95)
def cas (f : UInt8 → UInt8) : Prop := f = id ∨ f = Lib.upperB
theorem cas_word {f : UInt8 → UInt8} (hf : cas f) {c : UInt8} (h : lowW c = true) : wordR (f c).toNat = true ∧ Lib.lowerB (f c) = c := by
  have h1 := u8all (p := fun c => !lowW c || (wordR c.toNat && Lib.lowerB c == c)) (by kernel_rfl) c
  have h2 := u8all (p := fun c => !lowW c || (wordR (Lib.upperB c).toNat && Lib.lowerB (Lib.upperB c) == c)) (by kernel_rfl) c
  simp [h] at h1 h2
  rcases hf with rfl | rfl
  · exact h1
  · exact h2
theorem cas_let {f : UInt8 → UInt8} (hf : cas f) {c : UInt8} (h : lowL c = true) : letterR (f c).toNat = true := by
  have h1 := u8all (p := fun c => !lowL c || letterR c.toNat) (by kernel_rfl) c
  have h2 := u8all (p := fun c => !lowL c || letterR (Lib.upperB c).toNat) (by kernel_rfl) c
  simp [h] at h1 h2
  rcases hf with rfl | rfl
  · exact h1
  · exact h2
theorem cas_dig {f : UInt8 → UInt8} (hf : cas f) {c : UInt8} (h : digitR c.toNat = true) : f c = c := by
  have h2 := u8all (p := fun c => !digitR c.toNat || Lib.upperB c == c) (by kernel_rfl) c
  simp [h] at h2
  rcases hf with rfl | rfl
  · rfl
  · exact h2
theorem cas_45 {f : UInt8 → UInt8} (hf : cas f) : f 45 = 45 := by rcases hf with rfl | rfl <;> rfl
theorem cas_sign {f : UInt8 → UInt8} (hf : cas f) {l : List UInt8} (h : l ∈ signs) : l.map f = l := by
  rcases hf with rfl | rfl
  · simp
  · simp only [signs, List.mem_cons, List.not_mem_nil, or_false] at h
    rcases h with rfl | rfl | rfl | rfl | rfl | rfl | rfl | rfl | rfl <;> rfl
theorem low_word {c : UInt8} (h : wordR c.toNat = true) : lowW (Lib.lowerB c) = true := by
  have h1 := u8all (p := fun c => !wordR c.toNat || lowW (Lib.lowerB c)) (by kernel_rfl) c
  simpa [h] using h1
theorem low_let {c : UInt8} (h : letterR c.toNat = true) : lowL (Lib.lowerB c) = true := by
  have h1 := u8all (p := fun c => !letterR c.toNat || lowL (Lib.lowerB c)) (by kernel_rfl) c
  simpa [h] using h1
theorem lowL_W {c : UInt8} (h : lowL c = true) : lowW c = true := by simp [lowW, h]
theorem let_plain {c : UInt8} (h : letterR c.toNat = true) : blankR c.toNat = false ∧ c ≠ 45 := by
  have h1 := u8all (p := fun c => !letterR c.toNat || (!blankR c.toNat && c != 45)) (by kernel_rfl) c
  simpa [h] using h1
theorem dig_plain {c : UInt8} (h : digitR c.toNat = true) : blankR c.toNat = false ∧ c ≠ 45 ∧ letterR c.toNat = false := by
  have h1 := u8all (p := fun c => !digitR c.toNat || (!blankR c.toNat && c != 45 && !letterR c.toNat)) (by kernel_rfl) c
  simp [h] at h1
  exact ⟨h1.1.1, h1.1.2, h1.2⟩
def good (t : Tok) : Prop :=
  (t.kind = 1 ∧ t.num = 0 ∧ ∃ b r, t.text = b :: r ∧ lowL b = true ∧ ∀ c ∈ r, lowW c = true) ∨
  (t.kind = 2 ∧ t.text = itoaS t.num ∧ -9223372036854775808 ≤ t.num ∧ t.num < 9223372036854775808) ∨
  (t.kind = 3 ∧ t.num = 0 ∧ t.text ∈ signs)
theorem numV_ok {neg : Bool} {D : Nat} {v : Int} (h : numV neg D = .ok v) : -9223372036854775808 ≤ v ∧ v < 9223372036854775808 := by
  unfold numV at h
  split at h <;> split at h <;> simp only [Except.ok.injEq, reduceCtorEq] at h <;> omega
theorem tokP_good {l : List UInt8} {t : Tok} {n : Nat} (h : tokP l = .ok (t, n)) : good t := by
  unfold tokP at h
  split at h
  · rename_i h1
    simp only [Except.ok.injEq, Prod.mk.injEq] at h
    obtain ⟨rfl, _⟩ := h
    left
    cases l with
    | nil => cases h1
    | cons b r =>
      simp only [nxt] at h1
      have hw : wordR b.toNat = true := by simp [wordR, h1]
      refine ⟨rfl, rfl, Lib.lowerB b, (tw wordR r).map Lib.lowerB, by simp [tw, List.takeWhile_cons, hw], low_let h1, ?_⟩
      intro c hc
      obtain ⟨x, hx, rfl⟩ := List.mem_map.1 hc
      have := List.all_takeWhile (p := fun b : UInt8 => wordR b.toNat) (l := r)
      exact low_word (List.all_eq_true.1 this x hx)
  · split at h
    · unfold numP at h
      split at h
      · cases h
      · split at h
        · rename_i v hv
          simp only [Except.ok.injEq, Prod.mk.injEq] at h
          obtain ⟨rfl, _⟩ := h
          exact .inr (.inl ⟨rfl, rfl, numV_ok hv⟩)
        · cases h
    · split at h
      · rename_i p hp
        simp only [Except.ok.injEq, Prod.mk.injEq] at h
        obtain ⟨rfl, _⟩ := h
        exact .inr (.inr ⟨rfl, rfl, List.mem_of_find?_eq_some hp⟩)
      · cases h
theorem lexP_good : ∀ (f N : Nat) (l : List UInt8) (ts : List (Tok × Nat)), lexP f N l = .ok ts → ∀ p ∈ ts, good p.1
  | 0, _, _, ts, h, p, hp => by simp only [lexP, Except.ok.injEq] at h; subst h; cases hp
  | f + 1, N, l, ts, h, p, hp => by
    simp only [lexP] at h
    split at h
    · simp only [Except.ok.injEq] at h; subst h; cases hp
    · split at h
      · cases h
      · rename_i t n ht
        split at h
        · cases h
        · rename_i us hu
          simp only [Except.ok.injEq] at h
          subst h
          rcases List.mem_cons.1 hp with rfl | hp
          · exact tokP_good ht
          · exact lexP_good f N _ _ hu p hp
theorem lexT_good {l : List UInt8} {ts : List (Tok × Nat)} (h : lexT l = .ok ts) : ∀ p ∈ ts, good p.1 := by
  unfold lexT at h
  split at h
  · cases h
  · exact lexP_good _ _ _ _ h
theorem decF_digs : ∀ (f u : Nat), digs (decF f u)
  | 0, _, _, h => by cases h
  | f + 1, u, b, h => by
    simp only [decF] at h
    split at h
    · simp only [List.mem_singleton] at h; subst h
      rw [digitR_iff, ofNat_dig (by omega)]; omega
    · rcases List.mem_append.1 h with h | h
      · exact decF_digs f _ b h
      · simp only [List.mem_singleton] at h; subst h
        rw [digitR_iff, ofNat_dig (by omega)]; omega
theorem decF_ne (f u : Nat) : decF (f + 1) u ≠ [] := by
  simp only [decF]; split <;> simp
theorem dval_snoc (l : List UInt8) (b : UInt8) (a : Nat) : dval a (l ++ [b]) = dval a l * 10 + (b.toNat - 48) := by simp [dval, List.foldl_append]
theorem decF_val : ∀ (f u : Nat), u < 10 ^ f → dval 0 (decF f u) = u
  | 0, u, h => by simp at h; subst h; rfl
  | f + 1, u, h => by
    simp only [decF]; split
    · show 0 * 10 + ((UInt8.ofNat (48 + u)).toNat - 48) = u
      rw [ofNat_dig (by omega)]; omega
    · have hlt : u / 10 < 10 ^ f := by rw [Nat.pow_succ] at h; omega
      rw [dval_snoc, decF_val f _ hlt, ofNat_dig (by omega)]; omega
theorem itoaS_len (v : Int) : (itoaS v).length ≤ 21 := by
  unfold itoaS
  have h1 := decF_len 20 v.natAbs
  have h2 := decF_len 20 v.toNat
  split
  · simp; omega
  · omega
theorem tw_app {p : Int → Bool} {a r : List UInt8} (h : ∀ c ∈ a, p c.toNat = true) (hr : nxt p r = false) : tw p (a ++ r) = a := by
  induction a with
  | nil =>
    cases r with
    | nil => rfl
    | cons c r => simp only [nxt] at hr; simp [tw, List.takeWhile_cons, hr]
  | cons c a ih =>
    have := ih fun c hc => h c (by simp [hc])
    simp only [tw] at this ⊢
    rw [List.cons_append, List.takeWhile_cons, h c (by simp), if_pos rfl, this]
def rest (r : List UInt8) : Prop := r = [] ∨ ∃ r', r = 32 :: r'
theorem rest_nxt {p : Int → Bool} (h : p 32 = false) {r : List UInt8} (hr : rest r) : nxt p r = false := by
  rcases hr with rfl | ⟨r', rfl⟩
  · rfl
  · exact h
theorem tok_word {f : UInt8 → UInt8} (hf : cas f) {b : UInt8} {w r : List UInt8} (hb : lowL b = true) (hw : ∀ c ∈ w, lowW c = true) (hr : rest r) :
    tokP ((b :: w).map f ++ r) = .ok (⟨1, b :: w, 0⟩, (b :: w).length) ∧ skip false ((b :: w).map f ++ r) = (b :: w).map f ++ r := by
  have hl := cas_let hf hb
  have hall : ∀ c ∈ (b :: w).map f, wordR c.toNat = true := fun c hc => by
    obtain ⟨x, hx, rfl⟩ := List.mem_map.1 hc
    rcases List.mem_cons.1 hx with rfl | hx
    · exact (cas_word hf (lowL_W hb)).1
    · exact (cas_word hf (hw x hx)).1
  have htw := tw_app (p := wordR) hall (rest_nxt (by decide) hr)
  have hlow : ((b :: w).map f).map Lib.lowerB = b :: w := by
    rw [List.map_map]
    have : ∀ (l : List UInt8), (∀ c ∈ l, lowW c = true) → l.map (Lib.lowerB ∘ f) = l := by
      intro l hl
      induction l with
      | nil => rfl
      | cons c l ih => rw [List.map_cons, ih fun c hc => hl c (by simp [hc])]; congr 1; exact (cas_word hf (hl c (by simp))).2
    exact this _ fun c hc => by
      rcases List.mem_cons.1 hc with rfl | hc
      · exact lowL_W hb
      · exact hw c hc
  constructor
  · unfold tokP
    rw [if_pos (by simpa [nxt] using hl), htw, hlow, List.length_map]
  · obtain ⟨h1, h2⟩ := let_plain hl
    simp [skip, h1, h2]
theorem tok_num {v : Int} {r : List UInt8} (h0 : -9223372036854775808 ≤ v) (h1 : v < 9223372036854775808) (hr : rest r) :
    tokP (itoaS v ++ r) = .ok (⟨2, itoaS v, v⟩, (itoaS v).length) ∧ skip false (itoaS v ++ r) = itoaS v ++ r := by
  have e20 : (10 : Nat) ^ 20 = 100000000000000000000 := by decide
  have ht : nxt tailR r = false := rest_nxt (by decide) hr
  have hd : nxt digitR r = false := rest_nxt (by decide) hr
  by_cases hn : v < 0
  · have ei : itoaS v = 45 :: decF 20 v.natAbs := by rw [itoaS, if_pos hn]
    have hD := decF_digs 20 v.natAbs
    have hV := decF_val 20 v.natAbs (by omega)
    have hne := decF_ne 19 v.natAbs
    rw [ei]
    generalize decF 20 v.natAbs = D at hD hV hne ei
    cases D with
    | nil => exact absurd rfl hne
    | cons d D =>
      have hd0 := hD d (by simp)
      obtain ⟨p1, p2, p3⟩ := dig_plain hd0
      have htw := tw_app (p := digitR) (a := d :: D) (r := r) (fun c hc => hD c hc) hd
      have hsg : sg ((45 :: d :: D) ++ r) = 1 := rfl
      have hnd : nDig ((45 :: d :: D) ++ r) = (d :: D).length := by
        rw [nDig, hsg]
        show (tw digitR ((d :: D) ++ r)).length = _
        rw [htw]
      have hdr : ((45 :: d :: D) ++ r).drop (1 + (d :: D).length) = r := by
        rw [List.drop_append_of_le_length (by simp; omega)]
        rw [List.drop_of_length_le (by simp; omega)]; rfl
      constructor
      · unfold tokP
        rw [if_neg (by simp [nxt, letterR])]
        rw [if_pos (by simp [nxt, hd0])]
        unfold numP
        rw [hnd, hsg, hdr, ht]
        rw [if_neg (by simp)]
        have e1 : ((45 :: d :: D) ++ r).drop 1 = (d :: D) ++ r := rfl
        rw [e1, htw, hV]
        have e2 : numV (decide (((45 :: d :: D) ++ r).head? = some 45)) v.natAbs = .ok v := by
          simp only [List.cons_append, List.head?_cons, decide_true, numV, if_true]
          rw [if_pos (by omega)]
          congr 1; omega
        rw [e2]
        simp only [ei]
        simp; omega
      · simp [skip, blankR, p2]
  · have ei : itoaS v = decF 20 v.toNat := by rw [itoaS, if_neg hn]
    have hD := decF_digs 20 v.toNat
    have hV := decF_val 20 v.toNat (by omega)
    have hne := decF_ne 19 v.toNat
    rw [ei]
    generalize decF 20 v.toNat = D at hD hV hne ei
    cases D with
    | nil => exact absurd rfl hne
    | cons d D =>
      have hd0 := hD d (by simp)
      obtain ⟨p1, p2, p3⟩ := dig_plain hd0
      have htw := tw_app (p := digitR) (a := d :: D) (r := r) (fun c hc => hD c hc) hd
      have hsg : sg ((d :: D) ++ r) = 0 := by simp [sg, p2]
      have hnd : nDig ((d :: D) ++ r) = (d :: D).length := by
        rw [nDig, hsg, List.drop_zero, htw]
      have hdr : ((d :: D) ++ r).drop (0 + (d :: D).length) = r := by
        rw [Nat.zero_add, List.drop_left]
      constructor
      · unfold tokP
        rw [if_neg (by simp [nxt, p3])]
        rw [if_pos (by simp [nxt, hd0])]
        unfold numP
        rw [hnd, hsg, hdr, ht]
        rw [if_neg (by simp)]
        rw [List.drop_zero, htw, hV]
        have e2 : numV (decide (((d :: D) ++ r).head? = some 45)) v.toNat = .ok v := by
          simp only [List.cons_append, List.head?_cons, Option.some.injEq, p2, decide_false, numV, Bool.false_eq_true, if_false]
          rw [if_pos (by omega)]
          congr 1; omega
        rw [e2]
        simp only [ei]
        simp
      · simp [skip, p1, p2]
theorem tok_sign {p r : List UInt8} (hp : p ∈ signs) (hr : rest r) : tokP (p ++ r) = .ok (⟨3, p, 0⟩, p.length) ∧ skip false (p ++ r) = p ++ r := by
  simp only [signs, List.mem_cons, List.not_mem_nil, or_false] at hp
  rcases hr with rfl | ⟨r', rfl⟩
  · rcases hp with rfl | rfl | rfl | rfl | rfl | rfl | rfl | rfl | rfl <;> exact ⟨by rfl, by rfl⟩
  · rcases hp with rfl | rfl | rfl | rfl | rfl | rfl | rfl | rfl | rfl <;> refine ⟨?_, ?_⟩ <;> simp [tokP, nxt, letterR, digitR, signs, isPre, pre, skip, blankR, List.find?]
theorem tok_spell {f : UInt8 → UInt8} (hf : cas f) {t : Tok} (hg : good t) {r : List UInt8} (hr : rest r) :
    tokP (t.text.map f ++ r) = .ok (t, t.text.length) ∧ skip false (t.text.map f ++ r) = t.text.map f ++ r ∧ t.text ≠ [] := by
  obtain ⟨k, x, v⟩ := t
  rcases hg with ⟨h1, h2, b, w, h3, h4, h5⟩ | ⟨h1, h2, h3, h4⟩ | ⟨h1, h2, h3⟩ <;> simp only at h1 h2 h3
  · subst h1; subst h2; subst h3
    obtain ⟨q1, q2⟩ := tok_word hf h4 h5 hr
    exact ⟨q1, q2, by simp⟩
  · simp only at h4
    subst h1; subst h2
    have hm : (itoaS v).map f = itoaS v := by
      have : ∀ l : List UInt8, (∀ c ∈ l, f c = c) → l.map f = l := by
        intro l hl
        induction l with
        | nil => rfl
        | cons c l ih => rw [List.map_cons, ih fun c hc => hl c (by simp [hc]), hl c (by simp)]
      refine this _ fun c hc => ?_
      unfold itoaS at hc
      split at hc
      · rcases List.mem_cons.1 hc with rfl | hc
        · exact cas_45 hf
        · exact cas_dig hf (decF_digs _ _ _ hc)
      · exact cas_dig hf (decF_digs _ _ _ hc)
    simp only [hm]
    obtain ⟨q1, q2⟩ := tok_num (v := v) h3 h4 hr
    refine ⟨q1, q2, ?_⟩
    unfold itoaS
    split
    · simp
    · exact decF_ne 19 _
  · subst h1; subst h2
    simp only [cas_sign hf h3]
    obtain ⟨q1, q2⟩ := tok_sign h3 hr
    refine ⟨q1, q2, ?_⟩
    rintro rfl
    simp [signs] at h3
theorem lexR_tok {f : UInt8 → UInt8} (hf : cas f) {t : Tok} (hg : good t) {r : List UInt8} (hr : rest r) : lexR (t.text.map f ++ r) = consE t (lexR r) := by
  obtain ⟨h1, h2, h3⟩ := tok_spell hf hg hr
  rw [lexR_eq, h2, if_neg (by simp [h3]), h1]
  simp only
  congr 2
  rw [← List.length_map (f := f), List.drop_left]
theorem lexR_blank (r : List UInt8) : lexR (32 :: r) = lexR r := by
  rw [← lexR_skip (32 :: r), ← lexR_skip r]
  congr 1
theorem tokP_len {l : List UInt8} (hl : l ≠ []) {t : Tok} {n : Nat} (h : tokP l = .ok (t, n)) : t.text.length ≤ 21 * n := by
  have hn := tokP_n hl h
  unfold tokP at h
  split at h
  · simp only [Except.ok.injEq, Prod.mk.injEq] at h
    obtain ⟨rfl, rfl⟩ := h
    simp only [List.length_map]; omega
  · split at h
    · unfold numP at h
      split at h
      · cases h
      · split at h
        · rename_i v hv
          simp only [Except.ok.injEq, Prod.mk.injEq] at h
          obtain ⟨rfl, _⟩ := h
          have := itoaS_len v
          simp only; omega
        · cases h
    · split at h
      · simp only [Except.ok.injEq, Prod.mk.injEq] at h
        obtain ⟨rfl, rfl⟩ := h
        simp only; omega
      · cases h
theorem lexP_len : ∀ (f N : Nat) (l : List UInt8) (ts : List (Tok × Nat)), lexP f N l = .ok ts → ((texts ts).flatMap fun y => 32 :: y).length ≤ 22 * l.length ∧ ts.length ≤ l.length
  | 0, _, _, ts, h => by simp only [lexP, Except.ok.injEq] at h; subst h; simp [texts]
  | f + 1, N, l, ts, h => by
    simp only [lexP] at h
    split at h
    · simp only [Except.ok.injEq] at h; subst h; simp [texts]
    · rename_i hne
      split at h
      · cases h
      · rename_i t n ht
        split at h
        · cases h
        · rename_i us hu
          simp only [Except.ok.injEq] at h
          subst h
          obtain ⟨h1, h2⟩ := lexP_len f N _ _ hu
          have h3 := tokP_len hne ht
          have h4 := tokP_n hne ht
          have h5 := skip_le false l
          rw [List.length_drop] at h1 h2
          simp only [texts, List.map_cons, List.flatMap_cons, List.length_append, List.length_cons] at h1 ⊢
          constructor <;> omega
theorem joinT_le (a : List (List UInt8)) : (joinT a).length ≤ (a.flatMap fun y => 32 :: y).length := by
  cases a with
  | nil => simp [joinT]
  | cons x a => simp [joinT]
theorem lexT_len {l : List UInt8} {ts : List (Tok × Nat)} (h : lexT l = .ok ts) : (joinT (texts ts)).length ≤ 22 * l.length ∧ ts.length ≤ l.length := by
  unfold lexT at h
  split at h
  · cases h
  · obtain ⟨h1, h2⟩ := lexP_len _ _ _ _ h
    exact ⟨Nat.le_trans (joinT_le _) h1, h2⟩
end Go.Proofs.YtgfbealjkdhdbaaGreatDoor
set_option maxRecDepth 100000
namespace Go.Proofs.YtgfbealjkdhdbaaGreatDoor
open Go Go.Av
section
variable {P : Ctx} {f : Fr} {s : Hp} {K : Ex → Fr → Hp → Prop}
theorem seq_cut {a b : ACode} (Q : Fr → Hp → Prop) (ha : awp P a (seqK Q K) f s) (hb : ∀ f s, Q f s → awp P b K f s) : awp P (.seq a b) K f s := by
  rw [awp_seq]
  refine awp_mono a (fun e f s h => ?_) f s ha
  cases e with
  | norm => exact hb f s h
  | exit i => exact h
  | ret => exact h
end
theorem ix {l : List UInt8} {i : Nat} {c : UInt8} {n : Int} (h : l[i]? = some c) (hn : n = (i : Int)) : idxSA (strV l) (.v (.int .i64 n)) = some (.v (.int .u8 c.toNat)) := by
  obtain ⟨hlt, rfl⟩ := List.getElem?_eq_some_iff.1 h
  subst hn
  rw [strV, idxSA_str (by omega) (by omega)]
  simp [List.getD, hlt]
theorem cells_strv {l : List UInt8} : (AV.v (.string ⟨l.toArray⟩)).cells = [strV l] := rfl
theorem lenTS {l : List UInt8} : lenTA (strV l) = some (.v (.int .i64 l.length)) := lenTA_str
theorem drop_at {l q : List UInt8} {c : UInt8} {i : Nat} (h : l.drop i = c :: q) : l[i]? = some c ∧ l.drop (i + 1) = q ∧ i < l.length := by
  have hlt : i < l.length := by
    rcases Nat.lt_or_ge i l.length with h1 | h1
    · exact h1
    · rw [List.drop_of_length_le h1] at h; cases h
  rw [List.drop_eq_getElem_cons hlt] at h
  obtain ⟨h1, h2⟩ := List.cons.inj h
  exact ⟨by rw [List.getElem?_eq_getElem hlt, h1], h2, hlt⟩
theorem u8_eq {c : UInt8} {n : Nat} {m : UInt8} (h : m.toNat = n) : ((c.toNat : Int) = (n : Int)) ↔ c = m := kind_eq h
theorem adv {N i n : Nat} {q : List UInt8} {t : Tok} {acc : List (Tok × Nat)} (hne : q ≠ []) (hsk : skip false q = q) (ht : tokP q = .ok (t, n)) (hi : N - q.length = i) :
    appE (acc ++ [(t, i)]) (lexQ N (q.drop n)) = appE acc (lexQ N q) := by
  rw [lexQ_eq N q, hsk, if_neg hne, ht]
  simp only
  cases lexQ N (q.drop n) with
  | error e => rfl
  | ok ts => simp [appE, hi]
theorem lexQ_err {N e : Nat} {q : List UInt8} (hne : q ≠ []) (hsk : skip false q = q) (ht : tokP q = .error e) : lexQ N q = .error e := by
  rw [lexQ_eq N q, hsk, if_neg hne, ht]
def limOf (m : Bool) : Nat := if m then 9223372036854775808 else 9223372036854775807
theorem mul_u64 {n : Nat} : binV .mul (.int .u64 10) (.int .u64 (n : Int)) = some (.int .u64 ((10 * n % 18446744073709551616 : Nat) : Int)) := by
  simp only [binV, isShift, binInt, Bool.false_eq_true, if_false, if_true]
  rw [wrap_u64_mod]; congr 2
theorem add_u64 {n d : Nat} : binV .add (.int .u64 ((10 * n % 18446744073709551616 : Nat) : Int)) (.int .u64 (d : Int)) = some (.int .u64 (((10 * n + d) % 18446744073709551616 : Nat) : Int)) := by
  simp only [binV, isShift, binInt, Bool.false_eq_true, if_false, if_true]
  rw [wrap_u64_mod]; congr 2; omega
theorem over_step {m : Bool} {D d : Nat} (hd : d ≤ 9) (n X : Nat) (hn : n = if limOf m < D then 0 else D) (hX : X = (10 * n + d) % 18446744073709551616) :
    ((decide (limOf m < D) || decide (922337203685477580 < n)) || (decide (9223372036854775808 < X) || (!m && decide (9223372036854775807 < X)))) = decide (limOf m < D * 10 + d) ∧
    (limOf m < D * 10 + d ∨ X = D * 10 + d) := by
  unfold limOf at *
  cases m <;> simp only [Bool.false_eq_true, if_false, if_true, Bool.not_false, Bool.not_true, Bool.true_and, Bool.false_and, Bool.or_false] at * <;> (rw [Bool.eq_iff_iff]; simp only [Bool.or_eq_true, decide_eq_true_eq]; split at hn <;> omega)
theorem sign_two {c d : UInt8} {r : List UInt8} (h : c = 60 ∨ c = 62) (hd : d = 61) : signs.find? (fun p => isPre p (c :: d :: r)) = some [c, d] := by
  subst hd
  rcases h with rfl | rfl <;> simp [signs, isPre, pre, List.find?]
def one7 (c : UInt8) : Bool := decide (c = 40) || (decide (c = 41) || (decide (c = 44) || (decide (c = 42) || (decide (c = 61) || (decide (c = 60) || decide (c = 62))))))
theorem sign_one {c : UInt8} {r : List UInt8} (h1 : ¬ (c :: r).take 2 = [60, 61]) (h2 : ¬ (c :: r).take 2 = [62, 61]) : signs.find? (fun p => isPre p (c :: r)) = if one7 c then some [c] else none := by
  have e : ∀ x, isPre [x] (c :: r) = decide (c = x) := fun x => by simp [isPre, pre]
  have e1 : isPre [60, 61] (c :: r) = false := by simp only [isPre, pre]; rw [Bool.and_eq_false_iff]; right; exact decide_eq_false h1
  have e2 : isPre [62, 61] (c :: r) = false := by simp only [isPre, pre]; rw [Bool.and_eq_false_iff]; right; exact decide_eq_false h2
  simp only [signs, List.find?_cons, List.find?_nil, e, e1, e2]
  by_cases a1 : c = 40
  · subst a1; rfl
  by_cases a2 : c = 41
  · subst a2; rfl
  by_cases a3 : c = 44
  · subst a3; rfl
  by_cases a4 : c = 42
  · subst a4; rfl
  by_cases a5 : c = 61
  · subst a5; rfl
  by_cases a6 : c = 60
  · subst a6; rfl
  by_cases a7 : c = 62
  · subst a7; rfl
  simp [one7, a1, a2, a3, a4, a5, a6, a7]
theorem refLex_spec (l : List UInt8) (s : Hp) : AC Tryz.prog 10 [strV l] s fun r s' => LexPost s s' r (lexT l) := by
  refine AC_run hm prep10 (by simp) ?_
  by_cases h1000 : (1000 : Int) < (l.length : Int)
  · simp (dsimp := false) (implicitDefEqProofs := false) (disch := first | omega | assumption | (simp only [rL, Nat.reduceAdd]; try omega)) only [↓rD, rU, ev, ofConst, ofCell, simprocAttr, rX, List.drop_succ_cons, ↓rF, rG, ne_eq, not_true_eq_false, not_false_eq_true, Int.reduceNe, List.getElem?_cons_zero, List.getElem?_cons_succ, ↓rK, rM, lenTS, h1000]
    have e : lexT l = .error 10 := by simp only [lexT]; rw [if_pos (by omega)]
    exact ⟨_, Hp.sub_refl, by rw [e]; exact ⟨Hp.sub_refl, rfl⟩⟩
  have hl : l.length ≤ 1000 := by omega
  have e : lexT l = lexQ l.length l := by simp only [lexT, lexQ]; rw [if_neg (by omega)]
  rw [e]
  simp (dsimp := false) (implicitDefEqProofs := false) (disch := first | omega | assumption | (simp only [rL, Nat.reduceAdd]; try omega)) only [↓rD, rU, ev, ofConst, ofCell, simprocAttr, rX, List.drop_succ_cons, ↓rF, rG, ne_eq, not_true_eq_false, not_false_eq_true, Int.reduceNe, List.getElem?_cons_zero, List.getElem?_cons_succ, ↓rK, rM, lenTS, h1000]
  refine loop_intro (fun f s' => ∃ (i : Nat) (acc : List (Tok × Nat)) (o : Own), i ≤ l.length ∧ appE acc (lexQ l.length (l.drop i)) = lexQ l.length l ∧ acc.length ≤ i ∧
      Owned s s' 4 (TL acc) o ∧ f 0 = strV l ∧ f 4 = .sl (TL acc) o ∧ f 5 = .v (.int .i64 (i : Nat)))
    (fun f _ => match f 5 with | .v (.int _ n) => l.length - n.toNat | _ => 0) ⟨0, [], .nil, by omega, ?_, by simp, Owned.nil Hp.sub_refl, ?_⟩ ?_
  · rw [List.drop_zero]; cases lexQ l.length l <;> rfl
  · simp (dsimp := false) (implicitDefEqProofs := false) (disch := first | omega | assumption | (simp only [rL, Nat.reduceAdd]; try omega)) only [↓rD, rU, ev, ofConst, ofCell, simprocAttr, rX, List.drop_succ_cons, ↓rF, rG, ne_eq, not_true_eq_false, not_false_eq_true, Int.reduceNe, List.getElem?_cons_zero, List.getElem?_cons_succ, ↓rK, rM]
    rfl
  · rintro f s' ⟨i, acc, o, hi, happ, hacc, hown, f0, f4, f5⟩
    have hlenT : (TL acc).length = acc.length := by simp [TL]
    have M5 := f5
    by_cases hlt : (i : Int) < (l.length : Int)
    · have hi' : i < l.length := by omega
      obtain ⟨c, r, hq⟩ : ∃ c r, l.drop i = c :: r := ⟨_, _, List.drop_eq_getElem_cons hi'⟩
      obtain ⟨hc, hr, _⟩ := drop_at hq
      have hrl : r.length = l.length - i - 1 := by rw [← hr, List.length_drop]; omega
      have hix := ix (n := (i : Int)) hc rfl
      simp (dsimp := false) (implicitDefEqProofs := false) (disch := first | omega | assumption | (simp only [rL, Nat.reduceAdd]; try omega)) only [↓rD, rU, ev, ofConst, ofCell, simprocAttr, rX, List.drop_succ_cons, ↓rF, rG, ne_eq, not_true_eq_false, not_false_eq_true, Int.reduceNe, List.getElem?_cons_zero, List.getElem?_cons_succ, ↓rK, rM, lenTS, f0, f4, f5, hlt, hix]
      refine call_intro (rblank_spec _ _) ?_
      rintro _ s1 ⟨rfl, rfl⟩
      simp (dsimp := false) (implicitDefEqProofs := false) (disch := first | omega | assumption | (simp only [rL, Nat.reduceAdd]; try omega)) only [↓rD, rU, ev, ofConst, ofCell, simprocAttr, rX, List.drop_succ_cons, ↓rF, rG, ne_eq, not_true_eq_false, not_false_eq_true, Int.reduceNe, List.getElem?_cons_zero, List.getElem?_cons_succ, ↓rK, rM]
      refine cond_join (fun f s' => blankR c.toNat = false ∧ s' = s1 ∧ f 0 = strV l ∧ f 4 = .sl (TL acc) o ∧ f 5 = .v (.int .i64 (i : Nat))) ?_ ?_ ?_
      · intro hb
        simp (dsimp := false) (implicitDefEqProofs := false) (disch := first | omega | assumption | (simp only [rL, Nat.reduceAdd]; try omega)) only [↓rD, rU, ev, ofConst, ofCell, simprocAttr, rX, List.drop_succ_cons, ↓rF, rG, ne_eq, not_true_eq_false, not_false_eq_true, Int.reduceNe, List.getElem?_cons_zero, List.getElem?_cons_succ, ↓rK, rM, lenTS, f0, f4, f5]
        refine ⟨⟨i + 1, acc, o, by omega, ?_, by omega, hown, rfl, by simp⟩, by omega⟩
        rw [← happ, hr, hq, ← lexQ_skip l.length (c :: r)]
        simp only [skip, hb, if_true]
        rw [lexQ_skip]
      · intro hb
        simp (dsimp := false) (implicitDefEqProofs := false) (disch := first | omega | assumption | (simp only [rL, Nat.reduceAdd]; try omega)) only [↓rD, rU, ev, ofConst, ofCell, simprocAttr, rX, List.drop_succ_cons, ↓rF, rG, ne_eq, not_true_eq_false, not_false_eq_true, Int.reduceNe, List.getElem?_cons_zero, List.getElem?_cons_succ, ↓rK, rM, lenTS, f0, f4, f5]
        exact hb
      · clear f0 f4 f5
        rintro f s' ⟨hb, rfl, f0, f4, f5⟩
        -- two hyphens?
        obtain ⟨dash, hdash⟩ : ∃ b : Bool, b = decide (c = 45 ∧ r.head? = some 45) := ⟨_, rfl⟩
        rw [awp_seq]
        refine seq_cut (fun f s2 => s2 = s' ∧ f 0 = strV l ∧ f 4 = .sl (TL acc) o ∧ f 5 = .v (.int .i64 (i : Nat)) ∧ f 46 = .v (.bool dash)) ?_ ?_
        · by_cases h45 : c = 45
          · subst h45
            have h45t : (((45 : UInt8).toNat : Nat) : Int) = 45 := rfl
            cases hrr : r with
            | nil =>
              have hz : ¬ ((i : Int) + 1 < (l.length : Int)) := by rw [hrr] at hrl; simp at hrl; omega
              have : dash = false := by rw [hdash, hrr]; rfl
              subst this
              simp (dsimp := false) (implicitDefEqProofs := false) (disch := first | omega | assumption | (simp only [rL, Nat.reduceAdd]; try omega)) only [↓rD, rU, ev, ofConst, ofCell, simprocAttr, rX, List.drop_succ_cons, ↓rF, rG, ne_eq, not_true_eq_false, not_false_eq_true, Int.reduceNe, List.getElem?_cons_zero, List.getElem?_cons_succ, ↓rK, rM, lenTS, f0, f4, f5, hix, hz, h45t]
            | cons d r2 =>
              rw [hrr] at hr hrl
              obtain ⟨hd, _, _⟩ := drop_at hr
              have hixd := ix (n := (i : Int) + 1) hd (by omega)
              have hz : (i : Int) + 1 < (l.length : Int) := by simp at hrl; omega
              by_cases hd45 : d = 45
              · subst hd45
                have : dash = true := by rw [hdash, hrr]; rfl
                subst this
                simp (dsimp := false) (implicitDefEqProofs := false) (disch := first | omega | assumption | (simp only [rL, Nat.reduceAdd]; try omega)) only [↓rD, rU, ev, ofConst, ofCell, simprocAttr, rX, List.drop_succ_cons, ↓rF, rG, ne_eq, not_true_eq_false, not_false_eq_true, Int.reduceNe, List.getElem?_cons_zero, List.getElem?_cons_succ, ↓rK, rM, lenTS, f0, f4, f5, hix, hz, h45t, hixd]
              · have hdI : ¬ ((d.toNat : Nat) : Int) = 45 := fun h => hd45 ((u8_eq (m := 45) (n := 45) rfl).1 h)
                have : dash = false := by rw [hdash, hrr]; simp [hd45]
                subst this
                simp (dsimp := false) (implicitDefEqProofs := false) (disch := first | omega | assumption | (simp only [rL, Nat.reduceAdd]; try omega)) only [↓rD, rU, ev, ofConst, ofCell, simprocAttr, rX, List.drop_succ_cons, ↓rF, rG, ne_eq, not_true_eq_false, not_false_eq_true, Int.reduceNe, List.getElem?_cons_zero, List.getElem?_cons_succ, ↓rK, rM, lenTS, f0, f4, f5, hix, hz, h45t, hixd, hdI]
          · have hcI : ¬ ((c.toNat : Nat) : Int) = 45 := fun h => h45 ((u8_eq (m := 45) (n := 45) rfl).1 h)
            have : dash = false := by rw [hdash]; simp [h45]
            subst this
            simp (dsimp := false) (implicitDefEqProofs := false) (disch := first | omega | assumption | (simp only [rL, Nat.reduceAdd]; try omega)) only [↓rD, rU, ev, ofConst, ofCell, simprocAttr, rX, List.drop_succ_cons, ↓rF, rG, ne_eq, not_true_eq_false, not_false_eq_true, Int.reduceNe, List.getElem?_cons_zero, List.getElem?_cons_succ, ↓rK, rM, lenTS, f0, f4, f5, hix, hcI]
        rintro f s2 ⟨rfl, f0, f4, f5, f46⟩
        simp (dsimp := false) (implicitDefEqProofs := false) (disch := first | omega | assumption | (simp only [rL, Nat.reduceAdd]; try omega)) only [↓rD, rU, ev, ofConst, ofCell, simprocAttr, rX, List.drop_succ_cons, ↓rF, rG, ne_eq, not_true_eq_false, not_false_eq_true, Int.reduceNe, List.getElem?_cons_zero, List.getElem?_cons_succ, ↓rK, rM, lenTS, f0, f4, f5, f46]
        refine cond_join (fun f s' => dash = false ∧ s' = s2 ∧ f 0 = strV l ∧ f 4 = .sl (TL acc) o ∧ f 5 = .v (.int .i64 (i : Nat))) ?_ ?_ ?_
        · intro hd1
          rw [hd1] at hdash
          have hdd : c = 45 ∧ r.head? = some 45 := of_decide_eq_true hdash.symm
          have hsk0 : skip true (l.drop i) = skip false (l.drop i) := by
            rw [hq, hdd.1]
            cases r with
            | nil => simp at hdd
            | cons d r2 =>
              have : d = 45 := by simpa using hdd.2
              subst this
              simp [skip, blankR]
          simp (dsimp := false) (implicitDefEqProofs := false) (disch := first | omega | assumption | (simp only [rL, Nat.reduceAdd]; try omega)) only [↓rD, rU, ev, ofConst, ofCell, simprocAttr, rX, List.drop_succ_cons, ↓rF, rG, ne_eq, not_true_eq_false, not_false_eq_true, Int.reduceNe, List.getElem?_cons_zero, List.getElem?_cons_succ, ↓rK, rM, lenTS, f0, f4, f5]
          refine loop_intro (fun f s' => ∃ j : Nat, i ≤ j ∧ j ≤ l.length ∧ skip true (l.drop j) = skip false (l.drop i) ∧ s' = s2 ∧ f 0 = strV l ∧ f 4 = .sl (TL acc) o ∧ f 5 = .v (.int .i64 (j : Nat)))
            (fun f _ => match f 5 with | .v (.int _ n) => l.length - n.toNat | _ => 0) ⟨i, by omega, by omega, hsk0, rfl, ?_⟩ ?_
          · simp (dsimp := false) (implicitDefEqProofs := false) (disch := first | omega | assumption | (simp only [rL, Nat.reduceAdd]; try omega)) only [↓rD, rU, ev, ofConst, ofCell, simprocAttr, rX, List.drop_succ_cons, ↓rF, rG, ne_eq, not_true_eq_false, not_false_eq_true, Int.reduceNe, List.getElem?_cons_zero, List.getElem?_cons_succ, ↓rK, rM, f0, f4, f5]
          · clear f0 f4 f5 f46
            rintro f s2 ⟨j, hij, hjl, hsk, rfl, f0, f4, f5⟩
            by_cases hj : (j : Int) < (l.length : Int)
            · obtain ⟨b, r3, hq3⟩ : ∃ c r, l.drop j = c :: r := ⟨_, _, List.drop_eq_getElem_cons (by omega)⟩
              obtain ⟨hbj, hr3, _⟩ := drop_at hq3
              have hixb := ix (n := (j : Int)) hbj rfl
              by_cases hb10 : b = 10
              · subst hb10
                have h10 : (((10 : UInt8).toNat : Nat) : Int) = 10 := rfl
                simp (dsimp := false) (implicitDefEqProofs := false) (disch := first | omega | assumption | (simp only [rL, Nat.reduceAdd]; try omega)) only [↓rD, rU, ev, ofConst, ofCell, simprocAttr, rX, List.drop_succ_cons, ↓rF, rG, ne_eq, not_true_eq_false, not_false_eq_true, Int.reduceNe, List.getElem?_cons_zero, List.getElem?_cons_succ, ↓rK, rM, lenTS, f0, f4, f5, hj, hixb, h10, M5]
                have hne : j ≠ i := by
                  rintro rfl
                  rw [hc] at hbj
                  have : c = 10 := Option.some.inj hbj
                  rw [hdd.1] at this; cases this
                refine ⟨⟨j, acc, o, by omega, ?_, by omega, hown, rfl, rfl⟩, by omega⟩
                rw [← happ, ← lexQ_skip l.length (l.drop i), ← hsk, hq3, ← lexQ_skip l.length (10 :: r3)]
                simp [skip, blankR]
              · have h10 : ¬ ((b.toNat : Nat) : Int) = 10 := fun h => hb10 ((u8_eq (m := 10) (n := 10) rfl).1 h)
                simp (dsimp := false) (implicitDefEqProofs := false) (disch := first | omega | assumption | (simp only [rL, Nat.reduceAdd]; try omega)) only [↓rD, rU, ev, ofConst, ofCell, simprocAttr, rX, List.drop_succ_cons, ↓rF, rG, ne_eq, not_true_eq_false, not_false_eq_true, Int.reduceNe, List.getElem?_cons_zero, List.getElem?_cons_succ, ↓rK, rM, lenTS, f0, f4, f5, hj, hixb, h10]
                refine ⟨⟨j + 1, by omega, by omega, ?_, by simp⟩, by omega⟩
                rw [← hsk, hr3, hq3]
                simp [skip, hb10]
            · obtain rfl : j = l.length := by omega
              simp (dsimp := false) (implicitDefEqProofs := false) (disch := first | omega | assumption | (simp only [rL, Nat.reduceAdd]; try omega)) only [↓rD, rU, ev, ofConst, ofCell, simprocAttr, rX, List.drop_succ_cons, ↓rF, rG, ne_eq, not_true_eq_false, not_false_eq_true, Int.reduceNe, List.getElem?_cons_zero, List.getElem?_cons_succ, ↓rK, rM, lenTS, f0, f4, f5, hj, M5]
              refine ⟨⟨l.length, acc, o, by omega, ?_, by omega, hown, rfl, rfl⟩, by omega⟩
              rw [List.drop_length] at hsk ⊢
              rw [← happ, ← lexQ_skip l.length (l.drop i), ← hsk]
              rfl
        · intro hd0
          simp (dsimp := false) (implicitDefEqProofs := false) (disch := first | omega | assumption | (simp only [rL, Nat.reduceAdd]; try omega)) only [↓rD, rU, ev, ofConst, ofCell, simprocAttr, rX, List.drop_succ_cons, ↓rF, rG, ne_eq, not_true_eq_false, not_false_eq_true, Int.reduceNe, List.getElem?_cons_zero, List.getElem?_cons_succ, ↓rK, rM, lenTS, f0, f4, f5]
          exact hd0
        clear f0 f4 f5 f46
        rintro f s3 ⟨hd0, rfl, f0, f4, f5⟩
        have hnd : ¬ (c = 45 ∧ r.head? = some 45) := by rw [hd0] at hdash; exact of_decide_eq_false hdash.symm
        have hne : l.drop i ≠ [] := by rw [hq]; simp
        have hsk : skip false (l.drop i) = l.drop i := by rw [hq]; simp only [skip, hb]; rw [if_neg (by simp), if_neg hnd]
        have hNi : l.length - (l.drop i).length = i := by rw [List.length_drop]; omega
        simp (dsimp := false) (implicitDefEqProofs := false) (disch := first | omega | assumption | (simp only [rL, Nat.reduceAdd]; try omega)) only [↓rD, rU, ev, ofConst, ofCell, simprocAttr, rX, List.drop_succ_cons, ↓rF, rG, ne_eq, not_true_eq_false, not_false_eq_true, Int.reduceNe, List.getElem?_cons_zero, List.getElem?_cons_succ, ↓rK, rM, lenTS, f0, f4, f5, hix]
        refine call_intro (rletter_spec _ _) ?_
        rintro _ s1 ⟨rfl, rfl⟩
        simp (dsimp := false) (implicitDefEqProofs := false) (disch := first | omega | assumption | (simp only [rL, Nat.reduceAdd]; try omega)) only [↓rD, rU, ev, ofConst, ofCell, simprocAttr, rX, List.drop_succ_cons, ↓rF, rG, ne_eq, not_true_eq_false, not_false_eq_true, Int.reduceNe, List.getElem?_cons_zero, List.getElem?_cons_succ, ↓rK, rM]
        refine cond_join (fun f s' => letterR c.toNat = false ∧ s' = s1 ∧ f 0 = strV l ∧ f 4 = .sl (TL acc) o ∧ f 5 = .v (.int .i64 (i : Nat)) ∧ f 6 = .v (.int .i64 (i : Nat))) ?_ ?_ ?_
        · intro hL
          have hcl : c ≠ 45 := (let_plain hL).2
          obtain ⟨txt, htxt⟩ : ∃ t, t = (tw wordR (l.drop i)).map Lib.lowerB := ⟨_, rfl⟩
          have htl : txt.length = (tw wordR (l.drop i)).length := by rw [htxt, List.length_map]
          have htle := tw_le wordR (l.drop i)
          have hdl : (l.drop i).length = l.length - i := List.length_drop
          refine seq_cut (fun f s' => s' = s1 ∧ f 0 = strV l ∧ f 4 = .sl (TL acc) o ∧ f 5 = .v (.int .i64 (i : Nat)) ∧ f 6 = .v (.int .i64 (i : Nat)) ∧ f 7 = .sl [] .nil) ?_ ?_
          · simp (dsimp := false) (implicitDefEqProofs := false) (disch := first | omega | assumption | (simp only [rL, Nat.reduceAdd]; try omega)) only [↓rD, rU, ev, ofConst, ofCell, simprocAttr, rX, List.drop_succ_cons, ↓rF, rG, ne_eq, not_true_eq_false, not_false_eq_true, Int.reduceNe, List.getElem?_cons_zero, List.getElem?_cons_succ, ↓rK, rM, f0, f4, f5]
          clear f0 f4 f5
          rintro f s2 ⟨rfl, f0, f4, f5, f6, f7⟩
          refine seq_cut (fun f s' => ∃ o7, Owned s2 s' 1 (txt.map byteAV) o7 ∧ f 0 = strV l ∧ f 4 = .sl (TL acc) o ∧ f 5 = .v (.int .i64 ((i + txt.length : Nat) : Int)) ∧ f 6 = .v (.int .i64 (i : Nat)) ∧ f 7 = .sl (txt.map byteAV) o7) ?_ ?_
          · simp (dsimp := false) (implicitDefEqProofs := false) (disch := first | omega | assumption | (simp only [rL, Nat.reduceAdd]; try omega)) only [↓rD, rU, ev, ofConst, ofCell, simprocAttr, rX, List.drop_succ_cons, ↓rF, rG, ne_eq, not_true_eq_false, not_false_eq_true, Int.reduceNe, List.getElem?_cons_zero, List.getElem?_cons_succ, ↓rK, rM, f0, f4, f5, f6, f7]
            refine loop_intro (fun f s' => ∃ (j : Nat) (o7 : Own), i ≤ j ∧ j ≤ l.length ∧ (∀ b ∈ (l.drop i).take (j - i), wordR b.toNat = true) ∧ Owned s2 s' 1 ((((l.drop i).take (j - i)).map Lib.lowerB).map byteAV) o7 ∧
                f 0 = strV l ∧ f 4 = .sl (TL acc) o ∧ f 5 = .v (.int .i64 (j : Nat)) ∧ f 6 = .v (.int .i64 (i : Nat)) ∧ f 7 = .sl ((((l.drop i).take (j - i)).map Lib.lowerB).map byteAV) o7)
              (fun f _ => match f 5 with | .v (.int _ n) => l.length - n.toNat | _ => 0) ⟨i, .nil, by omega, by omega, by simp, ?_⟩ ?_
            · simp only [Nat.sub_self, List.take_zero, List.map_nil]
              exact ⟨Owned.nil Hp.sub_refl, f0, f4, f5, f6, f7⟩
            · clear f0 f4 f5 f6 f7
              rintro f s3 ⟨j, o7, hij, hjl, hall, hown7, f0, f4, f5, f6, f7⟩
              have fin : nxt wordR (l.drop j) = false → (l.drop i).take (j - i) = tw wordR (l.drop i) := fun h => by
                have e1 : l.drop i = (l.drop i).take (j - i) ++ l.drop j := by
                  have : l.drop j = (l.drop i).drop (j - i) := by rw [List.drop_drop]; congr 1; omega
                  rw [this, List.take_append_drop]
                conv => rhs; rw [e1]
                rw [tw_app hall h]
              have fin2 : nxt wordR (l.drop j) = false → ((l.drop i).take (j - i)).map Lib.lowerB = txt ∧ j = i + txt.length := fun h => by
                have h1 := fin h
                refine ⟨by rw [htxt, h1], ?_⟩
                rw [htl, ← h1, List.length_take, hdl]; omega
              by_cases hj : (j : Int) < (l.length : Int)
              · obtain ⟨b, r3, hq3⟩ : ∃ c r, l.drop j = c :: r := ⟨_, _, List.drop_eq_getElem_cons (by omega)⟩
                obtain ⟨hbj, hr3, _⟩ := drop_at hq3
                have hixb := ix (n := (j : Int)) hbj rfl
                simp (dsimp := false) (implicitDefEqProofs := false) (disch := first | omega | assumption | (simp only [rL, Nat.reduceAdd]; try omega)) only [↓rD, rU, ev, ofConst, ofCell, simprocAttr, rX, List.drop_succ_cons, ↓rF, rG, ne_eq, not_true_eq_false, not_false_eq_true, Int.reduceNe, List.getElem?_cons_zero, List.getElem?_cons_succ, ↓rK, rM, lenTS, f0, f4, f5, f6, f7, hj, hixb]
                refine call_intro (rword_spec _ _) ?_
                rintro _ s3 ⟨rfl, rfl⟩
                simp (dsimp := false) (implicitDefEqProofs := false) (disch := first | omega | assumption | (simp only [rL, Nat.reduceAdd]; try omega)) only [↓rD, rU, ev, ofConst, ofCell, simprocAttr, rX, List.drop_succ_cons, ↓rF, rG, ne_eq, not_true_eq_false, not_false_eq_true, Int.reduceNe, List.getElem?_cons_zero, List.getElem?_cons_succ, ↓rK, rM]
                refine cond_join (fun f s' => wordR b.toNat = true ∧ s' = s3 ∧ f 0 = strV l ∧ f 4 = .sl (TL acc) o ∧ f 5 = .v (.int .i64 (j : Nat)) ∧ f 6 = .v (.int .i64 (i : Nat)) ∧ f 7 = .sl ((((l.drop i).take (j - i)).map Lib.lowerB).map byteAV) o7) ?_ ?_ ?_
                · intro hw
                  simp (dsimp := false) (implicitDefEqProofs := false) (disch := first | omega | assumption | (simp only [rL, Nat.reduceAdd]; try omega)) only [↓rD, rU, ev, ofConst, ofCell, simprocAttr, rX, List.drop_succ_cons, ↓rF, rG, ne_eq, not_true_eq_false, not_false_eq_true, Int.reduceNe, List.getElem?_cons_zero, List.getElem?_cons_succ, ↓rK, rM, f0, f4, f5, f6, f7]
                  exact hw
                · intro hw
                  obtain ⟨g1, g2⟩ := fin2 (by rw [hq3]; exact hw)
                  simp (dsimp := false) (implicitDefEqProofs := false) (disch := first | omega | assumption | (simp only [rL, Nat.reduceAdd]; try omega)) only [↓rD, rU, ev, ofConst, ofCell, simprocAttr, rX, List.drop_succ_cons, ↓rF, rG, ne_eq, not_true_eq_false, not_false_eq_true, Int.reduceNe, List.getElem?_cons_zero, List.getElem?_cons_succ, ↓rK, rM, f0, f4, f5, f6, f7]
                  rw [g1] at hown7 ⊢
                  exact ⟨o7, hown7, by rw [g2], rfl⟩
                · have N5 := f5
                  clear f0 f4 f5 f6 f7
                  rintro f s4 ⟨hw, rfl, f0, f4, f5, f6, f7⟩
                  rw [awp_block]
                  refine seq_cut (fun f s' => s' = s4 ∧ f 0 = strV l ∧ f 4 = .sl (TL acc) o ∧ f 5 = .v (.int .i64 (j : Nat)) ∧ f 6 = .v (.int .i64 (i : Nat)) ∧ f 7 = .sl ((((l.drop i).take (j - i)).map Lib.lowerB).map byteAV) o7 ∧ f 8 = .v (.int .u8 b.toNat)) ?_ ?_
                  · simp (dsimp := false) (implicitDefEqProofs := false) (disch := first | omega | assumption | (simp only [rL, Nat.reduceAdd]; try omega)) only [↓rD, rU, ev, ofConst, ofCell, simprocAttr, rX, List.drop_succ_cons, ↓rF, rG, ne_eq, not_true_eq_false, not_false_eq_true, Int.reduceNe, List.getElem?_cons_zero, List.getElem?_cons_succ, ↓rK, rM, f0, f4, f5, f6, f7, hixb]
                  clear f0 f4 f5 f6 f7
                  rintro f s4 ⟨rfl, f0, f4, f5, f6, f7, f8⟩
                  refine seq_cut (fun f s' => s' = s4 ∧ f 0 = strV l ∧ f 4 = .sl (TL acc) o ∧ f 5 = .v (.int .i64 (j : Nat)) ∧ f 6 = .v (.int .i64 (i : Nat)) ∧ f 7 = .sl ((((l.drop i).take (j - i)).map Lib.lowerB).map byteAV) o7 ∧ f 8 = .v (.int .u8 (Lib.lowerB b).toNat)) ?_ ?_
                  · by_cases h65 : (65 : Int) ≤ (b.toNat : Int)
                    · by_cases h90 : (b.toNat : Int) ≤ 90
                      · have w : IntKind.u8.wrap ((b.toNat : Int) + 32) = ((Lib.lowerB b).toNat : Int) := by
                          have h1 : 65 ≤ b ∧ b ≤ 90 := by
                            constructor
                            · rw [UInt8.le_iff_toNat_le]; show 65 ≤ b.toNat; omega
                            · rw [UInt8.le_iff_toNat_le]; show b.toNat ≤ 90; omega
                          rw [wrap_u8 (by omega) (by omega), Lib.lowerB, if_pos (by simp [Lib.isUpperB, h1]), UInt8.toNat_add]
                          show (b.toNat : Int) + 32 = ((b.toNat + 32) % 256 : Nat)
                          omega
                        have gw : binV .add (.int .u8 (b.toNat : Int)) (.int .u8 32) = some (.int .u8 (Lib.lowerB b).toNat) := by
                          simp only [binV, isShift, binInt, Bool.false_eq_true, if_false, if_true, w]
                        simp (dsimp := false) (implicitDefEqProofs := false) (disch := first | omega | assumption | (simp only [rL, Nat.reduceAdd]; try omega)) only [↓rD, rU, ev, ofConst, ofCell, simprocAttr, rX, List.drop_succ_cons, ↓rF, rG, ne_eq, not_true_eq_false, not_false_eq_true, Int.reduceNe, List.getElem?_cons_zero, List.getElem?_cons_succ, ↓rK, rM, f0, f4, f5, f6, f7, f8, h65, h90, gw]
                      · have w : Lib.lowerB b = b := by
                          rw [Lib.lowerB, if_neg]
                          intro h
                          simp only [Lib.isUpperB, Bool.and_eq_true, decide_eq_true_eq, UInt8.le_iff_toNat_le] at h
                          have := h.2
                          change b.toNat ≤ 90 at this
                          omega
                        simp (dsimp := false) (implicitDefEqProofs := false) (disch := first | omega | assumption | (simp only [rL, Nat.reduceAdd]; try omega)) only [↓rD, rU, ev, ofConst, ofCell, simprocAttr, rX, List.drop_succ_cons, ↓rF, rG, ne_eq, not_true_eq_false, not_false_eq_true, Int.reduceNe, List.getElem?_cons_zero, List.getElem?_cons_succ, ↓rK, rM, f0, f4, f5, f6, f7, f8, h65, h90, w]
                    · have w : Lib.lowerB b = b := by
                        rw [Lib.lowerB, if_neg]
                        intro h
                        simp only [Lib.isUpperB, Bool.and_eq_true, decide_eq_true_eq, UInt8.le_iff_toNat_le] at h
                        have := h.1
                        change 65 ≤ b.toNat at this
                        omega
                      simp (dsimp := false) (implicitDefEqProofs := false) (disch := first | omega | assumption | (simp only [rL, Nat.reduceAdd]; try omega)) only [↓rD, rU, ev, ofConst, ofCell, simprocAttr, rX, List.drop_succ_cons, ↓rF, rG, ne_eq, not_true_eq_false, not_false_eq_true, Int.reduceNe, List.getElem?_cons_zero, List.getElem?_cons_succ, ↓rK, rM, f0, f4, f5, f6, f7, f8, h65, w]
                  clear f0 f4 f5 f6 f7 f8
                  rintro f s4 ⟨rfl, f0, f4, f5, f6, f7, f8⟩
                  have htake : (l.drop i).take (j + 1 - i) = (l.drop i).take (j - i) ++ [b] := by
                    have e1 : (l.drop i)[j - i]? = some b := by rw [List.getElem?_drop, ← hbj]; congr 1; omega
                    rw [show j + 1 - i = (j - i) + 1 by omega, List.take_succ, e1]; rfl
                  simp (dsimp := false) (implicitDefEqProofs := false) (disch := first | omega | assumption | (simp only [rL, Nat.reduceAdd]; try omega)) only [↓rD, rU, ev, ofConst, ofCell, simprocAttr, rX, List.drop_succ_cons, ↓rF, rG, ne_eq, not_true_eq_false, not_false_eq_true, Int.reduceNe, List.getElem?_cons_zero, List.getElem?_cons_succ, ↓rK, rM, f0, f4, f5, f6, f7, f8]
                  refine bsl_byte Hp.sub_refl fun o8 s5 h5 => ?_
                  simp (dsimp := false) (implicitDefEqProofs := false) (disch := first | omega | assumption | (simp only [rL, Nat.reduceAdd]; try omega)) only [↓rD, rU, ev, ofConst, ofCell, simprocAttr, rX, List.drop_succ_cons, ↓rF, rG, ne_eq, not_true_eq_false, not_false_eq_true, Int.reduceNe, List.getElem?_cons_zero, List.getElem?_cons_succ, ↓rK, rM, f0, f4, f5, f6, f7, f8]
                  have hb1 : [byteAV (Lib.lowerB b)] = [Lib.lowerB b].map byteAV := rfl
                  rw [hb1]
                  refine app_bytes (hown7.mono h5.sub) (by simp; omega) fun o9 s6 h6 => ?_
                  have eacc : ((l.drop i).take (j - i)).map Lib.lowerB ++ [Lib.lowerB b] = ((l.drop i).take (j + 1 - i)).map Lib.lowerB := by rw [htake]; simp
                  rw [eacc] at h6 ⊢
                  simp (dsimp := false) (implicitDefEqProofs := false) (disch := first | omega | assumption | (simp only [rL, Nat.reduceAdd]; try omega)) only [↓rD, rU, ev, ofConst, ofCell, simprocAttr, rX, List.drop_succ_cons, ↓rF, rG, ne_eq, not_true_eq_false, not_false_eq_true, Int.reduceNe, List.getElem?_cons_zero, List.getElem?_cons_succ, ↓rK, rM, f0, f4, f5, f6, N5]
                  refine ⟨⟨j + 1, o9, by omega, by omega, ?_, h6, by simp⟩, by omega⟩
                  intro x hx
                  rw [htake] at hx
                  rcases List.mem_append.1 hx with hx | hx
                  · exact hall x hx
                  · simp at hx; subst hx; exact hw
              · obtain rfl : j = l.length := by omega
                obtain ⟨g1, g2⟩ := fin2 (by rw [List.drop_length]; rfl)
                simp (dsimp := false) (implicitDefEqProofs := false) (disch := first | omega | assumption | (simp only [rL, Nat.reduceAdd]; try omega)) only [↓rD, rU, ev, ofConst, ofCell, simprocAttr, rX, List.drop_succ_cons, ↓rF, rG, ne_eq, not_true_eq_false, not_false_eq_true, Int.reduceNe, List.getElem?_cons_zero, List.getElem?_cons_succ, ↓rK, rM, lenTS, f0, f4, f5, f6, f7, hj]
                rw [g1] at hown7 ⊢
                exact ⟨o7, hown7, by rw [← g2], rfl⟩
          · clear f0 f4 f5 f6 f7
            rintro f s3 ⟨o7, hown7, f0, f4, f5, f6, f7⟩
            simp (dsimp := false) (implicitDefEqProofs := false) (disch := first | omega | assumption | (simp only [rL, Nat.reduceAdd]; try omega)) only [↓rD, rU, ev, ofConst, ofCell, simprocAttr, rX, List.drop_succ_cons, ↓rF, rG, ne_eq, not_true_eq_false, not_false_eq_true, Int.reduceNe, List.getElem?_cons_zero, List.getElem?_cons_succ, ↓rK, rM, f0, f4, f5, f6, f7, rTok, cells_strv, M5]
            refine bsl_own Hp.sub_refl ?_ fun o1 s4 h4 => ?_
            · intro e he; simp at he; subst he; rfl
            simp (dsimp := false) (implicitDefEqProofs := false) (disch := first | omega | assumption | (simp only [rL, Nat.reduceAdd]; try omega)) only [↓rD, rU, ev, ofConst, ofCell, simprocAttr, rX, List.drop_succ_cons, ↓rF, rG, ne_eq, not_true_eq_false, not_false_eq_true, Int.reduceNe, List.getElem?_cons_zero, List.getElem?_cons_succ, ↓rK, rM, f0, f4, f5, f6, f7]
            refine app_own (hown.mono (Hp.sub_trans hown7.sub h4.sub)) TL_len ?_ (by simp [hlenT]; omega) (by simp [hlenT]; omega) fun o4 s5 h5 => ?_
            · intro e he; simp at he; subst he; rfl
            have eacc : TL acc ++ [(⟨1, txt, zTok.num⟩ : Tok).V i] = TL (acc ++ [(⟨1, txt, 0⟩, i)]) := by simp [TL, zTok]
            rw [eacc] at h5 ⊢
            simp (dsimp := false) (implicitDefEqProofs := false) (disch := first | omega | assumption | (simp only [rL, Nat.reduceAdd]; try omega)) only [↓rD, rU, ev, ofConst, ofCell, simprocAttr, rX, List.drop_succ_cons, ↓rF, rG, ne_eq, not_true_eq_false, not_false_eq_true, Int.reduceNe, List.getElem?_cons_zero, List.getElem?_cons_succ, ↓rK, rM, f0, f4, f5, M5]
            have ht : tokP (l.drop i) = .ok (⟨1, txt, 0⟩, txt.length) := by
              rw [htl, tokP, if_pos (by rw [hq]; exact hL), htxt]
            have hpos : 1 ≤ txt.length := (tokP_n hne ht).1
            refine ⟨⟨i + txt.length, acc ++ [(⟨1, txt, 0⟩, i)], o4, by omega, ?_, by simp; omega, h5, rfl, rfl⟩, by omega⟩
            rw [← List.drop_drop, adv hne hsk ht hNi, happ]
        · intro hL
          simp (dsimp := false) (implicitDefEqProofs := false) (disch := first | omega | assumption | (simp only [rL, Nat.reduceAdd]; try omega)) only [↓rD, rU, ev, ofConst, ofCell, simprocAttr, rX, List.drop_succ_cons, ↓rF, rG, ne_eq, not_true_eq_false, not_false_eq_true, Int.reduceNe, List.getElem?_cons_zero, List.getElem?_cons_succ, ↓rK, rM, f0, f4, f5]
          exact hL
        clear f0 f4 f5
        rintro f s2 ⟨hL, rfl, f0, f4, f5, f6⟩
        obtain ⟨isnum, hisnum⟩ : ∃ b, b = (nxt digitR (l.drop i) || (decide ((l.drop i).head? = some 45) && nxt digitR ((l.drop i).drop 1))) := ⟨_, rfl⟩
        have hnD : nxt digitR (l.drop i) = digitR c.toNat := by rw [hq]; rfl
        have hh : (l.drop i).head? = some c := by rw [hq]; rfl
        have hd1 : (l.drop i).drop 1 = r := by rw [hq]; rfl
        rw [hnD, hh, hd1] at hisnum
        rw [awp_seq]
        refine seq_cut (fun f s' => s' = s2 ∧ f 0 = strV l ∧ f 4 = .sl (TL acc) o ∧ f 5 = .v (.int .i64 (i : Nat)) ∧ f 6 = .v (.int .i64 (i : Nat)) ∧ f 121 = .v (.bool isnum)) ?_ ?_
        · simp (dsimp := false) (implicitDefEqProofs := false) (disch := first | omega | assumption | (simp only [rL, Nat.reduceAdd]; try omega)) only [↓rD, rU, ev, ofConst, ofCell, simprocAttr, rX, List.drop_succ_cons, ↓rF, rG, ne_eq, not_true_eq_false, not_false_eq_true, Int.reduceNe, List.getElem?_cons_zero, List.getElem?_cons_succ, ↓rK, rM, f0, f4, f5, f6, hix]
          refine call_intro (rdigit_spec _ _) ?_
          rintro _ s3 ⟨rfl, rfl⟩
          cases hD : digitR c.toNat with
          | true =>
            have : isnum = true := by rw [hisnum, hD]; rfl
            subst this
            simp (dsimp := false) (implicitDefEqProofs := false) (disch := first | omega | assumption | (simp only [rL, Nat.reduceAdd]; try omega)) only [↓rD, rU, ev, ofConst, ofCell, simprocAttr, rX, List.drop_succ_cons, ↓rF, rG, ne_eq, not_true_eq_false, not_false_eq_true, Int.reduceNe, List.getElem?_cons_zero, List.getElem?_cons_succ, ↓rK, rM, f0, f4, f5, f6, hix]
          | false =>
            rw [hD, Bool.false_or] at hisnum
            by_cases h45 : c = 45
            · have h45t : ((c.toNat : Nat) : Int) = 45 := (u8_eq (m := 45) (n := 45) rfl).2 h45
              cases hrr : r with
              | nil =>
                have hz : ¬ ((i : Int) + 1 < (l.length : Int)) := by rw [hrr] at hrl; simp at hrl; omega
                have : isnum = false := by rw [hisnum, hrr]; simp [nxt]
                subst this
                simp (dsimp := false) (implicitDefEqProofs := false) (disch := first | omega | assumption | (simp only [rL, Nat.reduceAdd]; try omega)) only [↓rD, rU, ev, ofConst, ofCell, simprocAttr, rX, List.drop_succ_cons, ↓rF, rG, ne_eq, not_true_eq_false, not_false_eq_true, Int.reduceNe, List.getElem?_cons_zero, List.getElem?_cons_succ, ↓rK, rM, lenTS, f0, f4, f5, f6, hix, hz, h45t]
              | cons d r2 =>
                rw [hrr] at hr hrl
                obtain ⟨hd, _, _⟩ := drop_at hr
                have hixd := ix (n := (i : Int) + 1) hd (by omega)
                have hz : (i : Int) + 1 < (l.length : Int) := by simp at hrl; omega
                simp (dsimp := false) (implicitDefEqProofs := false) (disch := first | omega | assumption | (simp only [rL, Nat.reduceAdd]; try omega)) only [↓rD, rU, ev, ofConst, ofCell, simprocAttr, rX, List.drop_succ_cons, ↓rF, rG, ne_eq, not_true_eq_false, not_false_eq_true, Int.reduceNe, List.getElem?_cons_zero, List.getElem?_cons_succ, ↓rK, rM, lenTS, f0, f4, f5, f6, hix, hz, h45t, hixd]
                refine call_intro (rdigit_spec _ _) ?_
                rintro _ s4 ⟨rfl, rfl⟩
                have : isnum = digitR d.toNat := by rw [hisnum, hrr, h45]; simp [nxt]
                subst this
                simp (dsimp := false) (implicitDefEqProofs := false) (disch := first | omega | assumption | (simp only [rL, Nat.reduceAdd]; try omega)) only [↓rD, rU, ev, ofConst, ofCell, simprocAttr, rX, List.drop_succ_cons, ↓rF, rG, ne_eq, not_true_eq_false, not_false_eq_true, Int.reduceNe, List.getElem?_cons_zero, List.getElem?_cons_succ, ↓rK, rM, lenTS, f0, f4, f5, f6, hix, hz, h45t]
            · have hcI : ¬ ((c.toNat : Nat) : Int) = 45 := fun h => h45 ((u8_eq (m := 45) (n := 45) rfl).1 h)
              have : isnum = false := by rw [hisnum]; simp [h45]
              subst this
              simp (dsimp := false) (implicitDefEqProofs := false) (disch := first | omega | assumption | (simp only [rL, Nat.reduceAdd]; try omega)) only [↓rD, rU, ev, ofConst, ofCell, simprocAttr, rX, List.drop_succ_cons, ↓rF, rG, ne_eq, not_true_eq_false, not_false_eq_true, Int.reduceNe, List.getElem?_cons_zero, List.getElem?_cons_succ, ↓rK, rM, lenTS, f0, f4, f5, f6, hix, hcI]
        clear f0 f4 f5 f6
        rintro f s3 ⟨rfl, f0, f4, f5, f6, f121⟩
        simp (dsimp := false) (implicitDefEqProofs := false) (disch := first | omega | assumption | (simp only [rL, Nat.reduceAdd]; try omega)) only [↓rD, rU, ev, ofConst, ofCell, simprocAttr, rX, List.drop_succ_cons, ↓rF, rG, ne_eq, not_true_eq_false, not_false_eq_true, Int.reduceNe, List.getElem?_cons_zero, List.getElem?_cons_succ, ↓rK, rM, f0, f4, f5, f6, f121]
        refine cond_join (fun f s' => isnum = false ∧ s' = s3 ∧ f 0 = strV l ∧ f 4 = .sl (TL acc) o ∧ f 5 = .v (.int .i64 (i : Nat)) ∧ f 6 = .v (.int .i64 (i : Nat))) ?_ ?_ ?_
        · intro hN
          obtain ⟨m, hm⟩ : ∃ m : Bool, m = decide (c = 45) := ⟨_, rfl⟩
          obtain ⟨k0, hk0⟩ : ∃ k : Nat, k = i + sg (l.drop i) := ⟨_, rfl⟩
          have hsg : sg (l.drop i) = if m then 1 else 0 := by rw [sg, hh, hm]; by_cases h : c = 45 <;> simp [h]
          refine seq_cut (fun f s' => s' = s3 ∧ f 0 = strV l ∧ f 4 = .sl (TL acc) o ∧ f 5 = .v (.int .i64 (i : Nat)) ∧ f 6 = .v (.int .i64 (i : Nat)) ∧ f 9 = .v (.bool m)) ?_ ?_
          · by_cases h45 : c = 45
            · have h45t : ((c.toNat : Nat) : Int) = 45 := (u8_eq (m := 45) (n := 45) rfl).2 h45
              have : m = true := by rw [hm]; simp [h45]
              subst this
              simp (dsimp := false) (implicitDefEqProofs := false) (disch := first | omega | assumption | (simp only [rL, Nat.reduceAdd]; try omega)) only [↓rD, rU, ev, ofConst, ofCell, simprocAttr, rX, List.drop_succ_cons, ↓rF, rG, ne_eq, not_true_eq_false, not_false_eq_true, Int.reduceNe, List.getElem?_cons_zero, List.getElem?_cons_succ, ↓rK, rM, f0, f4, f5, f6, hix, h45t]
            · have hcI : ¬ ((c.toNat : Nat) : Int) = 45 := fun h => h45 ((u8_eq (m := 45) (n := 45) rfl).1 h)
              have : m = false := by rw [hm]; simp [h45]
              subst this
              simp (dsimp := false) (implicitDefEqProofs := false) (disch := first | omega | assumption | (simp only [rL, Nat.reduceAdd]; try omega)) only [↓rD, rU, ev, ofConst, ofCell, simprocAttr, rX, List.drop_succ_cons, ↓rF, rG, ne_eq, not_true_eq_false, not_false_eq_true, Int.reduceNe, List.getElem?_cons_zero, List.getElem?_cons_succ, ↓rK, rM, f0, f4, f5, f6, hix, hcI]
          clear f0 f4 f5 f6 f121
          rintro f s4 ⟨rfl, f0, f4, f5, f6, f9⟩
          refine seq_cut (fun f s' => s' = s4 ∧ f 0 = strV l ∧ f 4 = .sl (TL acc) o ∧ f 5 = .v (.int .i64 (k0 : Nat)) ∧ f 6 = .v (.int .i64 (i : Nat)) ∧ f 9 = .v (.bool m)) ?_ ?_
          · cases m with
            | true =>
              rw [hsg] at hk0
              subst hk0
              simp (dsimp := false) (implicitDefEqProofs := false) (disch := first | omega | assumption | (simp only [rL, Nat.reduceAdd]; try omega)) only [↓rD, rU, ev, ofConst, ofCell, simprocAttr, rX, List.drop_succ_cons, ↓rF, rG, ne_eq, not_true_eq_false, not_false_eq_true, Int.reduceNe, List.getElem?_cons_zero, List.getElem?_cons_succ, ↓rK, rM, f0, f4, f5, f6, f9]
              simp
            | false =>
              rw [hsg] at hk0
              subst hk0
              simp (dsimp := false) (implicitDefEqProofs := false) (disch := first | omega | assumption | (simp only [rL, Nat.reduceAdd]; try omega)) only [↓rD, rU, ev, ofConst, ofCell, simprocAttr, rX, List.drop_succ_cons, ↓rF, rG, ne_eq, not_true_eq_false, not_false_eq_true, Int.reduceNe, List.getElem?_cons_zero, List.getElem?_cons_succ, ↓rK, rM, f0, f4, f5, f6, f9]
          clear f0 f4 f5 f6 f9
          rintro f s5 ⟨rfl, f0, f4, f5, f6, f9⟩
          refine seq_cut (fun f s' => s' = s5 ∧ f 0 = strV l ∧ f 4 = .sl (TL acc) o ∧ f 5 = .v (.int .i64 (k0 : Nat)) ∧ f 6 = .v (.int .i64 (i : Nat)) ∧ f 9 = .v (.bool m) ∧ f 10 = .v (.int .u64 0) ∧ f 11 = .v (.bool false)) ?_ ?_
          · simp (dsimp := false) (implicitDefEqProofs := false) (disch := first | omega | assumption | (simp only [rL, Nat.reduceAdd]; try omega)) only [↓rD, rU, ev, ofConst, ofCell, simprocAttr, rX, List.drop_succ_cons, ↓rF, rG, ne_eq, not_true_eq_false, not_false_eq_true, Int.reduceNe, List.getElem?_cons_zero, List.getElem?_cons_succ, ↓rK, rM, f0, f4, f5, f6, f9]
          clear f0 f4 f5 f6 f9
          rintro f s6 ⟨rfl, f0, f4, f5, f6, f9, f10, f11⟩
          obtain ⟨ds, hds⟩ : ∃ x, x = tw digitR (l.drop k0) := ⟨_, rfl⟩
          have hk0l : k0 ≤ l.length := by rw [hk0, hsg]; split <;> omega
          have hdl : (l.drop k0).length = l.length - k0 := List.length_drop
          have hdsl : ds.length ≤ l.length - k0 := by rw [hds, ← hdl]; exact tw_le _ _
          refine seq_cut (fun f s' => s' = s6 ∧ f 0 = strV l ∧ f 4 = .sl (TL acc) o ∧ f 5 = .v (.int .i64 ((k0 + ds.length : Nat) : Int)) ∧ f 6 = .v (.int .i64 (i : Nat)) ∧ f 9 = .v (.bool m) ∧ f 10 = .v (.int .u64 ((if limOf m < dval 0 ds then 0 else dval 0 ds : Nat) : Int)) ∧ f 11 = .v (.bool (decide (limOf m < dval 0 ds)))) ?_ ?_
          · simp (dsimp := false) (implicitDefEqProofs := false) (disch := first | omega | assumption | (simp only [rL, Nat.reduceAdd]; try omega)) only [↓rD, rU, ev, ofConst, ofCell, simprocAttr, rX, List.drop_succ_cons, ↓rF, rG, ne_eq, not_true_eq_false, not_false_eq_true, Int.reduceNe, List.getElem?_cons_zero, List.getElem?_cons_succ, ↓rK, rM, f0, f4, f5, f6, f9, f10, f11]
            refine loop_intro (fun f s' => ∃ j : Nat, k0 ≤ j ∧ j ≤ l.length ∧ (∀ b ∈ (l.drop k0).take (j - k0), digitR b.toNat = true) ∧ s' = s6 ∧ f 0 = strV l ∧ f 4 = .sl (TL acc) o ∧ f 5 = .v (.int .i64 (j : Nat)) ∧ f 6 = .v (.int .i64 (i : Nat)) ∧ f 9 = .v (.bool m) ∧
                f 10 = .v (.int .u64 ((if limOf m < dval 0 ((l.drop k0).take (j - k0)) then 0 else dval 0 ((l.drop k0).take (j - k0)) : Nat) : Int)) ∧ f 11 = .v (.bool (decide (limOf m < dval 0 ((l.drop k0).take (j - k0))))))
              (fun f _ => match f 5 with | .v (.int _ n) => l.length - n.toNat | _ => 0) ⟨k0, by omega, by omega, by simp, rfl, ?_⟩ ?_
            · simp only [Nat.sub_self, List.take_zero]
              refine ⟨f0, f4, f5, f6, f9, ?_, ?_⟩
              · rw [f10, if_neg (by unfold limOf; simp [dval])]; rfl
              · rw [f11]; unfold limOf; cases m <;> rfl
            · clear f0 f4 f5 f6 f9 f10 f11
              rintro f s7 ⟨j, hij, hjl, hall, rfl, f0, f4, f5, f6, f9, f10, f11⟩
              have fin : nxt digitR (l.drop j) = false → (l.drop k0).take (j - k0) = ds ∧ j = k0 + ds.length := fun h => by
                have e1 : l.drop k0 = (l.drop k0).take (j - k0) ++ l.drop j := by
                  have : l.drop j = (l.drop k0).drop (j - k0) := by rw [List.drop_drop]; congr 1; omega
                  rw [this, List.take_append_drop]
                have h1 : (l.drop k0).take (j - k0) = ds := by
                  rw [hds]; conv => rhs; rw [e1]
                  rw [tw_app hall h]
                refine ⟨h1, ?_⟩
                rw [← h1, List.length_take, hdl]; omega
              by_cases hj : (j : Int) < (l.length : Int)
              · obtain ⟨b, r3, hq3⟩ : ∃ c r, l.drop j = c :: r := ⟨_, _, List.drop_eq_getElem_cons (by omega)⟩
                obtain ⟨hbj, hr3, _⟩ := drop_at hq3
                have hixb := ix (n := (j : Int)) hbj rfl
                simp (dsimp := false) (implicitDefEqProofs := false) (disch := first | omega | assumption | (simp only [rL, Nat.reduceAdd]; try omega)) only [↓rD, rU, ev, ofConst, ofCell, simprocAttr, rX, List.drop_succ_cons, ↓rF, rG, ne_eq, not_true_eq_false, not_false_eq_true, Int.reduceNe, List.getElem?_cons_zero, List.getElem?_cons_succ, ↓rK, rM, lenTS, f0, f4, f5, f6, f9, f10, f11, hj, hixb]
                refine call_intro (rdigit_spec _ _) ?_
                rintro _ s8 ⟨rfl, rfl⟩
                simp (dsimp := false) (implicitDefEqProofs := false) (disch := first | omega | assumption | (simp only [rL, Nat.reduceAdd]; try omega)) only [↓rD, rU, ev, ofConst, ofCell, simprocAttr, rX, List.drop_succ_cons, ↓rF, rG, ne_eq, not_true_eq_false, not_false_eq_true, Int.reduceNe, List.getElem?_cons_zero, List.getElem?_cons_succ, ↓rK, rM]
                generalize hDD : dval 0 ((l.drop k0).take (j - k0)) = D at f10 f11
                obtain ⟨n, hn⟩ : ∃ n, n = (if limOf m < D then 0 else D) := ⟨_, rfl⟩
                rw [← hn] at f10
                obtain ⟨ov, hov⟩ : ∃ b, b = decide (limOf m < D) := ⟨_, rfl⟩
                rw [← hov] at f11
                refine cond_join (fun f s' => digitR b.toNat = true ∧ s' = s8 ∧ f 0 = strV l ∧ f 4 = .sl (TL acc) o ∧ f 5 = .v (.int .i64 (j : Nat)) ∧ f 6 = .v (.int .i64 (i : Nat)) ∧ f 9 = .v (.bool m) ∧ f 10 = .v (.int .u64 (n : Nat)) ∧ f 11 = .v (.bool ov)) ?_ ?_ ?_
                · intro hw
                  simp (dsimp := false) (implicitDefEqProofs := false) (disch := first | omega | assumption | (simp only [rL, Nat.reduceAdd]; try omega)) only [↓rD, rU, ev, ofConst, ofCell, simprocAttr, rX, List.drop_succ_cons, ↓rF, rG, ne_eq, not_true_eq_false, not_false_eq_true, Int.reduceNe, List.getElem?_cons_zero, List.getElem?_cons_succ, ↓rK, rM, f0, f4, f5, f6, f9, f10, f11]
                  exact hw
                · intro hw
                  obtain ⟨g1, g2⟩ := fin (by rw [hq3]; exact hw)
                  rw [g1] at hDD
                  simp (dsimp := false) (implicitDefEqProofs := false) (disch := first | omega | assumption | (simp only [rL, Nat.reduceAdd]; try omega)) only [↓rD, rU, ev, ofConst, ofCell, simprocAttr, rX, List.drop_succ_cons, ↓rF, rG, ne_eq, not_true_eq_false, not_false_eq_true, Int.reduceNe, List.getElem?_cons_zero, List.getElem?_cons_succ, ↓rK, rM, f0, f4, f5, f6, f9, f10, f11]
                  rw [hDD, ← hn, ← hov, g2]
                  exact ⟨rfl, rfl, rfl⟩
                · have N5 := f5
                  clear f0 f4 f5 f6 f9 f10 f11
                  rintro f s8 ⟨hw, rfl, f0, f4, f5, f6, f9, f10, f11⟩
                  have hb1 := digitR_iff.1 hw
                  obtain ⟨d, hd⟩ : ∃ d : Nat, d = b.toNat - 48 := ⟨_, rfl⟩
                  rw [awp_block]
                  refine seq_cut (fun f s' => s' = s8 ∧ f 0 = strV l ∧ f 4 = .sl (TL acc) o ∧ f 5 = .v (.int .i64 (j : Nat)) ∧ f 6 = .v (.int .i64 (i : Nat)) ∧ f 9 = .v (.bool m) ∧ f 10 = .v (.int .u64 (n : Nat)) ∧ f 11 = .v (.bool ov) ∧ f 12 = .v (.int .u64 (d : Nat))) ?_ ?_
                  · have gs : binV .sub (.int .u8 (b.toNat : Int)) (.int .u8 48) = some (.int .u8 (d : Int)) := by
                      simp only [binV, isShift, binInt, Bool.false_eq_true, if_false, if_true]
                      rw [wrap_u8 (by omega) (by omega)]; congr 2; omega
                    have gd : IntKind.u64.wrap (d : Int) = (d : Int) := wrap_u64 (by omega) (by omega)
                    simp (dsimp := false) (implicitDefEqProofs := false) (disch := first | omega | assumption | (simp only [rL, Nat.reduceAdd]; try omega)) only [↓rD, rU, ev, ofConst, ofCell, simprocAttr, rX, List.drop_succ_cons, ↓rF, rG, ne_eq, not_true_eq_false, not_false_eq_true, Int.reduceNe, List.getElem?_cons_zero, List.getElem?_cons_succ, ↓rK, rM, f0, f4, f5, f6, f9, f10, f11, hixb, gs, gd]
                  clear f0 f4 f5 f6 f9 f10 f11
                  rintro f s8 ⟨rfl, f0, f4, f5, f6, f9, f10, f11, f12⟩
                  refine seq_cut (fun f s' => s' = s8 ∧ f 0 = strV l ∧ f 4 = .sl (TL acc) o ∧ f 5 = .v (.int .i64 (j : Nat)) ∧ f 6 = .v (.int .i64 (i : Nat)) ∧ f 9 = .v (.bool m) ∧ f 10 = .v (.int .u64 (n : Nat)) ∧ f 11 = .v (.bool (ov || decide (922337203685477580 < n))) ∧ f 12 = .v (.int .u64 (d : Nat))) ?_ ?_
                  · by_cases hA : (922337203685477580 : Int) < (n : Int)
                    · have hA' : 922337203685477580 < n := by omega
                      simp (dsimp := false) (implicitDefEqProofs := false) (disch := first | omega | assumption | (simp only [rL, Nat.reduceAdd]; try omega)) only [↓rD, rU, ev, ofConst, ofCell, simprocAttr, rX, List.drop_succ_cons, ↓rF, rG, ne_eq, not_true_eq_false, not_false_eq_true, Int.reduceNe, List.getElem?_cons_zero, List.getElem?_cons_succ, ↓rK, rM, f0, f4, f5, f6, f9, f10, f11, f12, hA]
                      simp [hA']
                    · have hA' : ¬ 922337203685477580 < n := by omega
                      simp (dsimp := false) (implicitDefEqProofs := false) (disch := first | omega | assumption | (simp only [rL, Nat.reduceAdd]; try omega)) only [↓rD, rU, ev, ofConst, ofCell, simprocAttr, rX, List.drop_succ_cons, ↓rF, rG, ne_eq, not_true_eq_false, not_false_eq_true, Int.reduceNe, List.getElem?_cons_zero, List.getElem?_cons_succ, ↓rK, rM, f0, f4, f5, f6, f9, f10, f11, f12, hA]
                      simp [hA']
                  clear f0 f4 f5 f6 f9 f10 f11 f12
                  rintro f s8 ⟨rfl, f0, f4, f5, f6, f9, f10, f11, f12⟩
                  obtain ⟨X, hX⟩ : ∃ X : Nat, X = (10 * n + d) % 18446744073709551616 := ⟨_, rfl⟩
                  generalize hov1 : (ov || decide (922337203685477580 < n)) = ov1 at f11
                  refine seq_cut (fun f s' => s' = s8 ∧ f 0 = strV l ∧ f 4 = .sl (TL acc) o ∧ f 5 = .v (.int .i64 (j : Nat)) ∧ f 6 = .v (.int .i64 (i : Nat)) ∧ f 9 = .v (.bool m) ∧ f 10 = .v (.int .u64 (X : Nat)) ∧ f 11 = .v (.bool ov1)) ?_ ?_
                  · have gx : IntKind.u64.wrap (IntKind.u64.wrap (10 * (n : Int)) + (d : Int)) = (X : Int) := by rw [wrap_u64_mod, wrap_u64_mod, hX]; omega
                    simp (dsimp := false) (implicitDefEqProofs := false) (disch := first | omega | assumption | (simp only [rL, Nat.reduceAdd]; try omega)) only [↓rD, rU, ev, ofConst, ofCell, simprocAttr, rX, List.drop_succ_cons, ↓rF, rG, ne_eq, not_true_eq_false, not_false_eq_true, Int.reduceNe, List.getElem?_cons_zero, List.getElem?_cons_succ, ↓rK, rM, f0, f4, f5, f6, f9, f10, f11, f12, gx]
                  clear f0 f4 f5 f6 f9 f10 f11 f12
                  rintro f s8 ⟨rfl, f0, f4, f5, f6, f9, f10, f11⟩
                  obtain ⟨ov2, hov2⟩ : ∃ b, b = (ov1 || (decide (9223372036854775808 < X) || (!m && decide (9223372036854775807 < X)))) := ⟨_, rfl⟩
                  refine seq_cut (fun f s' => s' = s8 ∧ f 0 = strV l ∧ f 4 = .sl (TL acc) o ∧ f 5 = .v (.int .i64 (j : Nat)) ∧ f 6 = .v (.int .i64 (i : Nat)) ∧ f 9 = .v (.bool m) ∧ f 10 = .v (.int .u64 (X : Nat)) ∧ f 11 = .v (.bool ov2)) ?_ ?_
                  · by_cases h1 : (9223372036854775808 : Int) < (X : Int)
                    · have h1' : 9223372036854775808 < X := by omega
                      have : ov2 = true := by rw [hov2]; simp [h1']
                      subst this
                      simp (dsimp := false) (implicitDefEqProofs := false) (disch := first | omega | assumption | (simp only [rL, Nat.reduceAdd]; try omega)) only [↓rD, rU, ev, ofConst, ofCell, simprocAttr, rX, List.drop_succ_cons, ↓rF, rG, ne_eq, not_true_eq_false, not_false_eq_true, Int.reduceNe, List.getElem?_cons_zero, List.getElem?_cons_succ, ↓rK, rM, f0, f4, f5, f6, f9, f10, f11, h1]
                    · have h1' : ¬ 9223372036854775808 < X := by omega
                      cases m with
                      | true =>
                        have : ov2 = ov1 := by rw [hov2]; simp [h1']
                        subst this
                        simp (dsimp := false) (implicitDefEqProofs := false) (disch := first | omega | assumption | (simp only [rL, Nat.reduceAdd]; try omega)) only [↓rD, rU, ev, ofConst, ofCell, simprocAttr, rX, List.drop_succ_cons, ↓rF, rG, ne_eq, not_true_eq_false, not_false_eq_true, Int.reduceNe, List.getElem?_cons_zero, List.getElem?_cons_succ, ↓rK, rM, f0, f4, f5, f6, f9, f10, f11, h1]
                      | false =>
                        by_cases h2 : (9223372036854775807 : Int) < (X : Int)
                        · have h2' : 9223372036854775807 < X := by omega
                          have : ov2 = true := by rw [hov2]; simp [h2']
                          subst this
                          simp (dsimp := false) (implicitDefEqProofs := false) (disch := first | omega | assumption | (simp only [rL, Nat.reduceAdd]; try omega)) only [↓rD, rU, ev, ofConst, ofCell, simprocAttr, rX, List.drop_succ_cons, ↓rF, rG, ne_eq, not_true_eq_false, not_false_eq_true, Int.reduceNe, List.getElem?_cons_zero, List.getElem?_cons_succ, ↓rK, rM, f0, f4, f5, f6, f9, f10, f11, h1, h2]
                        · have h2' : ¬ 9223372036854775807 < X := by omega
                          have : ov2 = ov1 := by rw [hov2]; simp [h1', h2']
                          subst this
                          simp (dsimp := false) (implicitDefEqProofs := false) (disch := first | omega | assumption | (simp only [rL, Nat.reduceAdd]; try omega)) only [↓rD, rU, ev, ofConst, ofCell, simprocAttr, rX, List.drop_succ_cons, ↓rF, rG, ne_eq, not_true_eq_false, not_false_eq_true, Int.reduceNe, List.getElem?_cons_zero, List.getElem?_cons_succ, ↓rK, rM, f0, f4, f5, f6, f9, f10, f11, h1, h2]
                  clear f0 f4 f5 f6 f9 f10 f11
                  rintro f s8 ⟨rfl, f0, f4, f5, f6, f9, f10, f11⟩
                  obtain ⟨Y, hY⟩ : ∃ Y : Nat, Y = if ov2 then 0 else X := ⟨_, rfl⟩
                  refine seq_cut (fun f s' => s' = s8 ∧ f 0 = strV l ∧ f 4 = .sl (TL acc) o ∧ f 5 = .v (.int .i64 (j : Nat)) ∧ f 6 = .v (.int .i64 (i : Nat)) ∧ f 9 = .v (.bool m) ∧ f 10 = .v (.int .u64 (Y : Nat)) ∧ f 11 = .v (.bool ov2)) ?_ ?_
                  · clear hov2
                    cases ov2 with
                    | true =>
                      have : Y = 0 := hY
                      subst this
                      simp (dsimp := false) (implicitDefEqProofs := false) (disch := first | omega | assumption | (simp only [rL, Nat.reduceAdd]; try omega)) only [↓rD, rU, ev, ofConst, ofCell, simprocAttr, rX, List.drop_succ_cons, ↓rF, rG, ne_eq, not_true_eq_false, not_false_eq_true, Int.reduceNe, List.getElem?_cons_zero, List.getElem?_cons_succ, ↓rK, rM, f0, f4, f5, f6, f9, f10, f11]
                    | false =>
                      have : Y = X := hY
                      subst this
                      simp (dsimp := false) (implicitDefEqProofs := false) (disch := first | omega | assumption | (simp only [rL, Nat.reduceAdd]; try omega)) only [↓rD, rU, ev, ofConst, ofCell, simprocAttr, rX, List.drop_succ_cons, ↓rF, rG, ne_eq, not_true_eq_false, not_false_eq_true, Int.reduceNe, List.getElem?_cons_zero, List.getElem?_cons_succ, ↓rK, rM, f0, f4, f5, f6, f9, f10, f11]
                  clear f0 f4 f5 f6 f9 f10 f11
                  rintro f s8 ⟨rfl, f0, f4, f5, f6, f9, f10, f11⟩
                  simp (dsimp := false) (implicitDefEqProofs := false) (disch := first | omega | assumption | (simp only [rL, Nat.reduceAdd]; try omega)) only [↓rD, rU, ev, ofConst, ofCell, simprocAttr, rX, List.drop_succ_cons, ↓rF, rG, ne_eq, not_true_eq_false, not_false_eq_true, Int.reduceNe, List.getElem?_cons_zero, List.getElem?_cons_succ, ↓rK, rM, f0, f4, f5, f6, f9, f10, f11, N5]
                  have htake : (l.drop k0).take (j + 1 - k0) = (l.drop k0).take (j - k0) ++ [b] := by
                    have e1 : (l.drop k0)[j - k0]? = some b := by rw [List.getElem?_drop, ← hbj]; congr 1; omega
                    rw [show j + 1 - k0 = (j - k0) + 1 by omega, List.take_succ, e1]; rfl
                  have hD2 : dval 0 ((l.drop k0).take (j + 1 - k0)) = D * 10 + d := by rw [htake, dval_snoc, hDD, hd]
                  obtain ⟨q1, q2⟩ := over_step (m := m) (D := D) (d := d) (by omega) n X hn hX
                  have q3 : ov2 = decide (limOf m < D * 10 + d) := by rw [hov2, ← hov1, hov, q1]
                  have q4 : Y = if limOf m < D * 10 + d then 0 else D * 10 + d := by
                    rw [hY, q3]
                    by_cases h : limOf m < D * 10 + d
                    · simp [h]
                    · simp only [h, decide_false, Bool.false_eq_true, if_false]
                      exact q2.resolve_left h
                  refine ⟨⟨j + 1, by omega, by omega, ?_, ?_⟩, by omega⟩
                  · intro x hx
                    rw [htake] at hx
                    rcases List.mem_append.1 hx with hx | hx
                    · exact hall x hx
                    · simp at hx; subst hx; exact hw
                  · rw [hD2, ← q4, ← q3]
                    simp
              · obtain rfl : j = l.length := by omega
                obtain ⟨g1, g2⟩ := fin (by rw [List.drop_length]; rfl)
                simp (dsimp := false) (implicitDefEqProofs := false) (disch := first | omega | assumption | (simp only [rL, Nat.reduceAdd]; try omega)) only [↓rD, rU, ev, ofConst, ofCell, simprocAttr, rX, List.drop_succ_cons, ↓rF, rG, ne_eq, not_true_eq_false, not_false_eq_true, Int.reduceNe, List.getElem?_cons_zero, List.getElem?_cons_succ, ↓rK, rM, lenTS, f0, f4, f5, f6, f9, f10, f11, hj]
                rw [g1, ← g2]
                exact ⟨rfl, rfl, rfl⟩
          clear f0 f4 f5 f6 f9 f10 f11
          rintro f s7 ⟨rfl, f0, f4, f5, f6, f9, f10, f11⟩
          have hk0d : (l.drop i).drop (sg (l.drop i)) = l.drop k0 := by rw [List.drop_drop, hk0]
          have hnd2 : nDig (l.drop i) = ds.length := by rw [nDig, hk0d, hds]
          have hrest : (l.drop i).drop (sg (l.drop i) + nDig (l.drop i)) = l.drop (k0 + ds.length) := by rw [List.drop_drop, hnd2, hk0]; congr 1; omega
          have hneg : decide ((l.drop i).head? = some 45) = m := by rw [hh, hm]; simp
          have htok : tokP (l.drop i) = numP (l.drop i) := by
            have hL' : nxt letterR (l.drop i) = false := by rw [hq]; exact hL
            rw [tokP, hL', if_neg (by simp), hnD, hh, hd1, ← hisnum, hN, if_pos rfl]
          have hnum : numP (l.drop i) = if nxt tailR (l.drop (k0 + ds.length)) = true then .error 2 else
              match numV m (dval 0 ds) with
              | .ok v => .ok (⟨2, itoaS v, v⟩, sg (l.drop i) + nDig (l.drop i))
              | .error e => .error e := by
            rw [numP, hrest, hk0d, hneg, ← hds]
            cases numV m (dval 0 ds) <;> rfl
          have hkl : k0 + ds.length ≤ l.length := by omega
          have herr : ∀ e, tokP (l.drop i) = .error e → lexQ l.length l = .error e := fun e h => by rw [← happ, lexQ_err hne hsk h]; rfl
          generalize hD : dval 0 ds = D at *
          obtain ⟨tl, htl⟩ : ∃ b, b = nxt tailR (l.drop (k0 + ds.length)) := ⟨_, rfl⟩
          refine seq_cut (fun f s' => tl = false ∧ s' = s7 ∧ f 0 = strV l ∧ f 4 = .sl (TL acc) o ∧ f 5 = .v (.int .i64 ((k0 + ds.length : Nat) : Int)) ∧ f 6 = .v (.int .i64 (i : Nat)) ∧ f 9 = .v (.bool m) ∧ f 10 = .v (.int .u64 ((if limOf m < D then 0 else D : Nat) : Int)) ∧ f 11 = .v (.bool (decide (limOf m < D)))) ?_ ?_
          · by_cases hj : ((k0 + ds.length : Nat) : Int) < (l.length : Int)
            · obtain ⟨b, r3, hq3⟩ : ∃ c r, l.drop (k0 + ds.length) = c :: r := ⟨_, _, List.drop_eq_getElem_cons (by omega)⟩
              obtain ⟨hbj, hr3, _⟩ := drop_at hq3
              have hixb := ix (n := ((k0 + ds.length : Nat) : Int)) hbj rfl
              have htl2 : tl = tailR b.toNat := by rw [htl, hq3]; rfl
              by_cases h45 : b = 45
              · have h45t : ((b.toNat : Nat) : Int) = 45 := (u8_eq (m := 45) (n := 45) rfl).2 h45
                have : tl = true := by rw [htl2]; simp [tailR, h45t]
                subst this
                simp (dsimp := false) (implicitDefEqProofs := false) (disch := first | omega | assumption | (simp only [rL, Nat.reduceAdd]; try omega)) only [↓rD, rU, ev, ofConst, ofCell, simprocAttr, rX, List.drop_succ_cons, ↓rF, rG, ne_eq, not_true_eq_false, not_false_eq_true, Int.reduceNe, List.getElem?_cons_zero, List.getElem?_cons_succ, ↓rK, rM, lenTS, f0, f4, f5, f6, f9, f10, f11, hj, hixb, h45t]
                exact ⟨_, Hp.sub_refl, by rw [herr 2 (by rw [htok, hnum, if_pos htl.symm])]; exact ⟨hown.sub, rfl⟩⟩
              · have hcI : ¬ ((b.toNat : Nat) : Int) = 45 := fun h => h45 ((u8_eq (m := 45) (n := 45) rfl).1 h)
                have htl3 : tl = wordR b.toNat := by rw [htl2]; simp [tailR, hcI]
                simp (dsimp := false) (implicitDefEqProofs := false) (disch := first | omega | assumption | (simp only [rL, Nat.reduceAdd]; try omega)) only [↓rD, rU, ev, ofConst, ofCell, simprocAttr, rX, List.drop_succ_cons, ↓rF, rG, ne_eq, not_true_eq_false, not_false_eq_true, Int.reduceNe, List.getElem?_cons_zero, List.getElem?_cons_succ, ↓rK, rM, lenTS, f0, f4, f5, f6, f9, f10, f11, hj, hixb, hcI]
                refine call_intro (rword_spec _ _) ?_
                rintro _ s8 ⟨rfl, rfl⟩
                rw [← htl3]
                cases tl with
                | true =>
                  simp (dsimp := false) (implicitDefEqProofs := false) (disch := first | omega | assumption | (simp only [rL, Nat.reduceAdd]; try omega)) only [↓rD, rU, ev, ofConst, ofCell, simprocAttr, rX, List.drop_succ_cons, ↓rF, rG, ne_eq, not_true_eq_false, not_false_eq_true, Int.reduceNe, List.getElem?_cons_zero, List.getElem?_cons_succ, ↓rK, rM, lenTS, f0, f4, f5, f6, f9, f10, f11]
                  exact ⟨_, Hp.sub_refl, by rw [herr 2 (by rw [htok, hnum, if_pos htl.symm])]; exact ⟨hown.sub, rfl⟩⟩
                | false =>
                  simp (dsimp := false) (implicitDefEqProofs := false) (disch := first | omega | assumption | (simp only [rL, Nat.reduceAdd]; try omega)) only [↓rD, rU, ev, ofConst, ofCell, simprocAttr, rX, List.drop_succ_cons, ↓rF, rG, ne_eq, not_true_eq_false, not_false_eq_true, Int.reduceNe, List.getElem?_cons_zero, List.getElem?_cons_succ, ↓rK, rM, lenTS, f0, f4, f5, f6, f9, f10, f11]
            · have : tl = false := by rw [htl, List.drop_of_length_le (by omega)]; rfl
              subst this
              simp (dsimp := false) (implicitDefEqProofs := false) (disch := first | omega | assumption | (simp only [rL, Nat.reduceAdd]; try omega)) only [↓rD, rU, ev, ofConst, ofCell, simprocAttr, rX, List.drop_succ_cons, ↓rF, rG, ne_eq, not_true_eq_false, not_false_eq_true, Int.reduceNe, List.getElem?_cons_zero, List.getElem?_cons_succ, ↓rK, rM, lenTS, f0, f4, f5, f6, f9, f10, f11, hj]
          clear f0 f4 f5 f6 f9 f10 f11
          rintro f s8 ⟨ht0, rfl, f0, f4, f5, f6, f9, f10, f11⟩
          rw [← htl, ht0, if_neg (by simp)] at hnum
          refine seq_cut (fun f s' => ¬ limOf m < D ∧ s' = s8 ∧ f 0 = strV l ∧ f 4 = .sl (TL acc) o ∧ f 5 = .v (.int .i64 ((k0 + ds.length : Nat) : Int)) ∧ f 6 = .v (.int .i64 (i : Nat)) ∧ f 9 = .v (.bool m) ∧ f 10 = .v (.int .u64 (D : Nat))) ?_ ?_
          · by_cases hov : limOf m < D
            · have hv : numV m D = .error 7 := by
                unfold limOf at hov; unfold numV
                cases m <;> simp only [Bool.false_eq_true, if_false, if_true] at hov ⊢ <;> rw [if_neg (by omega)]
              rw [hv] at hnum
              simp (dsimp := false) (implicitDefEqProofs := false) (disch := first | omega | assumption | (simp only [rL, Nat.reduceAdd]; try omega)) only [↓rD, rU, ev, ofConst, ofCell, simprocAttr, rX, List.drop_succ_cons, ↓rF, rG, ne_eq, not_true_eq_false, not_false_eq_true, Int.reduceNe, List.getElem?_cons_zero, List.getElem?_cons_succ, ↓rK, rM, f0, f4, f5, f6, f9, f10, f11, hov, decide_true]
              exact ⟨_, Hp.sub_refl, by rw [herr 7 (by rw [htok, hnum])]; exact ⟨hown.sub, rfl⟩⟩
            · rw [if_neg hov] at f10
              simp (dsimp := false) (implicitDefEqProofs := false) (disch := first | omega | assumption | (simp only [rL, Nat.reduceAdd]; try omega)) only [↓rD, rU, ev, ofConst, ofCell, simprocAttr, rX, List.drop_succ_cons, ↓rF, rG, ne_eq, not_true_eq_false, not_false_eq_true, Int.reduceNe, List.getElem?_cons_zero, List.getElem?_cons_succ, ↓rK, rM, f0, f4, f5, f6, f9, f10, f11, hov, decide_false]
          clear f0 f4 f5 f6 f9 f10 f11
          rintro f s8 ⟨hov, rfl, f0, f4, f5, f6, f9, f10⟩
          obtain ⟨v, hv⟩ : ∃ v : Int, v = if m then -(D : Int) else (D : Int) := ⟨_, rfl⟩
          have hvn : numV m D = .ok v := by
            unfold limOf at hov; unfold numV
            cases m <;> simp only [Bool.false_eq_true, if_false, if_true] at hov hv ⊢ <;> rw [if_pos (by omega), hv]
          obtain ⟨hv0, hv1⟩ := numV_ok hvn
          rw [hvn] at hnum
          refine seq_cut (fun f s' => s' = s8 ∧ f 0 = strV l ∧ f 4 = .sl (TL acc) o ∧ f 5 = .v (.int .i64 ((k0 + ds.length : Nat) : Int)) ∧ f 6 = .v (.int .i64 (i : Nat)) ∧ f 9 = .v (.bool m) ∧ f 13 = .v (.int .i64 (IntKind.i64.wrap (D : Int)))) ?_ ?_
          · simp (dsimp := false) (implicitDefEqProofs := false) (disch := first | omega | assumption | (simp only [rL, Nat.reduceAdd]; try omega)) only [↓rD, rU, ev, ofConst, ofCell, simprocAttr, rX, List.drop_succ_cons, ↓rF, rG, ne_eq, not_true_eq_false, not_false_eq_true, Int.reduceNe, List.getElem?_cons_zero, List.getElem?_cons_succ, ↓rK, rM, f0, f4, f5, f6, f9, f10]
          clear f0 f4 f5 f6 f9 f10
          rintro f s8 ⟨rfl, f0, f4, f5, f6, f9, f13⟩
          refine seq_cut (fun f s' => s' = s8 ∧ f 0 = strV l ∧ f 4 = .sl (TL acc) o ∧ f 5 = .v (.int .i64 ((k0 + ds.length : Nat) : Int)) ∧ f 6 = .v (.int .i64 (i : Nat)) ∧ f 13 = .v (.int .i64 v)) ?_ ?_
          · unfold limOf at hov
            cases m with
            | true =>
              have w1 : unV .neg (.int .i64 (IntKind.i64.wrap (D : Int))) = some (.int .i64 v) := by
                simp only [unV]; rw [hv, if_pos rfl]; congr 2
                rw [if_pos rfl] at hov
                by_cases hE : D = 9223372036854775808
                · subst hE; rfl
                · rw [wrap_i64 (n := (D : Int)) (by omega) (by omega), wrap_i64 (by omega) (by omega)]; omega
              simp (dsimp := false) (implicitDefEqProofs := false) (disch := first | omega | assumption | (simp only [rL, Nat.reduceAdd]; try omega)) only [↓rD, rU, ev, ofConst, ofCell, simprocAttr, rX, List.drop_succ_cons, ↓rF, rG, ne_eq, not_true_eq_false, not_false_eq_true, Int.reduceNe, List.getElem?_cons_zero, List.getElem?_cons_succ, ↓rK, rM, f0, f4, f5, f6, f9, f13, w1]
            | false =>
              have w1 : IntKind.i64.wrap (D : Int) = v := by
                simp only [Bool.false_eq_true, if_false] at hov hv
                rw [hv, wrap_i64 (by omega) (by omega)]
              rw [w1] at f13
              simp (dsimp := false) (implicitDefEqProofs := false) (disch := first | omega | assumption | (simp only [rL, Nat.reduceAdd]; try omega)) only [↓rD, rU, ev, ofConst, ofCell, simprocAttr, rX, List.drop_succ_cons, ↓rF, rG, ne_eq, not_true_eq_false, not_false_eq_true, Int.reduceNe, List.getElem?_cons_zero, List.getElem?_cons_succ, ↓rK, rM, f0, f4, f5, f6, f9, f13]
          clear f0 f4 f5 f6 f9 f13
          rintro f s8 ⟨rfl, f0, f4, f5, f6, f13⟩
          simp (dsimp := false) (implicitDefEqProofs := false) (disch := first | omega | assumption | (simp only [rL, Nat.reduceAdd]; try omega)) only [↓rD, rU, ev, ofConst, ofCell, simprocAttr, rX, List.drop_succ_cons, ↓rF, rG, ne_eq, not_true_eq_false, not_false_eq_true, Int.reduceNe, List.getElem?_cons_zero, List.getElem?_cons_succ, ↓rK, rM, f0, f4, f5, f6, f13]
          refine call_intro (Digits_spec v hv0 (by omega) _) ?_
          rintro _ s9 ⟨h9, rfl⟩
          simp (dsimp := false) (implicitDefEqProofs := false) (disch := first | omega | assumption | (simp only [rL, Nat.reduceAdd]; try omega)) only [↓rD, rU, ev, ofConst, ofCell, simprocAttr, rX, List.drop_succ_cons, ↓rF, rG, ne_eq, not_true_eq_false, not_false_eq_true, Int.reduceNe, List.getElem?_cons_zero, List.getElem?_cons_succ, ↓rK, rM, f0, f4, f5, f6, f13, rTok, cells_strv]
          refine bsl_own Hp.sub_refl ?_ fun o1 s4 h4 => ?_
          · intro e he; simp at he; subst he; rfl
          simp (dsimp := false) (implicitDefEqProofs := false) (disch := first | omega | assumption | (simp only [rL, Nat.reduceAdd]; try omega)) only [↓rD, rU, ev, ofConst, ofCell, simprocAttr, rX, List.drop_succ_cons, ↓rF, rG, ne_eq, not_true_eq_false, not_false_eq_true, Int.reduceNe, List.getElem?_cons_zero, List.getElem?_cons_succ, ↓rK, rM, f0, f4, f5, f6, f13]
          refine app_own (hown.mono (Hp.sub_trans h9 h4.sub)) TL_len ?_ (by simp [hlenT]; omega) (by simp [hlenT]; omega) fun o4 s5 h5 => ?_
          · intro e he; simp at he; subst he; rfl
          have eacc : TL acc ++ [(⟨2, itoaS v, v⟩ : Tok).V i] = TL (acc ++ [(⟨2, itoaS v, v⟩, i)]) := by simp [TL]
          rw [eacc] at h5 ⊢
          simp (dsimp := false) (implicitDefEqProofs := false) (disch := first | omega | assumption | (simp only [rL, Nat.reduceAdd]; try omega)) only [↓rD, rU, ev, ofConst, ofCell, simprocAttr, rX, List.drop_succ_cons, ↓rF, rG, ne_eq, not_true_eq_false, not_false_eq_true, Int.reduceNe, List.getElem?_cons_zero, List.getElem?_cons_succ, ↓rK, rM, f0, f4, f5, M5]
          have ht : tokP (l.drop i) = .ok (⟨2, itoaS v, v⟩, sg (l.drop i) + nDig (l.drop i)) := by rw [htok, hnum]
          have hpos := (tokP_n hne ht).1
          have ek : k0 + ds.length = i + (sg (l.drop i) + nDig (l.drop i)) := by omega
          refine ⟨⟨k0 + ds.length, acc ++ [(⟨2, itoaS v, v⟩, i)], o4, by omega, ?_, by simp; omega, h5, rfl, rfl⟩, by omega⟩
          rw [ek, ← List.drop_drop, adv hne hsk ht hNi, happ]
        · intro hN
          simp (dsimp := false) (implicitDefEqProofs := false) (disch := first | omega | assumption | (simp only [rL, Nat.reduceAdd]; try omega)) only [↓rD, rU, ev, ofConst, ofCell, simprocAttr, rX, List.drop_succ_cons, ↓rF, rG, ne_eq, not_true_eq_false, not_false_eq_true, Int.reduceNe, List.getElem?_cons_zero, List.getElem?_cons_succ, ↓rK, rM, f0, f4, f5, f6]
          exact hN
        clear f0 f4 f5 f6 f121
        rintro f s4 ⟨hN, rfl, f0, f4, f5, f6⟩
        have htok : tokP (l.drop i) = (match signs.find? (fun p => isPre p (l.drop i)) with | some p => .ok (⟨3, p, 0⟩, p.length) | none => .error 2) := by
          have hL' : nxt letterR (l.drop i) = false := by rw [hq]; exact hL
          rw [tokP, hL', if_neg (by simp), hnD, hh, hd1, ← hisnum, hN, if_neg (by simp)]
          cases signs.find? (fun p => isPre p (l.drop i)) <;> rfl
        have herr : ∀ e, tokP (l.drop i) = .error e → lexQ l.length l = .error e := fun e h => by rw [← happ, lexQ_err hne hsk h]; rfl
        refine seq_cut (fun f s' => s' = s4 ∧ f 0 = strV l ∧ f 4 = .sl (TL acc) o ∧ f 5 = .v (.int .i64 (i : Nat)) ∧ f 6 = .v (.int .i64 (i : Nat)) ∧ f 14 = strV []) ?_ ?_
        · simp (dsimp := false) (implicitDefEqProofs := false) (disch := first | omega | assumption | (simp only [rL, Nat.reduceAdd]; try omega)) only [↓rD, rU, ev, ofConst, ofCell, simprocAttr, rX, List.drop_succ_cons, ↓rF, rG, ne_eq, not_true_eq_false, not_false_eq_true, Int.reduceNe, List.getElem?_cons_zero, List.getElem?_cons_succ, ↓rK, rM, f0, f4, f5, f6]
          rfl
        clear f0 f4 f5 f6
        rintro f s5 ⟨rfl, f0, f4, f5, f6, f14⟩
        obtain ⟨two, htwo⟩ : ∃ x, x = (if r = [] then [] else (l.drop i).take 2) := ⟨_, rfl⟩
        refine seq_cut (fun f s' => s' = s5 ∧ f 0 = strV l ∧ f 4 = .sl (TL acc) o ∧ f 5 = .v (.int .i64 (i : Nat)) ∧ f 6 = .v (.int .i64 (i : Nat)) ∧ f 14 = strV two) ?_ ?_
        · by_cases hz : (i : Int) + 1 < (l.length : Int)
          · have hr0 : r ≠ [] := by rintro rfl; simp at hrl; omega
            rw [if_neg hr0] at htwo
            have hz2 : (i : Int) + 2 ≤ (l.length : Int) := by omega
            have hsl : slcSA (strV l) (some (.v (.int .i64 (i : Int)))) (some (.v (.int .i64 ((i : Int) + 2)))) = some (strV two) := by
              rw [htwo]
              simp only [strV]
              simp (dsimp := false) (implicitDefEqProofs := false) (disch := first | omega | assumption | (simp only [rL, Nat.reduceAdd]; try omega)) only [↓rD, rU, ev, ofConst, ofCell, simprocAttr, rX, List.drop_succ_cons, ↓rF, rG, ne_eq, not_true_eq_false, not_false_eq_true, Int.reduceNe, List.getElem?_cons_zero, List.getElem?_cons_succ, ↓rK, rM]
              have e2 : ((i : Int) + 2).toNat = i + 2 := by omega
              rw [e2, List.drop_take, show i + 2 - i = 2 by omega]
            simp (dsimp := false) (implicitDefEqProofs := false) (disch := first | omega | assumption | (simp only [rL, Nat.reduceAdd]; try omega)) only [↓rD, rU, ev, ofConst, ofCell, simprocAttr, rX, List.drop_succ_cons, ↓rF, rG, ne_eq, not_true_eq_false, not_false_eq_true, Int.reduceNe, List.getElem?_cons_zero, List.getElem?_cons_succ, ↓rK, rM, lenTS, f0, f4, f5, f6, f14, hz, hsl]
          · have hr0 : r = [] := by cases r with
              | nil => rfl
              | cons d r2 => simp at hrl; omega
            rw [if_pos hr0] at htwo
            subst htwo
            simp (dsimp := false) (implicitDefEqProofs := false) (disch := first | omega | assumption | (simp only [rL, Nat.reduceAdd]; try omega)) only [↓rD, rU, ev, ofConst, ofCell, simprocAttr, rX, List.drop_succ_cons, ↓rF, rG, ne_eq, not_true_eq_false, not_false_eq_true, Int.reduceNe, List.getElem?_cons_zero, List.getElem?_cons_succ, ↓rK, rM, lenTS, f0, f4, f5, f6, f14, hz]
        clear f0 f4 f5 f6 f14
        rintro f s5 ⟨rfl, f0, f4, f5, f6, f14⟩
        obtain ⟨isTwo, hisTwo⟩ : ∃ b, b = (decide (two = [60, 61]) || decide (two = [62, 61])) := ⟨_, rfl⟩
        have g60 : binA .eql (strV two) (.v (.string ⟨#[60, 61]⟩)) = some (.v (.bool (decide (two = [60, 61])))) := binA_eqlS
        have g62 : binA .eql (strV two) (.v (.string ⟨#[62, 61]⟩)) = some (.v (.bool (decide (two = [62, 61])))) := binA_eqlS
        rw [awp_seq]
        refine seq_cut (fun f s' => s' = s5 ∧ f 0 = strV l ∧ f 4 = .sl (TL acc) o ∧ f 5 = .v (.int .i64 (i : Nat)) ∧ f 6 = .v (.int .i64 (i : Nat)) ∧ f 14 = strV two ∧ f 208 = .v (.bool isTwo)) ?_ ?_
        · by_cases h1 : two = [60, 61]
          · have : isTwo = true := by rw [hisTwo]; simp [h1]
            subst this
            rw [decide_eq_true h1] at g60
            simp (dsimp := false) (implicitDefEqProofs := false) (disch := first | omega | assumption | (simp only [rL, Nat.reduceAdd]; try omega)) only [↓rD, rU, ev, ofConst, ofCell, simprocAttr, rX, List.drop_succ_cons, ↓rF, rG, ne_eq, not_true_eq_false, not_false_eq_true, Int.reduceNe, List.getElem?_cons_zero, List.getElem?_cons_succ, ↓rK, rM, f0, f4, f5, f6, f14, g60]
          · rw [decide_eq_false h1] at g60
            by_cases h2 : two = [62, 61]
            · have : isTwo = true := by rw [hisTwo]; simp [h2]
              subst this
              rw [decide_eq_true h2] at g62
              simp (dsimp := false) (implicitDefEqProofs := false) (disch := first | omega | assumption | (simp only [rL, Nat.reduceAdd]; try omega)) only [↓rD, rU, ev, ofConst, ofCell, simprocAttr, rX, List.drop_succ_cons, ↓rF, rG, ne_eq, not_true_eq_false, not_false_eq_true, Int.reduceNe, List.getElem?_cons_zero, List.getElem?_cons_succ, ↓rK, rM, f0, f4, f5, f6, f14, g60, g62]
            · have : isTwo = false := by rw [hisTwo]; simp [h1, h2]
              subst this
              rw [decide_eq_false h2] at g62
              simp (dsimp := false) (implicitDefEqProofs := false) (disch := first | omega | assumption | (simp only [rL, Nat.reduceAdd]; try omega)) only [↓rD, rU, ev, ofConst, ofCell, simprocAttr, rX, List.drop_succ_cons, ↓rF, rG, ne_eq, not_true_eq_false, not_false_eq_true, Int.reduceNe, List.getElem?_cons_zero, List.getElem?_cons_succ, ↓rK, rM, f0, f4, f5, f6, f14, g60, g62]
        clear f0 f4 f5 f6 f14
        rintro f s5 ⟨rfl, f0, f4, f5, f6, f14, f208⟩
        simp (dsimp := false) (implicitDefEqProofs := false) (disch := first | omega | assumption | (simp only [rL, Nat.reduceAdd]; try omega)) only [↓rD, rU, ev, ofConst, ofCell, simprocAttr, rX, List.drop_succ_cons, ↓rF, rG, ne_eq, not_true_eq_false, not_false_eq_true, Int.reduceNe, List.getElem?_cons_zero, List.getElem?_cons_succ, ↓rK, rM, f0, f4, f5, f6, f14, f208]
        refine cond_join (fun f s' => isTwo = false ∧ s' = s5 ∧ f 0 = strV l ∧ f 4 = .sl (TL acc) o ∧ f 5 = .v (.int .i64 (i : Nat)) ∧ f 6 = .v (.int .i64 (i : Nat))) ?_ ?_ ?_
        · intro hT
          obtain ⟨d, r2, hr2⟩ : ∃ d r2, r = d :: r2 := by
            cases r with
            | nil => rw [if_pos rfl] at htwo; subst htwo; rw [hisTwo] at hT; simp at hT
            | cons d r2 => exact ⟨d, r2, rfl⟩
          have htw2 : two = [c, d] := by rw [htwo, if_neg (by rw [hr2]; simp), hq, hr2]; rfl
          rw [hisTwo, htw2] at hT
          simp only [Bool.or_eq_true, decide_eq_true_eq, List.cons.injEq, and_true] at hT
          have hcd : (c = 60 ∨ c = 62) ∧ d = 61 := by
            rcases hT with ⟨h1, h2⟩ | ⟨h1, h2⟩
            · exact ⟨.inl h1, h2⟩
            · exact ⟨.inr h1, h2⟩
          have ht : tokP (l.drop i) = .ok (⟨3, two, 0⟩, 2) := by
            rw [htok, hq, hr2, sign_two hcd.1 hcd.2, htw2]; rfl
          have hlen2 : i + 2 ≤ l.length := by rw [hr2] at hrl; simp at hrl; omega
          simp (dsimp := false) (implicitDefEqProofs := false) (disch := first | omega | assumption | (simp only [rL, Nat.reduceAdd]; try omega)) only [↓rD, rU, ev, ofConst, ofCell, simprocAttr, rX, List.drop_succ_cons, ↓rF, rG, ne_eq, not_true_eq_false, not_false_eq_true, Int.reduceNe, List.getElem?_cons_zero, List.getElem?_cons_succ, ↓rK, rM, f0, f4, f5, f6, f14, rTok, cells_strv]
          refine bsl_own Hp.sub_refl ?_ fun o1 s6 h6 => ?_
          · intro e he; simp at he; subst he; rfl
          simp (dsimp := false) (implicitDefEqProofs := false) (disch := first | omega | assumption | (simp only [rL, Nat.reduceAdd]; try omega)) only [↓rD, rU, ev, ofConst, ofCell, simprocAttr, rX, List.drop_succ_cons, ↓rF, rG, ne_eq, not_true_eq_false, not_false_eq_true, Int.reduceNe, List.getElem?_cons_zero, List.getElem?_cons_succ, ↓rK, rM, f0, f4, f5, f6]
          refine app_own (hown.mono h6.sub) TL_len ?_ (by simp [hlenT]; omega) (by simp [hlenT]; omega) fun o4 s7 h7 => ?_
          · intro e he; simp at he; subst he; rfl
          have eacc : TL acc ++ [(⟨3, two, zTok.num⟩ : Tok).V i] = TL (acc ++ [(⟨3, two, 0⟩, i)]) := by simp [TL, zTok]
          rw [eacc] at h7 ⊢
          simp (dsimp := false) (implicitDefEqProofs := false) (disch := first | omega | assumption | (simp only [rL, Nat.reduceAdd]; try omega)) only [↓rD, rU, ev, ofConst, ofCell, simprocAttr, rX, List.drop_succ_cons, ↓rF, rG, ne_eq, not_true_eq_false, not_false_eq_true, Int.reduceNe, List.getElem?_cons_zero, List.getElem?_cons_succ, ↓rK, rM, f0, f4, f5, M5]
          refine ⟨⟨i + 2, acc ++ [(⟨3, two, 0⟩, i)], o4, by omega, ?_, by simp; omega, h7, by simp⟩, by omega⟩
          rw [← List.drop_drop, adv hne hsk ht hNi, happ]
        · intro hT
          simp (dsimp := false) (implicitDefEqProofs := false) (disch := first | omega | assumption | (simp only [rL, Nat.reduceAdd]; try omega)) only [↓rD, rU, ev, ofConst, ofCell, simprocAttr, rX, List.drop_succ_cons, ↓rF, rG, ne_eq, not_true_eq_false, not_false_eq_true, Int.reduceNe, List.getElem?_cons_zero, List.getElem?_cons_succ, ↓rK, rM, f0, f4, f5, f6]
          exact hT
        clear f0 f4 f5 f6 f14 f208
        rintro f s6 ⟨hT, rfl, f0, f4, f5, f6⟩
        have hone : signs.find? (fun p => isPre p (c :: r)) = if one7 c then some [c] else none := by
          rw [hisTwo] at hT
          simp only [Bool.or_eq_false_iff, decide_eq_false_iff_not] at hT
          cases hrr : r with
          | nil => exact sign_one (by simp) (by simp)
          | cons d r2 =>
            rw [htwo, if_neg (by rw [hrr]; simp), hq, hrr] at hT
            exact sign_one hT.1 hT.2
        rw [hq, hone] at htok
        refine seq_cut (fun f s' => s' = s6 ∧ f 0 = strV l ∧ f 4 = .sl (TL acc) o ∧ f 5 = .v (.int .i64 (i : Nat)) ∧ f 6 = .v (.int .i64 (i : Nat)) ∧ f 15 = .v (.int .u8 c.toNat)) ?_ ?_
        · simp (dsimp := false) (implicitDefEqProofs := false) (disch := first | omega | assumption | (simp only [rL, Nat.reduceAdd]; try omega)) only [↓rD, rU, ev, ofConst, ofCell, simprocAttr, rX, List.drop_succ_cons, ↓rF, rG, ne_eq, not_true_eq_false, not_false_eq_true, Int.reduceNe, List.getElem?_cons_zero, List.getElem?_cons_succ, ↓rK, rM, f0, f4, f5, f6, hix]
        clear f0 f4 f5 f6
        rintro f s7 ⟨rfl, f0, f4, f5, f6, f15⟩
        have hI : ∀ (n : Nat) (m : UInt8), m.toNat = n → ¬ c = m → ¬ ((c.toNat : Nat) : Int) = (n : Int) := fun n m h1 h2 h => h2 ((u8_eq h1).1 h)
        refine seq_cut (fun f s' => one7 c = true ∧ s' = s7 ∧ f 0 = strV l ∧ f 4 = .sl (TL acc) o ∧ f 5 = .v (.int .i64 (i : Nat)) ∧ f 6 = .v (.int .i64 (i : Nat)) ∧ f 15 = .v (.int .u8 c.toNat)) ?_ ?_
        · by_cases a0 : c = 40
          · have t : ((c.toNat : Nat) : Int) = 40 := (u8_eq (m := 40) (n := 40) rfl).2 a0
            have h7 : one7 c = true := by simp [one7, a0]
            simp (dsimp := false) (implicitDefEqProofs := false) (disch := first | omega | assumption | (simp only [rL, Nat.reduceAdd]; try omega)) only [↓rD, rU, ev, ofConst, ofCell, simprocAttr, rX, List.drop_succ_cons, ↓rF, rG, ne_eq, not_true_eq_false, not_false_eq_true, Int.reduceNe, List.getElem?_cons_zero, List.getElem?_cons_succ, ↓rK, rM, f0, f4, f5, f6, f15, t]
            exact h7
          have n0 : ¬ ((c.toNat : Nat) : Int) = 40 := hI 40 40 rfl a0
          by_cases a1 : c = 41
          · have t : ((c.toNat : Nat) : Int) = 41 := (u8_eq (m := 41) (n := 41) rfl).2 a1
            have h7 : one7 c = true := by simp [one7, a1]
            simp (dsimp := false) (implicitDefEqProofs := false) (disch := first | omega | assumption | (simp only [rL, Nat.reduceAdd]; try omega)) only [↓rD, rU, ev, ofConst, ofCell, simprocAttr, rX, List.drop_succ_cons, ↓rF, rG, ne_eq, not_true_eq_false, not_false_eq_true, Int.reduceNe, List.getElem?_cons_zero, List.getElem?_cons_succ, ↓rK, rM, f0, f4, f5, f6, f15, t]
            exact h7
          have n1 : ¬ ((c.toNat : Nat) : Int) = 41 := hI 41 41 rfl a1
          by_cases a2 : c = 44
          · have t : ((c.toNat : Nat) : Int) = 44 := (u8_eq (m := 44) (n := 44) rfl).2 a2
            have h7 : one7 c = true := by simp [one7, a2]
            simp (dsimp := false) (implicitDefEqProofs := false) (disch := first | omega | assumption | (simp only [rL, Nat.reduceAdd]; try omega)) only [↓rD, rU, ev, ofConst, ofCell, simprocAttr, rX, List.drop_succ_cons, ↓rF, rG, ne_eq, not_true_eq_false, not_false_eq_true, Int.reduceNe, List.getElem?_cons_zero, List.getElem?_cons_succ, ↓rK, rM, f0, f4, f5, f6, f15, t]
            exact h7
          have n2 : ¬ ((c.toNat : Nat) : Int) = 44 := hI 44 44 rfl a2
          by_cases a3 : c = 42
          · have t : ((c.toNat : Nat) : Int) = 42 := (u8_eq (m := 42) (n := 42) rfl).2 a3
            have h7 : one7 c = true := by simp [one7, a3]
            simp (dsimp := false) (implicitDefEqProofs := false) (disch := first | omega | assumption | (simp only [rL, Nat.reduceAdd]; try omega)) only [↓rD, rU, ev, ofConst, ofCell, simprocAttr, rX, List.drop_succ_cons, ↓rF, rG, ne_eq, not_true_eq_false, not_false_eq_true, Int.reduceNe, List.getElem?_cons_zero, List.getElem?_cons_succ, ↓rK, rM, f0, f4, f5, f6, f15, t]
            exact h7
          have n3 : ¬ ((c.toNat : Nat) : Int) = 42 := hI 42 42 rfl a3
          by_cases a4 : c = 61
          · have t : ((c.toNat : Nat) : Int) = 61 := (u8_eq (m := 61) (n := 61) rfl).2 a4
            have h7 : one7 c = true := by simp [one7, a4]
            simp (dsimp := false) (implicitDefEqProofs := false) (disch := first | omega | assumption | (simp only [rL, Nat.reduceAdd]; try omega)) only [↓rD, rU, ev, ofConst, ofCell, simprocAttr, rX, List.drop_succ_cons, ↓rF, rG, ne_eq, not_true_eq_false, not_false_eq_true, Int.reduceNe, List.getElem?_cons_zero, List.getElem?_cons_succ, ↓rK, rM, f0, f4, f5, f6, f15, t]
            exact h7
          have n4 : ¬ ((c.toNat : Nat) : Int) = 61 := hI 61 61 rfl a4
          by_cases a5 : c = 60
          · have t : ((c.toNat : Nat) : Int) = 60 := (u8_eq (m := 60) (n := 60) rfl).2 a5
            have h7 : one7 c = true := by simp [one7, a5]
            simp (dsimp := false) (implicitDefEqProofs := false) (disch := first | omega | assumption | (simp only [rL, Nat.reduceAdd]; try omega)) only [↓rD, rU, ev, ofConst, ofCell, simprocAttr, rX, List.drop_succ_cons, ↓rF, rG, ne_eq, not_true_eq_false, not_false_eq_true, Int.reduceNe, List.getElem?_cons_zero, List.getElem?_cons_succ, ↓rK, rM, f0, f4, f5, f6, f15, t]
            exact h7
          have n5 : ¬ ((c.toNat : Nat) : Int) = 60 := hI 60 60 rfl a5
          by_cases a6 : c = 62
          · have t : ((c.toNat : Nat) : Int) = 62 := (u8_eq (m := 62) (n := 62) rfl).2 a6
            have h7 : one7 c = true := by simp [one7, a6]
            simp (dsimp := false) (implicitDefEqProofs := false) (disch := first | omega | assumption | (simp only [rL, Nat.reduceAdd]; try omega)) only [↓rD, rU, ev, ofConst, ofCell, simprocAttr, rX, List.drop_succ_cons, ↓rF, rG, ne_eq, not_true_eq_false, not_false_eq_true, Int.reduceNe, List.getElem?_cons_zero, List.getElem?_cons_succ, ↓rK, rM, f0, f4, f5, f6, f15, t]
            exact h7
          have n6 : ¬ ((c.toNat : Nat) : Int) = 62 := hI 62 62 rfl a6
          have h7 : one7 c = false := by simp [one7, a0, a1, a2, a3, a4, a5, a6]
          have ht : tokP (l.drop i) = .error 2 := by rw [hq, htok, h7]; rfl
          simp (dsimp := false) (implicitDefEqProofs := false) (disch := first | omega | assumption | (simp only [rL, Nat.reduceAdd]; try omega)) only [↓rD, rU, ev, ofConst, ofCell, simprocAttr, rX, List.drop_succ_cons, ↓rF, rG, ne_eq, not_true_eq_false, not_false_eq_true, Int.reduceNe, List.getElem?_cons_zero, List.getElem?_cons_succ, ↓rK, rM, f0, f4, f5, f6, f15, n0, n1, n2, n3, n4, n5, n6]
          exact ⟨_, Hp.sub_refl, by rw [herr 2 ht]; exact ⟨hown.sub, rfl⟩⟩
        clear f0 f4 f5 f6 f15
        rintro f s7 ⟨h7, rfl, f0, f4, f5, f6, f15⟩
        have ht : tokP (l.drop i) = .ok (⟨3, [c], 0⟩, 1) := by rw [hq, htok, h7]; rfl
        simp (dsimp := false) (implicitDefEqProofs := false) (disch := first | omega | assumption | (simp only [rL, Nat.reduceAdd]; try omega)) only [↓rD, rU, ev, ofConst, ofCell, simprocAttr, rX, List.drop_succ_cons, ↓rF, rG, ne_eq, not_true_eq_false, not_false_eq_true, Int.reduceNe, List.getElem?_cons_zero, List.getElem?_cons_succ, ↓rK, rM, f0, f4, f5, f6, f15]
        refine bsl_byte Hp.sub_refl fun o0 s8 h8 => ?_
        simp (dsimp := false) (implicitDefEqProofs := false) (disch := first | omega | assumption | (simp only [rL, Nat.reduceAdd]; try omega)) only [↓rD, rU, ev, ofConst, ofCell, simprocAttr, rX, List.drop_succ_cons, ↓rF, rG, ne_eq, not_true_eq_false, not_false_eq_true, Int.reduceNe, List.getElem?_cons_zero, List.getElem?_cons_succ, ↓rK, rM, f0, f4, f5, f6, b2sA_one, rTok, cells_strv]
        refine bsl_own Hp.sub_refl ?_ fun o1 s9 h9 => ?_
        · intro e he; simp at he; subst he; rfl
        simp (dsimp := false) (implicitDefEqProofs := false) (disch := first | omega | assumption | (simp only [rL, Nat.reduceAdd]; try omega)) only [↓rD, rU, ev, ofConst, ofCell, simprocAttr, rX, List.drop_succ_cons, ↓rF, rG, ne_eq, not_true_eq_false, not_false_eq_true, Int.reduceNe, List.getElem?_cons_zero, List.getElem?_cons_succ, ↓rK, rM, f0, f4, f5, f6]
        refine app_own (hown.mono (Hp.sub_trans h8.sub h9.sub)) TL_len ?_ (by simp [hlenT]; omega) (by simp [hlenT]; omega) fun o4 s10 h10 => ?_
        · intro e he; simp at he; subst he; rfl
        have eacc : TL acc ++ [(⟨3, [c], zTok.num⟩ : Tok).V i] = TL (acc ++ [(⟨3, [c], 0⟩, i)]) := by simp [TL, zTok]
        rw [eacc] at h10 ⊢
        simp (dsimp := false) (implicitDefEqProofs := false) (disch := first | omega | assumption | (simp only [rL, Nat.reduceAdd]; try omega)) only [↓rD, rU, ev, ofConst, ofCell, simprocAttr, rX, List.drop_succ_cons, ↓rF, rG, ne_eq, not_true_eq_false, not_false_eq_true, Int.reduceNe, List.getElem?_cons_zero, List.getElem?_cons_succ, ↓rK, rM, f0, f4, f5, M5]
        refine ⟨⟨i + 1, acc ++ [(⟨3, [c], 0⟩, i)], o4, by omega, ?_, by simp; omega, h10, by simp⟩, by omega⟩
        rw [← List.drop_drop, adv hne hsk ht hNi, happ]
    · have hil : i = l.length := by omega
      subst hil
      simp (dsimp := false) (implicitDefEqProofs := false) (disch := first | omega | assumption | (simp only [rL, Nat.reduceAdd]; try omega)) only [↓rD, rU, ev, ofConst, ofCell, simprocAttr, rX, List.drop_succ_cons, ↓rF, rG, ne_eq, not_true_eq_false, not_false_eq_true, Int.reduceNe, List.getElem?_cons_zero, List.getElem?_cons_succ, ↓rK, rM, lenTS, f0, f4, f5, hlt]
      rw [List.drop_length] at happ
      refine ⟨_, Hp.sub_refl, ?_⟩
      rw [← happ]
      exact ⟨o, by simpa using hown, by simp⟩
end Go.Proofs.YtgfbealjkdhdbaaGreatDoor
set_option maxRecDepth 100000
namespace Go.Proofs.YtgfbealjkdhdbaaGreatDoor
open Go Go.Av
def expB (c : UInt8) : List UInt8 := Lib.upperB c :: if Lib.upperB c = 32 then [10] else []
theorem expB_32 : expB 32 = [32, 10] := by decide
theorem upper_32 {c : UInt8} : Lib.upperB c = 32 ↔ c = 32 := by
  have h1 := u8all (p := fun c => decide (Lib.upperB c = 32) == decide (c = 32)) (by kernel_rfl) c
  simpa using h1
theorem exp_text : ∀ {l : List UInt8}, (32 : UInt8) ∉ l → l.flatMap expB = l.map Lib.upperB
  | [], _ => rfl
  | c :: l, h => by
    have hc : ¬ c = 32 := by rintro rfl; exact h (by simp)
    have hl : (32 : UInt8) ∉ l := fun h' => h (by simp [h'])
    have e : expB c = [Lib.upperB c] := by rw [expB, if_neg (fun h' => hc (upper_32.1 h'))]
    rw [List.flatMap_cons, e, exp_text hl]; rfl
theorem good_no32 {t : Tok} (h : good t) : (32 : UInt8) ∉ t.text := by
  rcases h with ⟨_, _, b, r, ht, hb, hr⟩ | ⟨_, ht, _, _⟩ | ⟨_, _, ht⟩
  · rw [ht]
    intro h
    have hw : lowW 32 = true := by
      rcases List.mem_cons.1 h with h | h
      · rw [h]; exact lowL_W hb
      · exact hr _ h
    revert hw; decide
  · rw [ht]
    intro h
    unfold itoaS at h
    have hd : ∀ u, (32 : UInt8) ∉ decF 20 u := fun u h' => by
      have := decF_digs 20 u 32 h'; revert this; decide
    split at h
    · rcases List.mem_cons.1 h with h | h
      · revert h; decide
      · exact hd _ h
    · exact hd _ h
  · have : ∀ p ∈ signs, (32 : UInt8) ∉ p := by decide
    exact this _ ht
theorem cas_up : cas Lib.upperB := .inr rfl
theorem lexR_gap10 (r : List UInt8) : lexR (32 :: 10 :: r) = lexR r := by
  have e : skip false (10 :: r) = skip false r := by simp [skip, blankR]
  rw [lexR_blank, ← lexR_skip (10 :: r), e, lexR_skip]
def gapF (ts : List (Tok × Nat)) : List UInt8 := (texts ts).flatMap fun y => 32 :: 10 :: y.map Lib.upperB
theorem gapF_rest (ts : List (Tok × Nat)) : rest (gapF ts) := by
  cases ts with
  | nil => exact .inl rfl
  | cons p r => exact .inr ⟨_, rfl⟩
theorem lexR_exp : ∀ ts : List (Tok × Nat), (∀ p ∈ ts, good p.1) → lexR (gapF ts) = .ok (toks ts)
  | [], _ => rfl
  | p :: r, h => by
    have ih := lexR_exp r fun q hq => h q (by simp [hq])
    have e : gapF (p :: r) = 32 :: 10 :: (p.1.text.map Lib.upperB ++ gapF r) := rfl
    rw [e, lexR_gap10, lexR_tok cas_up (h p (by simp)) (gapF_rest r), ih]; rfl
theorem exp_join (ts : List (Tok × Nat)) (hg : ∀ p ∈ ts, good p.1) : lexR ((joinT (texts ts)).flatMap expB) = .ok (toks ts) := by
  cases ts with
  | nil => rfl
  | cons p r =>
    have e : (joinT (texts (p :: r))).flatMap expB = p.1.text.map Lib.upperB ++ gapF r := by
      have e1 : joinT (texts (p :: r)) = p.1.text ++ (texts r).flatMap fun y => 32 :: y := rfl
      rw [e1, List.flatMap_append, exp_text (good_no32 (hg p (by simp)))]
      congr 1
      have hr : ∀ q ∈ r, good q.1 := fun q hq => hg q (by simp [hq])
      clear e1 hg
      induction r with
      | nil => rfl
      | cons q r ih =>
        have e2 : gapF (q :: r) = 32 :: 10 :: (q.1.text.map Lib.upperB ++ gapF r) := rfl
        have e3 : ((texts (q :: r)).flatMap fun y => 32 :: y) = 32 :: (q.1.text ++ (texts r).flatMap fun y => 32 :: y) := rfl
        rw [e2, e3, List.flatMap_cons, expB_32, List.flatMap_append, exp_text (good_no32 (hr q (by simp))), ih fun x hx => hr x (by simp [hx])]
        rfl
    rw [e, lexR_tok cas_up (hg p (by simp)) (gapF_rest r), lexR_exp r fun q hq => hg q (by simp [hq])]; rfl
theorem exp_len : ∀ l : List UInt8, (l.flatMap expB).length ≤ 2 * l.length
  | [] => by simp
  | c :: l => by
    have := exp_len l
    have h2 : (expB c).length ≤ 2 := by unfold expB; split <;> simp
    rw [List.flatMap_cons, List.length_append, List.length_cons]; omega
theorem small_parse {l : List UInt8} {ts : List (Tok × Nat)} (h : lexT l = .ok ts) (hb : ((joinT (texts ts)).flatMap expB).length ≤ 1000) : parseT ((joinT (texts ts)).flatMap expB) = parseT l := by
  have h3 := exp_join ts (lexT_good h)
  rw [← lexT_R hb] at h3
  cases hv : lexT ((joinT (texts ts)).flatMap expB) with
  | error e => rw [hv] at h3; cases h3
  | ok vs =>
    rw [hv] at h3
    have h4 : vs.map Prod.fst = ts.map Prod.fst := by simpa [dropAt, toks] using h3
    rw [parseT, parseT, hv, h]
    simp only [h4]
theorem capF_cap {α : Type} {xs ys : List α} {q : Option (List α × List Tok)} {l : List Tok} (h : capF xs q = some (ys, l)) : ys.length ≤ 256 := by
  cases q with
  | none => cases h
  | some p =>
    simp only [capF] at h
    split at h
    · cases h
    · simp only [Option.some.injEq, Prod.mk.injEq] at h
      rw [← h.1]; omega
theorem listF_cap {α : Type} {w : List UInt8} {one : List Tok → Option (α × List Tok)} {l l' : List Tok} {xs : List α} (h : listF w one l = some (xs, l')) : xs.length ≤ 256 := by
  unfold listF at h
  split at h
  · cases h
  · exact capF_cap h
theorem moreF_all {α : Type} {w : List UInt8} {one : List Tok → Option (α × List Tok)} {P : α → Prop} (hP : ∀ l x l', one l = some (x, l') → P x) : ∀ (n : Nat) (l l' : List Tok) (xs : List α), moreF w one n l = some (xs, l') → ∀ x ∈ xs, P x
  | 0, l, l', xs, h => by
    simp only [moreF, Option.some.injEq, Prod.mk.injEq] at h
    rw [← h.1]; simp
  | n + 1, l, l', xs, h => by
    simp only [moreF] at h
    split at h
    · simp only [Option.some.injEq, Prod.mk.injEq] at h
      rw [← h.1]; simp
    · split at h
      · cases h
      · rename_i x l2 ho
        simp only [Option.map_eq_some_iff, Prod.mk.injEq] at h
        obtain ⟨p, hp, h1, _⟩ := h
        rw [← h1]
        intro y hy
        rcases List.mem_cons.1 hy with rfl | hy
        · exact hP _ _ _ ho
        · exact moreF_all hP n _ p.2 p.1 (by rw [hp]) y hy
theorem listF_all {α : Type} {w : List UInt8} {one : List Tok → Option (α × List Tok)} {P : α → Prop} (hP : ∀ l x l', one l = some (x, l') → P x) {l l' : List Tok} {xs : List α} (h : listF w one l = some (xs, l')) : ∀ x ∈ xs, P x := by
  unfold listF at h
  split at h
  · cases h
  · rename_i x l1 ho
    cases hm : moreQ w one l1 with
    | none => rw [hm] at h; cases h
    | some p =>
      rw [hm] at h
      simp only [capF] at h
      split at h
      · cases h
      · simp only [Option.some.injEq, Prod.mk.injEq] at h
        rw [← h.1]
        intro y hy
        rcases List.mem_append.1 hy with hy | hy
        · simp only [List.mem_singleton] at hy; subst hy; exact hP _ _ _ ho
        · exact moreF_all hP _ _ p.2 p.1 (by unfold moreQ at hm; rw [hm]) y hy
theorem rowF_cap {l l' : List Tok} {xs : List Int} (h : rowF l = some (xs, l')) : xs.length ≤ 256 := by
  simp only [rowF, Option.bind_eq_some_iff, Option.map_eq_some_iff, Prod.mk.injEq] at h
  obtain ⟨l1, _, p, hp, l3, _, h1, _⟩ := h
  rw [← h1]; exact listF_cap (l' := p.2) (by rw [hp])
theorem whereF_cap {l l' : List Tok} {xs : List Cond} (h : whereF l = some (xs, l')) : xs.length ≤ 256 := by
  unfold whereF at h
  split at h
  · simp only [Option.some.injEq, Prod.mk.injEq] at h; rw [← h.1]; simp
  · exact listF_cap h
theorem sortF_cap {l l' : List Tok} {x : Srt} (h : sortF l = some (x, l')) : x.pt.length ≤ 256 := by
  unfold sortF at h
  split at h
  · simp only [Option.some.injEq, Prod.mk.injEq] at h; rw [← h.1]; simp
  · split at h
    · simp only [Option.map_eq_some_iff, Prod.mk.injEq] at h
      obtain ⟨p, hp, h1, _⟩ := h
      rw [← h1]; exact rowF_cap (l' := p.2) (by rw [hp])
    · simp only [Option.map_eq_some_iff] at h
      obtain ⟨p, hp, h1⟩ := h
      split at h1
      · simp only [Prod.mk.injEq] at h1; rw [← h1.1]; simp
      · simp only [Prod.mk.injEq] at h1; rw [← h1.1]; simp
theorem rs_zero {x : RStm} (h1 : x.cols = []) (h2 : x.rows = []) (h3 : x.wh = []) (h4 : x.sets = []) (h5 : x.pt = []) : RsOk x := ⟨by simp [h1], by simp [h2], by simp [h2], by simp [h3], by simp [h4], by simp [h5]⟩
theorem plain_eq {α : Type} {o : Option (Stm × α)} {x : Stm} {ys : List Int} {l' : α} (h : o.map plain = some ((x, ys), l')) : o = some (x, l') := by
  simp only [Option.map_eq_some_iff, plain, Prod.mk.injEq] at h
  obtain ⟨p, hp, ⟨h1, _⟩, h2⟩ := h
  rw [hp, ← h1, ← h2]
theorem txG_rs : ∀ (ws : List (List UInt8)) (j : Nat) (l l' : List Tok) (x : Stm), txG ws j l = some (x, l') → RsOk (ofS x)
  | [], _, _, _, _, h => by cases h
  | w :: r, j, l, l', x, h => by
    simp only [txG] at h
    generalize (if 0 < j then isF [w] l else none) = q at h
    cases q with
    | none => exact txG_rs r (j + 1) l l' x h
    | some l1 =>
      simp only [Option.some.injEq, Prod.mk.injEq] at h
      rw [← h.1]; exact rs_zero rfl rfl rfl rfl rfl
theorem stmF_rs {l l' : List Tok} {x : Stm} {ys : List Int} (h : stmF l = some ((x, ys), l')) : RsOk (ofS x) := by
  unfold stmF at h
  split at h
  · have h' := plain_eq h
    simp only [creationF, Option.bind_eq_some_iff, Option.map_eq_some_iff, Prod.mk.injEq] at h'
    obtain ⟨p, _, l2, _, q, hq, l4, _, h1, _⟩ := h'
    have := listF_cap (l' := q.2) (xs := q.1) (by rw [hq])
    rw [← h1]; exact ⟨by show q.1.length ≤ _; omega, by simp [ofS, zRS], by simp [ofS, zRS], by simp [ofS, zRS], by simp [ofS, zRS], by simp [ofS, zRS]⟩
  unfold stm2 at h
  split at h
  · simp only [Option.map_eq_some_iff, Prod.mk.injEq] at h
    obtain ⟨p, _, ⟨h1, _⟩, _⟩ := h
    rw [← h1]; exact rs_zero rfl rfl rfl rfl rfl
  unfold stm3 at h
  split at h
  · have h' := plain_eq h
    simp only [insertionF, Option.bind_eq_some_iff, Option.map_eq_some_iff, Prod.mk.injEq] at h'
    obtain ⟨p, _, l2, _, q, hq, h1, _⟩ := h'
    have h2 := listF_cap (l' := q.2) (xs := q.1) (by rw [hq])
    have h3 := listF_all (P := fun r : List Int => r.length ≤ 256) (fun l x l' h => rowF_cap h) (l' := q.2) (xs := q.1) (by rw [hq])
    rw [← h1]; exact ⟨by simp [ofS, zRS], by show q.1.length ≤ _; omega, fun r hr => by have := h3 r hr; omega, by simp [ofS, zRS], by simp [ofS, zRS], by simp [ofS, zRS]⟩
  unfold stm4 at h
  split at h
  · simp only [Option.bind_eq_some_iff, Option.map_eq_some_iff, Prod.mk.injEq] at h
    obtain ⟨p, _, q, hq, ⟨h1, _⟩, _⟩ := h
    have := whereF_cap (l' := q.2) (xs := q.1) (by rw [hq])
    rw [← h1]; exact ⟨by simp [ofS, zRS], by simp [ofS, zRS], by simp [ofS, zRS], by show q.1.length ≤ _; omega, by simp [ofS, zRS], by simp [ofS, zRS]⟩
  unfold stm5 at h
  split at h
  · have h' := plain_eq h
    simp only [updateF, Option.bind_eq_some_iff, Option.map_eq_some_iff, Prod.mk.injEq] at h'
    obtain ⟨p, _, l2, _, q, hq, r, hr, h1, _⟩ := h'
    have h2 := listF_cap (l' := q.2) (xs := q.1) (by rw [hq])
    have h3 := whereF_cap (l' := r.2) (xs := r.1) (by rw [hr])
    rw [← h1]; exact ⟨by simp [ofS, zRS], by simp [ofS, zRS], by simp [ofS, zRS], by show r.1.length ≤ _; omega, by show q.1.length ≤ _; omega, by simp [ofS, zRS]⟩
  unfold stm6 at h
  split at h
  · simp only [Option.map_eq_some_iff, Prod.mk.injEq] at h
    obtain ⟨p, hp, ⟨h1, _⟩, _⟩ := h
    have hp' : selF _ = some ((p.1.1, p.1.2), p.2) := hp
    unfold selF at hp'
    simp only [Option.bind_eq_some_iff] at hp'
    obtain ⟨p1, _, l2, _, p2, _, p3, _, p4, h4, h5⟩ := hp'
    have h4' := whereF_cap (l' := p4.2) (xs := p4.1) (by rw [h4])
    rw [← h1]
    split at h5
    · simp only [Option.some.injEq, Prod.mk.injEq] at h5
      rw [← h5.1.1]; exact ⟨by simp [ofS, zRS], by simp [ofS, zRS], by simp [ofS, zRS], by show p4.1.length ≤ _; omega, by simp [ofS, zRS], by simp [ofS]⟩
    · simp only [Option.bind_eq_some_iff, Option.map_eq_some_iff, Prod.mk.injEq] at h5
      obtain ⟨p5, h5', p6, _, ⟨h6, _⟩, _⟩ := h5
      have h7 := sortF_cap (l' := p5.2) (x := p5.1) (by rw [h5'])
      rw [← h6]; exact ⟨by simp [ofS, zRS], by simp [ofS, zRS], by simp [ofS, zRS], by show p4.1.length ≤ _; omega, by simp [ofS, zRS], by show p5.1.pt.length ≤ _; omega⟩
  unfold stm7 at h
  exact txG_rs _ _ _ _ _ (plain_eq h)
theorem parseT_rs {l : List UInt8} {x : Stm} (h : parseT l = .ok x) : RsOk (ofS x) := by
  unfold parseT at h
  split at h
  · cases h
  · unfold parseL at h
    split at h
    · cases h
    · rename_i y ys l' he
      split at h
      · split at h
        · cases h
        · cases h; exact stmF_rs he
      · cases h
end Go.Proofs.YtgfbealjkdhdbaaGreatDoor
