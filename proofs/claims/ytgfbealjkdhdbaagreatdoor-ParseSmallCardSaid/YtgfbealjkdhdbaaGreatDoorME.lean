/- Merged by program from smaller texts; what is proved stands in the last text of the claim. -/
import Derived.Test.YtgfbealjkdhdbaaGreatDoorMD
import Derived.Test.YtgfbealjkdhdbaaGreatDoorMC
set_option linter.all false
set_option maxRecDepth 100000
namespace Go.Proofs.YtgfbealjkdhdbaaGreatDoor
open Go Go.Av
theorem skip_idem : ∀ (c : Bool) (l : List UInt8), skip false (skip c l) = skip c l
  | true, [] => rfl
  | false, [] => rfl
  | true, b :: r => by
    simp only [skip]; split
    · exact skip_idem false r
    · exact skip_idem true r
  | false, b :: r => by
    simp only [skip]; split
    · exact skip_idem false r
    · rename_i h1
      split
      · exact skip_idem true r
      · rename_i h2
        simp [skip, h1, h2]
theorem lexP_fuel : ∀ (n f g N : Nat) (l : List UInt8), l.length ≤ n → l.length < f → l.length < g → lexP f N l = lexP g N l
  | n, 0, _, _, _, _, h, _ => by omega
  | n, _ + 1, 0, _, _, _, _, h => by omega
  | n, f + 1, g + 1, N, l, hn, hf, hg => by
    simp only [lexP]
    split
    · rfl
    · rename_i hne
      cases ht : tokP (skip false l) with
      | error e => rfl
      | ok x =>
        obtain ⟨t, k⟩ := x
        have h1 := tokP_n hne ht
        have h2 := skip_le false l
        have h3 : ((skip false l).drop k).length < l.length := by rw [List.length_drop]; omega
        cases n with
        | zero => omega
        | succ n =>
          have := lexP_fuel n f g N ((skip false l).drop k) (by omega) (by omega) (by omega)
          simp only [this]
def lexQ (N : Nat) (l : List UInt8) : Except Nat (List (Tok × Nat)) := lexP (l.length + 1) N l
theorem lexQ_eq (N : Nat) (l : List UInt8) : lexQ N l = if skip false l = [] then .ok [] else
    match tokP (skip false l) with
    | .error e => .error e
    | .ok (t, n) => match lexQ N ((skip false l).drop n) with
      | .error e => .error e
      | .ok ts => .ok ((t, N - (skip false l).length) :: ts) := by
  unfold lexQ
  rw [lexP]
  split
  · rfl
  · rename_i hne
    cases ht : tokP (skip false l) with
    | error e => rfl
    | ok x =>
      obtain ⟨t, k⟩ := x
      have h1 := tokP_n hne ht
      have h2 := skip_le false l
      have h3 : ((skip false l).drop k).length < l.length := by rw [List.length_drop]; omega
      have := lexP_fuel l.length l.length (((skip false l).drop k).length + 1) N ((skip false l).drop k) (by omega) (by omega) (by omega)
      simp only [this]
      all_goals (cases lexP (((skip false l).drop k).length + 1) N ((skip false l).drop k) <;> rfl)
theorem lexQ_skip (N : Nat) (l : List UInt8) : lexQ N (skip false l) = lexQ N l := by
  rw [lexQ_eq N l, lexQ_eq N (skip false l), skip_idem]
def appE (acc : List (Tok × Nat)) : Except Nat (List (Tok × Nat)) → Except Nat (List (Tok × Nat))
  | .error e => .error e
  | .ok ts => .ok (acc ++ ts)
def TL (ts : List (Tok × Nat)) : List AV := ts.map fun p => p.1.V p.2
theorem TL_len {ts : List (Tok × Nat)} : allLen 4 (TL ts) := by
  rw [TL, allLen_map (k := 4) (g := fun p : Tok × Nat => p.1.V p.2) (fun x => rfl) ts]; trivial
def LexPost (s s' : Hp) (r : AV) : Except Nat (List (Tok × Nat)) → Prop
  | .ok ts => ∃ o, Owned s s' 4 (TL ts) o ∧ r = .tup [.sl (TL ts) o, .v (.int .i64 0)]
  | .error e => s.sub s' ∧ r = .tup [.sl [] .nil, .v (.int .i64 e)]
theorem tokR_ok {t : Tok} {n : Nat} : tokR (.ok (t, n)) = .tup [t.V 0, .v (.int .i64 n), .v (.int .i64 0)] := rfl
theorem tokR_err {e : Nat} : tokR (.error e) = .tup [zTok.V 0, .v (.int .i64 0), .v (.int .i64 e)] := rfl
theorem numV_err {neg : Bool} {D e : Nat} (h : numV neg D = .error e) : e = 7 := by
  unfold numV at h
  split at h <;> split at h <;> simp only [Except.error.injEq, reduceCtorEq] at h <;> omega
theorem tokP_err {l : List UInt8} {e : Nat} (h : tokP l = .error e) : e = 2 ∨ e = 7 := by
  unfold tokP at h
  split at h
  · cases h
  · split at h
    · unfold numP at h
      split at h
      · simp only [Except.error.injEq] at h; exact .inl h.symm
      · split at h
        · cases h
        · rename_i e' hv
          simp only [Except.error.injEq] at h
          exact .inr (by rw [← h]; exact numV_err hv)
    · split at h
      · cases h
      · simp only [Except.error.injEq] at h; exact .inl h.symm
theorem Lex_spec (l : List UInt8) (s : Hp) (hT : Tabs s) :
    AC Tryz.prog 29 [strV l] s fun r s' => LexPost s s' r (lexT l) := by
  refine AC_run hm prep29 (by simp) ?_
  by_cases h1000 : (1000 : Int) < (l.length : Int)
  · simp (dsimp := false) (implicitDefEqProofs := false) (disch := first | omega | assumption | (simp only [rL, Nat.reduceAdd]; try omega)) only [↓rD, rU, ev, ofConst, ofCell, simprocAttr, rX, List.drop_succ_cons, ↓rF, rG, ne_eq, not_true_eq_false, not_false_eq_true, Int.reduceNe, List.getElem?_cons_zero, List.getElem?_cons_succ, ↓rK, rM, strV, h1000]
    have e : lexT l = .error 10 := by simp only [lexT]; rw [if_pos (by omega)]
    exact ⟨_, Hp.sub_refl, by rw [e]; exact ⟨Hp.sub_refl, rfl⟩⟩
  have hl : l.length ≤ 1000 := by omega
  have e : lexT l = lexQ l.length l := by simp only [lexT, lexQ]; rw [if_neg (by omega)]
  rw [e]
  simp (dsimp := false) (implicitDefEqProofs := false) (disch := first | omega | assumption | (simp only [rL, Nat.reduceAdd]; try omega)) only [↓rD, rU, ev, ofConst, ofCell, simprocAttr, rX, List.drop_succ_cons, ↓rF, rG, ne_eq, not_true_eq_false, not_false_eq_true, Int.reduceNe, List.getElem?_cons_zero, List.getElem?_cons_succ, ↓rK, rM, strV, h1000]
  refine call_intro (blanks_spec l _ (by omega)) ?_
  rintro _ s1 ⟨hs1, rfl⟩
  simp (dsimp := false) (implicitDefEqProofs := false) (disch := first | omega | assumption | (simp only [rL, Nat.reduceAdd]; try omega)) only [↓rD, rU, ev, ofConst, ofCell, simprocAttr, rX, List.drop_succ_cons, ↓rF, rG, ne_eq, not_true_eq_false, not_false_eq_true, Int.reduceNe, List.getElem?_cons_zero, List.getElem?_cons_succ, ↓rK, rM, strV]
  refine loop_intro (fun f s' => ∃ (rest : List UInt8) (acc : List (Tok × Nat)) (o : Own), rest.length ≤ l.length ∧ l.drop (l.length - rest.length) = rest ∧ skip false rest = rest ∧ appE acc (lexQ l.length rest) = lexQ l.length l ∧ acc.length + rest.length ≤ l.length ∧
      Owned s s' 4 (TL acc) o ∧ f 0 = strV l ∧ f 4 = .sl (TL acc) o ∧ f 5 = .v (.int .i64 ((l.length - rest.length : Nat) : Int)))
    (fun f _ => match f 5 with | .v (.int _ n) => l.length - n.toNat | _ => 0) ⟨skip false l, [], .nil, skip_le _ _, ?_, skip_idem _ _, ?_, ?_, Owned.nil hs1, ?_⟩ ?_
  · obtain ⟨k, hk, hk2⟩ := skip_sfx false l
    rw [hk, List.length_drop]
    congr 1; omega
  · rw [lexQ_skip]
    cases lexQ l.length l <;> rfl
  · have := skip_le false l; simpa using this
  · simp (dsimp := false) (implicitDefEqProofs := false) (disch := first | omega | assumption | (simp only [rL, Nat.reduceAdd]; try omega)) only [↓rD, rU, ev, ofConst, ofCell, simprocAttr, rX, List.drop_succ_cons, ↓rF, rG, ne_eq, not_true_eq_false, not_false_eq_true, Int.reduceNe, List.getElem?_cons_zero, List.getElem?_cons_succ, ↓rK, rM]
    rfl
  · rintro f s' ⟨rest, acc, o, hle, hdrop, hsk, happ, hacc, hown, f0, f4, f5⟩
    have f0' : f 0 = .v (.string ⟨l.toArray⟩) := f0
    by_cases hlt : ((l.length - rest.length : Nat) : Int) < (l.length : Int)
    · have hpos : 0 < rest.length := by omega
      have hne : rest ≠ [] := List.length_pos_iff.1 hpos
      simp (dsimp := false) (implicitDefEqProofs := false) (disch := first | omega | assumption | (simp only [rL, Nat.reduceAdd]; try omega)) only [↓rD, rU, ev, ofConst, ofCell, simprocAttr, rX, List.drop_succ_cons, ↓rF, rG, ne_eq, not_true_eq_false, not_false_eq_true, Int.reduceNe, List.getElem?_cons_zero, List.getElem?_cons_succ, ↓rK, rM, f0', f4, f5, hlt, hdrop]
      refine call_intro (token_spec rest hne (by omega) _ (hT.mono hown.sub)) ?_
      rintro _ s2 ⟨hs2, rfl⟩
      have hq := lexQ_eq l.length rest
      rw [hsk, if_neg hne] at hq
      cases ht : tokP rest with
      | error e =>
        rw [ht] at hq
        have he := tokP_err ht
        simp (dsimp := false) (implicitDefEqProofs := false) (disch := first | omega | assumption | (simp only [rL, Nat.reduceAdd]; try omega)) only [↓rD, rU, ev, ofConst, ofCell, simprocAttr, rX, List.drop_succ_cons, ↓rF, rG, ne_eq, not_true_eq_false, not_false_eq_true, Int.reduceNe, List.getElem?_cons_zero, List.getElem?_cons_succ, ↓rK, rM, f0', f4, f5, tokR_err]
        refine newK_intro fun l6 n6 => ?_
        have hne0 : ¬ ((e : Nat) : Int) = 0 := by omega
        simp (dsimp := false) (implicitDefEqProofs := false) (disch := first | omega | assumption | (simp only [rL, Nat.reduceAdd]; try omega)) only [↓rD, rU, ev, ofConst, ofCell, simprocAttr, rX, List.drop_succ_cons, ↓rF, rG, ne_eq, not_true_eq_false, not_false_eq_true, Int.reduceNe, List.getElem?_cons_zero, List.getElem?_cons_succ, ↓rK, rM, rTok, hne0]
        refine ⟨_, Hp.sub_refl, ?_⟩
        rw [← happ, hq]
        exact ⟨Hp.sub_trans hown.sub (Hp.sub_trans hs2 (Hp.sub_new Hp.sub_refl n6)), rfl⟩
      | ok x =>
        obtain ⟨t, n⟩ := x
        rw [ht] at hq
        simp only at hq
        have hn := tokP_n hne ht
        simp (dsimp := false) (implicitDefEqProofs := false) (disch := first | omega | assumption | (simp only [rL, Nat.reduceAdd]; try omega)) only [↓rD, rU, ev, ofConst, ofCell, simprocAttr, rX, List.drop_succ_cons, ↓rF, rG, ne_eq, not_true_eq_false, not_false_eq_true, Int.reduceNe, List.getElem?_cons_zero, List.getElem?_cons_succ, ↓rK, rM, f0', f4, f5, tokR_ok]
        refine newK_intro fun l6 n6 => ?_
        simp (dsimp := false) (implicitDefEqProofs := false) (disch := first | omega | assumption | (simp only [rL, Nat.reduceAdd]; try omega)) only [↓rD, rU, ev, ofConst, ofCell, simprocAttr, rX, List.drop_succ_cons, ↓rF, rG, ne_eq, not_true_eq_false, not_false_eq_true, Int.reduceNe, List.getElem?_cons_zero, List.getElem?_cons_succ, ↓rK, rM, rTok, f0', f4, f5]
        have hown2 : Owned s (s2.set l6 (.cells (t.C (l.length - rest.length)))) 4 (TL acc) o := hown.mono (Hp.sub_trans hs2 (Hp.sub_new Hp.sub_refl n6))
        refine bsl_own Hp.sub_refl ?_ fun o1 s3 h3 => ?_
        · intro e he; simp at he; subst he; rfl
        simp (dsimp := false) (implicitDefEqProofs := false) (disch := first | omega | assumption | (simp only [rL, Nat.reduceAdd]; try omega)) only [↓rD, rU, ev, ofConst, ofCell, simprocAttr, rX, List.drop_succ_cons, ↓rF, rG, ne_eq, not_true_eq_false, not_false_eq_true, Int.reduceNe, List.getElem?_cons_zero, List.getElem?_cons_succ, ↓rK, rM, rTok]
        have hlenT : (TL acc).length = acc.length := by simp [TL]
        refine app_own (hown2.mono h3.sub) TL_len ?_ (by simp [hlenT]; omega) (by simp [hlenT]; omega) fun o4 s4 h4 => ?_
        · intro e he; simp at he; subst he; rfl
        have eacc : TL acc ++ [t.V (l.length - rest.length)] = TL (acc ++ [(t, l.length - rest.length)]) := by simp [TL]
        rw [eacc] at h4 ⊢
        have e5 : ((l.length - rest.length : Nat) : Int) + (n : Int) = ((l.length - rest.length + n : Nat) : Int) := by omega
        have hdrop2 : l.drop (l.length - rest.length + n) = rest.drop n := by rw [← List.drop_drop, hdrop]
        simp (dsimp := false) (implicitDefEqProofs := false) (disch := first | omega | assumption | (simp only [rL, Nat.reduceAdd]; try omega)) only [↓rD, rU, ev, ofConst, ofCell, simprocAttr, rX, List.drop_succ_cons, ↓rF, rG, ne_eq, not_true_eq_false, not_false_eq_true, Int.reduceNe, List.getElem?_cons_zero, List.getElem?_cons_succ, ↓rK, rM, f0', f4, f5, e5, hdrop2]
        refine call_intro (blanks_spec (rest.drop n) _ (by rw [List.length_drop]; omega)) ?_
        rintro _ s5 ⟨hs5, rfl⟩
        simp (dsimp := false) (implicitDefEqProofs := false) (disch := first | omega | assumption | (simp only [rL, Nat.reduceAdd]; try omega)) only [↓rD, rU, ev, ofConst, ofCell, simprocAttr, rX, List.drop_succ_cons, ↓rF, rG, ne_eq, not_true_eq_false, not_false_eq_true, Int.reduceNe, List.getElem?_cons_zero, List.getElem?_cons_succ, ↓rK, rM, f0', f4, f5]
        have hskl := skip_le false (rest.drop n)
        rw [List.length_drop] at hskl
        refine ⟨⟨skip false (rest.drop n), acc ++ [(t, l.length - rest.length)], o4, by omega, ?_, skip_idem _ _, ?_, ?_, h4.mono hs5, rfl, rfl, ?_⟩, ?_⟩
        · obtain ⟨k, hk, hk2⟩ := skip_sfx false (rest.drop n)
          have hkl : (skip false (rest.drop n)).length = rest.length - n - k := by rw [hk, List.length_drop, List.length_drop]
          rw [List.length_drop] at hk2
          rw [hkl]
          conv => rhs; rw [hk, ← hdrop2, List.drop_drop]
          congr 1; omega
        · rw [lexQ_skip, ← happ, hq]
          cases lexQ l.length (rest.drop n) with
          | error e => rfl
          | ok ts => simp [appE]
        · simp; omega
        · rw [List.length_drop]; simp; omega
        · rw [List.length_drop]; omega
    · have hr0 : rest = [] := List.eq_nil_of_length_eq_zero (by omega)
      simp (dsimp := false) (implicitDefEqProofs := false) (disch := first | omega | assumption | (simp only [rL, Nat.reduceAdd]; try omega)) only [↓rD, rU, ev, ofConst, ofCell, simprocAttr, rX, List.drop_succ_cons, ↓rF, rG, ne_eq, not_true_eq_false, not_false_eq_true, Int.reduceNe, List.getElem?_cons_zero, List.getElem?_cons_succ, ↓rK, rM, f0', f4, f5, hlt]
      subst hr0
      refine ⟨_, Hp.sub_refl, ?_⟩
      rw [← happ]
      exact ⟨o, by simpa using hown, by simp⟩
end Go.Proofs.YtgfbealjkdhdbaaGreatDoor
set_option maxRecDepth 100000
namespace Go.Proofs.YtgfbealjkdhdbaaGreatDoor
open Go Go.Av
def isP (t : Tok) (x : List UInt8) : Bool := (decide (t.kind = 1) || decide (t.kind = 3)) && decide (t.text = x)
theorem kind_eq {k m : UInt8} {n : Nat} (h : m.toNat = n) : (((k.toNat : Nat) : Int) = ((n : Nat) : Int)) ↔ k = m := by
  subst h
  constructor
  · intro h; exact UInt8.toNat_inj.1 (by omega)
  · rintro rfl; rfl
theorem kind1 {k : UInt8} : (((k.toNat : Nat) : Int) = 1) ↔ k = 1 := kind_eq (m := 1) (n := 1) rfl
theorem kind3 {k : UInt8} : (((k.toNat : Nat) : Int) = 3) ↔ k = 3 := kind_eq (m := 3) (n := 3) rfl
def Tok.D (t : Tok) (a : Int) : List AV := [.v (.int .u8 t.kind.toNat), strV t.text, .v (.int .i64 t.num), .v (.int .i64 a)]
def Tok.W (t : Tok) (a : Int) : AV := .agg (t.D a)
theorem dok_mkv {t : Tok} {n : Int} : mkv true 4 (t.D n) = t.W n := rfl
theorem dok_len {t : Tok} {n : Int} : (t.D n).length = 4 := rfl
theorem dok_cells {t : Tok} {n : Int} : (t.W n).cells = t.D n := rfl
theorem dok_aggc {t : Tok} {n : Int} : (AV.agg (t.D n)) = t.W n := rfl
theorem rdD_tok0 {t : Tok} {n : Int} : rdA false 1 0 (some (t.D n)) = some (.v (.int .u8 t.kind.toNat)) := rfl
theorem rdD_tok1 {t : Tok} {n : Int} : rdA false 1 1 (some (t.D n)) = some (strV t.text) := rfl
theorem rdD_tok {t : Tok} {n : Int} : rdA true 4 0 (some (t.D n)) = some (t.W n) := rfl
theorem dok_put {t u : Tok} {n m : Int} : putAt (t.D n) 0 (u.D m) = u.D m := rfl
theorem dok_putz {t : Tok} {n : Nat} {u : Tok} {m : Int} : putAt (t.C n) 0 (u.D m) = u.D m := rfl
def rTokD := And.intro @dok_mkv <| And.intro @dok_len <| And.intro @dok_cells <| And.intro @dok_aggc <| And.intro @rdD_tok0 <| And.intro @rdD_tok1 <| And.intro @rdD_tok <| And.intro @dok_put @dok_putz
theorem Is_spec (t : Tok) (n : Int) (x : List UInt8) (s : Hp) : AC Tryz.prog 80 [t.W n, strV x] s fun r s' => s.sub s' ∧ r = .v (.bool (isP t x)) := by
  refine AC_run hm prep80 (by simp) ?_
  simp (dsimp := false) (implicitDefEqProofs := false) (disch := first | omega | assumption | (simp only [rL, Nat.reduceAdd]; try omega)) only [↓rD, rU, ev, ofConst, ofCell, simprocAttr, rX, List.drop_succ_cons, ↓rF, rG, ne_eq, not_true_eq_false, not_false_eq_true, Int.reduceNe, List.getElem?_cons_zero, List.getElem?_cons_succ, ↓rK, rM, rTok, rTokD]
  refine newK_intro fun l nl => ?_
  have hsub : s.sub (s.set l (.cells (t.D n))) := Hp.sub_new Hp.sub_refl nl
  by_cases h1 : t.kind = 1
  · have e1 := kind1.2 h1
    simp (dsimp := false) (implicitDefEqProofs := false) (disch := first | omega | assumption | (simp only [rL, Nat.reduceAdd]; try omega)) only [↓rD, rU, ev, ofConst, ofCell, simprocAttr, rX, List.drop_succ_cons, ↓rF, rG, ne_eq, not_true_eq_false, not_false_eq_true, Int.reduceNe, List.getElem?_cons_zero, List.getElem?_cons_succ, ↓rK, rM, rTok, rTokD, e1, strV]
    exact ⟨_, Hp.sub_refl, hsub, by simp [isP, h1]⟩
  · have e1 : ¬ ((t.kind.toNat : Nat) : Int) = 1 := fun h => h1 (kind1.1 h)
    by_cases h3 : t.kind = 3
    · have e3 := kind3.2 h3
      simp (dsimp := false) (implicitDefEqProofs := false) (disch := first | omega | assumption | (simp only [rL, Nat.reduceAdd]; try omega)) only [↓rD, rU, ev, ofConst, ofCell, simprocAttr, rX, List.drop_succ_cons, ↓rF, rG, ne_eq, not_true_eq_false, not_false_eq_true, Int.reduceNe, List.getElem?_cons_zero, List.getElem?_cons_succ, ↓rK, rM, rTok, rTokD, e1, e3, strV]
      exact ⟨_, Hp.sub_refl, hsub, by simp [isP, h3]⟩
    · have e3 : ¬ ((t.kind.toNat : Nat) : Int) = 3 := fun h => h3 (kind3.1 h)
      simp (dsimp := false) (implicitDefEqProofs := false) (disch := first | omega | assumption | (simp only [rL, Nat.reduceAdd]; try omega)) only [↓rD, rU, ev, ofConst, ofCell, simprocAttr, rX, List.drop_succ_cons, ↓rF, rG, ne_eq, not_true_eq_false, not_false_eq_true, Int.reduceNe, List.getElem?_cons_zero, List.getElem?_cons_succ, ↓rK, rM, rTok, rTokD, e1, e3, strV]
      exact ⟨_, Hp.sub_refl, hsub, by simp [isP, h1, h3]⟩
end Go.Proofs.YtgfbealjkdhdbaaGreatDoor
set_option maxRecDepth 100000
namespace Go.Proofs.YtgfbealjkdhdbaaGreatDoor
open Go Go.Av
theorem binA_addS {a b : List UInt8} (h : a.length + b.length ≤ 9223372036854775807) : binA .add (strV a) (strV b) = some (strV (a ++ b)) := by
  simp only [strV, binA_v, add_str a b h]; rfl
theorem binA_addS32 {a : List UInt8} (h : a.length + 1 ≤ 9223372036854775807) : binA .add (strV a) (.v (.string ⟨#[32]⟩)) = some (strV (a ++ [32])) := binA_addS (b := [32]) h
theorem ofNat_dig {d : Nat} (h : d < 10) : (UInt8.ofNat (48 + d)).toNat = 48 + d := by
  rw [UInt8.toNat_ofNat']; omega
theorem decF_len : ∀ (f u : Nat), (decF f u).length ≤ f
  | 0, _ => by simp [decF]
  | f + 1, u => by
    simp only [decF]; split
    · simp
    · have := decF_len f (u / 10); simp; omega
end Go.Proofs.YtgfbealjkdhdbaaGreatDoor
set_option maxRecDepth 100000
namespace Go.Proofs.YtgfbealjkdhdbaaGreatDoor
open Go Go.Av
def isF : List (List UInt8) → List Tok → Option (List Tok)
  | [], l => some l
  | w :: ws, t :: l => if isP t w then isF ws l else none
  | _ :: _, [] => none
theorem isF_long : ∀ (ws : List (List UInt8)) (l : List Tok), l.length < ws.length → isF ws l = none
  | [], _, h => by simp at h
  | _ :: _, [], _ => rfl
  | w :: ws, t :: l, h => by
    simp only [isF]; split
    · exact isF_long ws l (by simpa using h)
    · rfl
theorem isF_step {ws : List (List UInt8)} {l : List Tok} {i : Nat} {w : List UInt8} {t : Tok} (hw : ws[i]? = some w) (ht : l[i]? = some t) : isF (ws.drop i) (l.drop i) = if isP t w then isF (ws.drop (i + 1)) (l.drop (i + 1)) else none := by
  have h1 : i < ws.length := (List.getElem?_eq_some_iff.1 hw).1
  have h2 : i < l.length := (List.getElem?_eq_some_iff.1 ht).1
  have e1 : ws[i] = w := (List.getElem?_eq_some_iff.1 hw).2
  have e2 : l[i] = t := (List.getElem?_eq_some_iff.1 ht).2
  rw [List.drop_eq_getElem_cons h1, List.drop_eq_getElem_cons h2, e1, e2]; rfl
theorem isF_len : ∀ (ws : List (List UInt8)) (l l' : List Tok), isF ws l = some l' → l'.length + ws.length = l.length
  | [], l, l', h => by simp only [isF, Option.some.injEq] at h; subst h; rfl
  | _ :: _, [], l', h => by simp [isF] at h
  | w :: ws, t :: l, l', h => by
    simp only [isF] at h; split at h
    · have := isF_len ws l l' h; simp only [List.length_cons]; omega
    · cases h
def nextF : List Tok → Option (Tok × List Tok)
  | [] => none
  | t :: l => some (t, l)
def numberF : List Tok → Option (Int × List Tok)
  | [] => none
  | t :: l => if t.kind = 2 then some (t.num, l) else none
def Toks (xs : List AV) (l : List Tok) : Prop := ∃ ts : List (Tok × Nat), xs = TL ts ∧ ts.map Prod.fst = l
def TK (lt : Nat) (l : List Tok) (s0 s : Hp) : Prop := s0.sub s ∧ s0 lt = none ∧ ∃ xs o, Toks xs l ∧ s lt = some (.cells [.sl xs o])
theorem TK.mono {lt : Nat} {l : List Tok} {s0 s s' : Hp} (h : TK lt l s0 s) (hs : s.sub s') : TK lt l s0 s' := by
  obtain ⟨h1, h2, xs, o, h3, h4⟩ := h
  exact ⟨Hp.sub_trans h1 hs, h2, xs, o, h3, hs _ _ h4⟩
theorem TK.base {lt : Nat} {l : List Tok} {s1 s0 s : Hp} (h : TK lt l s0 s) (hs : s1.sub s0) : TK lt l s1 s :=
  ⟨Hp.sub_trans hs h.1, Hp.sub_none hs h.2.1, h.2.2⟩
theorem TK.all {lt : Nat} {l : List Tok} {s0 s : Hp} (h : TK lt l s0 s) : TK lt l (s.del lt) s :=
  ⟨fun l' o ho => by
    have hne : l' ≠ lt := by rintro rfl; rw [Hp.del_same] at ho; cases ho
    rw [Hp.del_ne _ hne] at ho; exact ho, Hp.del_same _ _, h.2.2⟩
theorem TK.set {lt : Nat} {l l' : List Tok} {s0 s : Hp} {xs : List AV} {o : Own} (h : TK lt l s0 s) (hx : Toks xs l') : TK lt l' s0 (s.set lt (.cells [.sl xs o])) :=
  ⟨Hp.sub_new h.1 h.2.1, h.2.1, xs, o, hx, Hp.set_same _ _ _⟩
theorem TK.new {lt l5 : Nat} {l : List Tok} {s0 s : Hp} {ob : Ob} (h : TK lt l s0 s) (hl : s l5 = none) : TK lt l (s0.set l5 ob) (s.set l5 ob) := by
  obtain ⟨h1, h2, xs, o, h3, h4⟩ := h
  have hne : lt ≠ l5 := by rintro rfl; rw [hl] at h4; cases h4
  exact ⟨Hp.sub_set h1, by rw [Hp.set_ne _ _ hne]; exact h2, xs, o, h3, by rw [Hp.set_ne _ _ hne]; exact h4⟩
theorem Toks.get {xs : List AV} {l : List Tok} {i : Nat} {t : Tok} {o : Own} (h : Toks xs l) (hi : l[i]? = some t) : ∃ n : Nat, iaSA 4 (.sl xs o) (.v (.int .i64 (i : Int))) = some (.rptr (t.C n)) := by
  obtain ⟨ts, rfl, rfl⟩ := h
  simp only [List.getElem?_map, Option.map_eq_some_iff] at hi
  obtain ⟨⟨t', n⟩, h1, h2⟩ := hi
  obtain rfl : t' = t := h2
  refine ⟨n, ?_⟩
  have hel : (TL ts)[i]? = some (t'.V n) := by simp [TL, h1]
  have h0 : (0 : Int) ≤ (i : Int) := by omega
  simp only [iaSA, h0, if_true, Int.toNat_natCast, hel]
  rw [elA_some (e := t'.V n) (k := 4) rfl]; rfl
theorem Toks.len {xs : List AV} {l : List Tok} (h : Toks xs l) : xs.length = l.length := by
  obtain ⟨ts, rfl, rfl⟩ := h; simp [TL]
theorem Toks.all {xs : List AV} {l : List Tok} (h : Toks xs l) : allLen 4 xs := by
  obtain ⟨ts, rfl, rfl⟩ := h; exact TL_len
theorem Toks.drop {xs : List AV} {l : List Tok} (n : Nat) (h : Toks xs l) : Toks (xs.drop n) (l.drop n) := by
  obtain ⟨ts, rfl, rfl⟩ := h; exact ⟨ts.drop n, by simp [TL, List.map_drop], by simp [List.map_drop]⟩
def stopV (n : Int) : AV := .iface 74 (.agg [.v (.int .i64 n)])
def Stop (s0 : Hp) (n : Int) : AV → Hp → Prop := fun r s' => r = stopV n ∧ s0.sub s'
theorem fail_spec (s : Hp) : ACp Tryz.prog 32 [] s (fun _ _ => False) (up (Stop s 2)) := by
  refine ACp_run hm prep32 (by simp) ?_
  simp (dsimp := false) (implicitDefEqProofs := false) (disch := first | omega | assumption | (simp only [rL, Nat.reduceAdd]; try omega)) only [↓rA, rZ, List.drop_succ_cons, ne_eq, not_true_eq_false, not_false_eq_true, List.getElem?_cons_zero, List.getElem?_cons_succ, ev, ofConst, ofCell, simprocAttr]
  exact pan_intro ⟨rfl, Hp.sub_refl⟩
theorem next_spec (lt : Nat) (l : List Tok) (s0 s : Hp) (h : TK lt l s0 s) :
    ACp Tryz.prog 83 [.ptr lt 0] s (fun r s' => ∃ t l' n, nextF l = some (t, l') ∧ r = t.V n ∧ TK lt l' s0 s') (up (fun r s' => nextF l = none ∧ Stop s0 2 r s')) := by
  refine ACp_run hm prep83 (by simp) ?_
  obtain ⟨h1, h2, xs, o, h3, h4⟩ := h
  have hTK : TK lt l s0 s := ⟨h1, h2, xs, o, h3, h4⟩
  simp (dsimp := false) (implicitDefEqProofs := false) (disch := first | omega | assumption | (simp only [rL, Nat.reduceAdd]; try omega)) only [↓rA, rZ, List.drop_succ_cons, ne_eq, not_true_eq_false, not_false_eq_true, List.getElem?_cons_zero, List.getElem?_cons_succ, ev, ofConst, ofCell, simprocAttr]
  refine newK_intro fun l2 n2 => ?_
  have d2 : lt ≠ l2 := by rintro rfl; rw [n2] at h4; cases h4
  have g4 : (s.set l2 (.cells (zTok.C 0))) lt = some (.cells [.sl xs o]) := by rw [Hp.set_ne _ _ d2]; exact h4
  have hlen := h3.len
  cases l with
  | nil =>
    have e : ((xs.length : Nat) : Int) = 0 := by rw [hlen]; rfl
    simp (dsimp := false) (implicitDefEqProofs := false) (disch := first | omega | assumption | (simp only [rL, Nat.reduceAdd]; try omega)) only [↓rA, rZ, List.drop_succ_cons, ne_eq, not_true_eq_false, not_false_eq_true, List.getElem?_cons_zero, List.getElem?_cons_succ, ev, ofConst, ofCell, simprocAttr, rTok, Hp.read_of g4, e]
    refine callp_intro (fail_spec _) (fun _ _ h => h.elim) ?_
    rintro r s' ⟨rfl, hs⟩
    exact ⟨rfl, rfl, Hp.sub_trans h1 (Hp.sub_trans (Hp.sub_new Hp.sub_refl n2) hs)⟩
  | cons t l' =>
    have e : (((xs.length : Nat) : Int) = 0) = False := by rw [hlen]; simp; omega
    obtain ⟨n, hn⟩ := h3.get (o := o) (i := 0) (t := t) rfl
    have c0 : ((0 : Nat) : Int) = 0 := rfl
    rw [c0] at hn
    simp (dsimp := false) (implicitDefEqProofs := false) (disch := first | omega | assumption | (simp only [rL, Nat.reduceAdd]; try omega)) only [↓rA, rZ, List.drop_succ_cons, ne_eq, not_true_eq_false, not_false_eq_true, List.getElem?_cons_zero, List.getElem?_cons_succ, ev, ofConst, ofCell, simprocAttr, rTok, Hp.read_of g4, e, hn]
    refine newK_intro fun l3 n3 => ?_
    have d3 : lt ≠ l3 := by rintro rfl; rw [n3] at g4; cases g4
    have d23 : l2 ≠ l3 := by rintro rfl; rw [Hp.set_same] at n3; cases n3
    have g5 : ((s.set l2 (.cells (zTok.C 0))).set l3 (.cells (t.C n))) lt = some (.cells [.sl xs o]) := by rw [Hp.set_ne _ _ d3]; exact g4
    have hal := h3.all
    have h1le : (1 : Int) ≤ (xs.length : Int) := by rw [hlen, List.length_cons]; omega
    have d2' := Ne.symm d2
    have d3' := Ne.symm d3
    have d32 := Ne.symm d23
    simp (dsimp := false) (implicitDefEqProofs := false) (disch := first | omega | assumption | (simp only [rL, Nat.reduceAdd]; try omega)) only [↓rA, rZ, List.drop_succ_cons, ne_eq, not_true_eq_false, not_false_eq_true, List.getElem?_cons_zero, List.getElem?_cons_succ, ev, ofConst, ofCell, simprocAttr, rTok, Hp.read_of g4, Hp.read_of g5, Hp.stA_of g5, hn, hal, h1le, Hp.set_ne, d2, d3, d23, d2', d3', d32]
    refine ⟨_, Hp.sub_refl, t, l', n, rfl, rfl, ?_⟩
    refine ⟨?_, h2, _, _, h3.drop 1, Hp.set_same _ _ _⟩
    exact Hp.sub_new (Hp.sub_new (Hp.sub_new h1 (Hp.sub_none h1 n2)) (Hp.sub_none (Hp.sub_new h1 (Hp.sub_none h1 n2)) n3)) h2
theorem is_spec (lt : Nat) (ws : List (List UInt8)) (ow : Own) (l : List Tok) (s0 s : Hp) (h : TK lt l s0 s) (hw : ws.length ≤ 1000) :
    AC Tryz.prog 46 [.ptr lt 0, .sl (ws.map strV) ow] s fun r s' => r = .v (.bool (isF ws l).isSome) ∧ TK lt ((isF ws l).getD l) s0 s' := by
  refine AC_run hm prep46 (by simp) ?_
  obtain ⟨h1, h2, xs, o, h3, h4⟩ := h
  have hTK : TK lt l s0 s := ⟨h1, h2, xs, o, h3, h4⟩
  have hlen := h3.len
  by_cases hc : (xs.length : Int) < (ws.length : Int)
  · simp (dsimp := false) (implicitDefEqProofs := false) (disch := first | omega | assumption | (simp only [rL, Nat.reduceAdd]; try omega)) only [↓rA, rZ, List.drop_succ_cons, ne_eq, not_true_eq_false, not_false_eq_true, List.getElem?_cons_zero, List.getElem?_cons_succ, ev, ofConst, ofCell, simprocAttr, Hp.read_of h4, hc, List.length_map]
    refine ⟨_, Hp.sub_refl, ?_⟩
    rw [isF_long ws l (by omega)]
    exact ⟨rfl, hTK⟩
  · simp (dsimp := false) (implicitDefEqProofs := false) (disch := first | omega | assumption | (simp only [rL, Nat.reduceAdd]; try omega)) only [↓rA, rZ, List.drop_succ_cons, ne_eq, not_true_eq_false, not_false_eq_true, List.getElem?_cons_zero, List.getElem?_cons_succ, ev, ofConst, ofCell, simprocAttr, Hp.read_of h4, hc, List.length_map]
    refine loop_intro (fun f s' => ∃ i : Nat, i ≤ ws.length ∧ s.sub s' ∧ f 0 = .ptr lt 0 ∧ f 1 = .sl (ws.map strV) ow ∧ f 15 = .sl (ws.map strV) ow ∧ f 16 = .v (.int .i64 ws.length) ∧ f 17 = .v (.int .i64 i) ∧ isF ws l = isF (ws.drop i) (l.drop i))
      (fun f _ => match f 17 with | .v (.int _ n) => ws.length - n.toNat | _ => 0) ⟨0, by omega, Hp.sub_refl, ?_⟩ ?_
    · simp (dsimp := false) (implicitDefEqProofs := false) (disch := first | omega | assumption | (simp only [rL, Nat.reduceAdd]; try omega)) only [↓rA, rZ, List.drop_succ_cons, ne_eq, not_true_eq_false, not_false_eq_true, List.getElem?_cons_zero, List.getElem?_cons_succ, ev, ofConst, ofCell, simprocAttr, List.length_map]
    · rintro f s' ⟨i, hi, hs, f0, f1, f15, f16, f17, hF⟩
      have g4 := hs _ _ h4
      by_cases hlt : (i : Int) < (ws.length : Int)
      · have hi' : i < ws.length := by omega
        have hw1 : ws[i]? = some ws[i] := List.getElem?_eq_getElem hi'
        generalize ws[i] = w at hw1
        have ht1 : l[i]? = some (l[i]'(by omega)) := List.getElem?_eq_getElem (by omega)
        generalize l[i]'(by omega) = t at ht1
        obtain ⟨n, hn⟩ := h3.get (o := o) ht1
        have e1 : iaSA 1 (.sl (ws.map strV) ow) (.v (.int .i64 (i : Int))) = some (.rptr [strV w]) := by
          have h0 : (0 : Int) ≤ (i : Int) := by omega
          simp only [iaSA, h0, if_true, Int.toNat_natCast, List.getElem?_map, hw1, Option.map_some]
          rw [elA_some (e := strV w) (k := 1) rfl]; rfl
        rw [isF_step hw1 ht1] at hF
        simp (dsimp := false) (implicitDefEqProofs := false) (disch := first | omega | assumption | (simp only [rL, Nat.reduceAdd]; try omega)) only [↓rA, rZ, List.drop_succ_cons, ne_eq, not_true_eq_false, not_false_eq_true, List.getElem?_cons_zero, List.getElem?_cons_succ, ev, ofConst, ofCell, simprocAttr, f0, f1, f15, f16, f17, hlt, e1, Hp.read_of g4, hn, rTok, strV]
        refine call_intro (Is_spec t n w s') ?_
        rintro _ s2 ⟨hs2, rfl⟩
        cases hq : isP t w with
        | true =>
          rw [hq, if_pos rfl] at hF
          simp (dsimp := false) (implicitDefEqProofs := false) (disch := first | omega | assumption | (simp only [rL, Nat.reduceAdd]; try omega)) only [↓rA, rZ, List.drop_succ_cons, ne_eq, not_true_eq_false, not_false_eq_true, List.getElem?_cons_zero, List.getElem?_cons_succ, ev, ofConst, ofCell, simprocAttr, f0, f1, f15, f16, f17]
          exact ⟨⟨i + 1, by omega, Hp.sub_trans hs hs2, by simp, hF⟩, by omega⟩
        | false =>
          rw [hq, if_neg (by simp)] at hF
          simp (dsimp := false) (implicitDefEqProofs := false) (disch := first | omega | assumption | (simp only [rL, Nat.reduceAdd]; try omega)) only [↓rA, rZ, List.drop_succ_cons, ne_eq, not_true_eq_false, not_false_eq_true, List.getElem?_cons_zero, List.getElem?_cons_succ, ev, ofConst, ofCell, simprocAttr, f0, f1, f15, f16, f17]
          refine ⟨_, Hp.sub_refl, ?_⟩
          rw [hF]
          exact ⟨rfl, hTK.mono (Hp.sub_trans hs hs2)⟩
      · obtain rfl : i = ws.length := by omega
        rw [List.drop_of_length_le (Nat.le_refl _)] at hF
        have hF' : isF ws l = some (l.drop ws.length) := hF
        have hal := h3.all
        have hle : (ws.length : Int) ≤ (xs.length : Int) := by omega
        simp (dsimp := false) (implicitDefEqProofs := false) (disch := first | omega | assumption | (simp only [rL, Nat.reduceAdd]; try omega)) only [↓rA, rZ, List.drop_succ_cons, ne_eq, not_true_eq_false, not_false_eq_true, List.getElem?_cons_zero, List.getElem?_cons_succ, ev, ofConst, ofCell, simprocAttr, f0, f1, f15, f16, f17, hlt, Hp.read_of g4, Hp.stA_of g4, hal, hle, List.length_map]
        refine ⟨_, Hp.sub_refl, ?_⟩
        rw [hF']
        refine ⟨rfl, ?_⟩
        exact (hTK.mono hs).set (by simpa using h3.drop ws.length)
theorem must_spec (lt : Nat) (ws : List (List UInt8)) (ow : Own) (l : List Tok) (s0 s : Hp) (h : TK lt l s0 s) (hw : ws.length ≤ 1000) :
    ACp Tryz.prog 81 [.ptr lt 0, .sl (ws.map strV) ow] s (fun _ s' => ∃ l', isF ws l = some l' ∧ TK lt l' s0 s') (up (fun r s' => isF ws l = none ∧ Stop s0 2 r s')) := by
  refine ACp_run hm prep81 (by simp) ?_
  simp (dsimp := false) (implicitDefEqProofs := false) (disch := first | omega | assumption | (simp only [rL, Nat.reduceAdd]; try omega)) only [↓rA, rZ, List.drop_succ_cons, ne_eq, not_true_eq_false, not_false_eq_true, List.getElem?_cons_zero, List.getElem?_cons_succ, ev, ofConst, ofCell, simprocAttr]
  refine call_intro (is_spec lt ws ow l s0 s h hw) ?_
  rintro _ s2 ⟨rfl, h2⟩
  cases hq : isF ws l with
  | none =>
    simp (dsimp := false) (implicitDefEqProofs := false) (disch := first | omega | assumption | (simp only [rL, Nat.reduceAdd]; try omega)) only [↓rA, rZ, List.drop_succ_cons, ne_eq, not_true_eq_false, not_false_eq_true, List.getElem?_cons_zero, List.getElem?_cons_succ, ev, ofConst, ofCell, simprocAttr, Option.isSome_none]
    refine callp_intro (fail_spec _) (fun _ _ h => h.elim) ?_
    rintro r s' ⟨rfl, hs⟩
    exact ⟨rfl, Hp.sub_trans h2.1 hs⟩
  | some l' =>
    rw [hq] at h2
    simp (dsimp := false) (implicitDefEqProofs := false) (disch := first | omega | assumption | (simp only [rL, Nat.reduceAdd]; try omega)) only [↓rA, rZ, List.drop_succ_cons, ne_eq, not_true_eq_false, not_false_eq_true, List.getElem?_cons_zero, List.getElem?_cons_succ, ev, ofConst, ofCell, simprocAttr, Option.isSome_some]
    exact ⟨_, Hp.sub_refl, l', rfl, h2⟩
theorem kind2 {k : UInt8} : (((k.toNat : Nat) : Int) = 2) ↔ k = 2 := kind_eq (m := 2) (n := 2) rfl
theorem pnumber_spec (lt : Nat) (l : List Tok) (s0 s : Hp) (h : TK lt l s0 s) :
    ACp Tryz.prog 92 [.ptr lt 0] s (fun r s' => ∃ v l', numberF l = some (v, l') ∧ r = .v (.int .i64 v) ∧ TK lt l' s0 s') (up (fun r s' => numberF l = none ∧ Stop s0 2 r s')) := by
  refine ACp_run hm prep92 (by simp) ?_
  simp (dsimp := false) (implicitDefEqProofs := false) (disch := first | omega | assumption | (simp only [rL, Nat.reduceAdd]; try omega)) only [↓rA, rZ, List.drop_succ_cons, ne_eq, not_true_eq_false, not_false_eq_true, List.getElem?_cons_zero, List.getElem?_cons_succ, ev, ofConst, ofCell, simprocAttr]
  refine callp_intro (next_spec lt l s0 s h) ?_ ?_
  · rintro _ s2 ⟨t, l', n, hl, rfl, h2⟩
    simp (dsimp := false) (implicitDefEqProofs := false) (disch := first | omega | assumption | (simp only [rL, Nat.reduceAdd]; try omega)) only [↓rA, rZ, List.drop_succ_cons, ne_eq, not_true_eq_false, not_false_eq_true, List.getElem?_cons_zero, List.getElem?_cons_succ, ev, ofConst, ofCell, simprocAttr]
    refine newK_intro fun l3 n3 => ?_
    have h3 := (h2.new n3 (ob := .cells (t.C n))).base (Hp.sub_new (t := s0) Hp.sub_refl (Hp.sub_none h2.1 n3))
    cases l with
    | nil => cases hl
    | cons t0 l0 =>
      obtain ⟨rfl, rfl⟩ : t0 = t ∧ l0 = l' := by simpa [nextF] using hl
      by_cases hk : t0.kind = 2
      · have e := kind2.2 hk
        simp (dsimp := false) (implicitDefEqProofs := false) (disch := first | omega | assumption | (simp only [rL, Nat.reduceAdd]; try omega)) only [↓rA, rZ, List.drop_succ_cons, ne_eq, not_true_eq_false, not_false_eq_true, List.getElem?_cons_zero, List.getElem?_cons_succ, ev, ofConst, ofCell, simprocAttr, rTok, e]
        exact ⟨_, Hp.sub_refl, t0.num, l0, by simp [numberF, hk], rfl, h3⟩
      · have e : ¬ (((t0.kind.toNat : Nat) : Int) = 2) := fun h => hk (kind2.1 h)
        simp (dsimp := false) (implicitDefEqProofs := false) (disch := first | omega | assumption | (simp only [rL, Nat.reduceAdd]; try omega)) only [↓rA, rZ, List.drop_succ_cons, ne_eq, not_true_eq_false, not_false_eq_true, List.getElem?_cons_zero, List.getElem?_cons_succ, ev, ofConst, ofCell, simprocAttr, rTok, e]
        refine callp_intro (fail_spec _) (fun _ _ h => h.elim) ?_
        rintro r s' ⟨rfl, hs⟩
        exact ⟨by simp [numberF, hk], rfl, Hp.sub_trans h3.1 hs⟩
  · rintro r s' ⟨hl, hs⟩
    refine ⟨?_, hs⟩
    cases l with
    | nil => rfl
    | cons t l => cases hl
end Go.Proofs.YtgfbealjkdhdbaaGreatDoor
set_option maxRecDepth 100000
namespace Go.Proofs.YtgfbealjkdhdbaaGreatDoor
open Go Go.Av
theorem iaSA_strs {ws : List (List UInt8)} {o : Own} {i : Nat} {w : List UInt8} (h : ws[i]? = some w) : iaSA 1 (.sl (ws.map strV) o) (.v (.int .i64 (i : Int))) = some (.rptr [strV w]) := by
  have h0 : (0 : Int) ≤ (i : Int) := by omega
  simp only [iaSA, h0, if_true, Int.toNat_natCast, List.getElem?_map, h, Option.map_some]
  rw [elA_some (e := strV w) (k := 1) rfl]; rfl
theorem indexS_spec (ws : List (List UInt8)) (o : Own) (w : List UInt8) (s : Hp) (hn : ws.length ≤ 1000000) :
    AC Tryz.prog 126 [.sl (ws.map strV) o, strV w] s fun r s' => s' = s ∧ ∃ k : Int, r = .v (.int .i64 k) ∧ (0 ≤ k ↔ w ∈ ws) := by
  refine AC_run hm prep126 (by simp) ?_
  simp (dsimp := false) (implicitDefEqProofs := false) (disch := first | omega | assumption | (simp only [rL, Nat.reduceAdd]; try omega)) only [↓rA, rZ, List.drop_succ_cons, ne_eq, not_true_eq_false, not_false_eq_true, List.getElem?_cons_zero, List.getElem?_cons_succ, ev, ofConst, ofCell, simprocAttr, List.length_map]
  refine loop_intro (fun f s' => ∃ i : Nat, i ≤ ws.length ∧ s' = s ∧ f 0 = .sl (ws.map strV) o ∧ f 1 = strV w ∧ f 7 = .v (.int .i64 ws.length) ∧ f 8 = .v (.int .i64 i) ∧ w ∉ ws.take i)
    (fun f _ => match f 8 with | .v (.int _ n) => ws.length - n.toNat | _ => 0) ⟨0, by omega, rfl, ?_⟩ ?_
  · simp (dsimp := false) (implicitDefEqProofs := false) (disch := first | omega | assumption | (simp only [rL, Nat.reduceAdd]; try omega)) only [↓rA, rZ, List.drop_succ_cons, ne_eq, not_true_eq_false, not_false_eq_true, List.getElem?_cons_zero, List.getElem?_cons_succ, ev, ofConst, ofCell, simprocAttr, List.length_map, List.take_zero, List.not_mem_nil]
  · rintro f s' ⟨i, hi, rfl, f0, f1, f7, f8, hni⟩
    by_cases hlt : (i : Int) < (ws.length : Int)
    · have hi' : i < ws.length := by omega
      have hw1 : ws[i]? = some ws[i] := List.getElem?_eq_getElem hi'
      have hwi : ws[i] ∈ ws := List.getElem_mem _
      have htk : ws.take (i + 1) = ws.take i ++ [ws[i]] := by rw [List.take_succ, hw1]; rfl
      generalize ws[i] = v at hw1 hwi htk
      by_cases hx : w = v
      · subst hx
        simp (dsimp := false) (implicitDefEqProofs := false) (disch := first | omega | assumption | (simp only [rL, Nat.reduceAdd]; try omega)) only [↓rA, rZ, List.drop_succ_cons, ne_eq, not_true_eq_false, not_false_eq_true, List.getElem?_cons_zero, List.getElem?_cons_succ, ev, ofConst, ofCell, simprocAttr, f0, f1, f7, f8, hlt, iaSA_strs hw1, binA_eqlS, cells_str]
        refine ⟨_, Hp.sub_refl, rfl, _, rfl, ?_⟩
        simp [hwi]
      · simp (dsimp := false) (implicitDefEqProofs := false) (disch := first | omega | assumption | (simp only [rL, Nat.reduceAdd]; try omega)) only [↓rA, rZ, List.drop_succ_cons, ne_eq, not_true_eq_false, not_false_eq_true, List.getElem?_cons_zero, List.getElem?_cons_succ, ev, ofConst, ofCell, simprocAttr, f0, f1, f7, f8, hlt, iaSA_strs hw1, binA_eqlS, cells_str, hx, decide_false]
        refine ⟨⟨i + 1, by omega, by simp, ?_⟩, by omega⟩
        rw [htk]; simp [hni, hx]
    · obtain rfl : i = ws.length := by omega
      simp (dsimp := false) (implicitDefEqProofs := false) (disch := first | omega | assumption | (simp only [rL, Nat.reduceAdd]; try omega)) only [↓rA, rZ, List.drop_succ_cons, ne_eq, not_true_eq_false, not_false_eq_true, List.getElem?_cons_zero, List.getElem?_cons_succ, ev, ofConst, ofCell, simprocAttr, f0, f1, f7, f8, hlt]
      refine ⟨_, Hp.sub_refl, rfl, _, rfl, ?_⟩
      rw [List.take_length] at hni
      simp [hni]
theorem containsS_spec (ws : List (List UInt8)) (o : Own) (w : List UInt8) (s : Hp) (hn : ws.length ≤ 1000000) :
    AC Tryz.prog 112 [.sl (ws.map strV) o, strV w] s fun r s' => s' = s ∧ r = .v (.bool (decide (w ∈ ws))) := by
  refine AC_run hm prep112 (by simp) ?_
  simp (dsimp := false) (implicitDefEqProofs := false) (disch := first | omega | assumption | (simp only [rL, Nat.reduceAdd]; try omega)) only [↓rA, rZ, List.drop_succ_cons, ne_eq, not_true_eq_false, not_false_eq_true, List.getElem?_cons_zero, List.getElem?_cons_succ, ev, ofConst, ofCell, simprocAttr]
  refine call_intro (indexS_spec ws o w s hn) ?_
  rintro _ _ ⟨rfl, k, rfl, hk⟩
  by_cases h : w ∈ ws
  · have h0 := hk.2 h
    simp (dsimp := false) (implicitDefEqProofs := false) (disch := first | omega | assumption | (simp only [rL, Nat.reduceAdd]; try omega)) only [↓rA, rZ, List.drop_succ_cons, ne_eq, not_true_eq_false, not_false_eq_true, List.getElem?_cons_zero, List.getElem?_cons_succ, ev, ofConst, ofCell, simprocAttr, h0]
    exact ⟨_, Hp.sub_refl, rfl, by simp [h]⟩
  · have h0 : ¬ 0 ≤ k := fun h' => h (hk.1 h')
    simp (dsimp := false) (implicitDefEqProofs := false) (disch := first | omega | assumption | (simp only [rL, Nat.reduceAdd]; try omega)) only [↓rA, rZ, List.drop_succ_cons, ne_eq, not_true_eq_false, not_false_eq_true, List.getElem?_cons_zero, List.getElem?_cons_succ, ev, ofConst, ofCell, simprocAttr, h0]
    exact ⟨_, Hp.sub_refl, rfl, by simp [h]⟩
def keys : List (List UInt8) := [[99, 114, 101, 97, 116, 101], [116, 97, 98, 108, 101], [100, 114, 111, 112], [105, 110, 115, 101, 114, 116], [105, 110, 116, 111], [118, 97, 108, 117, 101, 115], [100, 101, 108, 101, 116, 101], [102, 114, 111, 109], [119, 104, 101, 114, 101], [117, 112, 100, 97, 116, 101], [115, 101, 116], [115, 101, 108, 101, 99, 116], [99, 111, 117, 110, 116], [97, 115], [111, 102], [111, 114, 100, 101, 114], [98, 121], [97, 115, 99], [100, 101, 115, 99], [109, 97, 110, 104, 97, 116, 116, 97, 110], [108, 105, 109, 105, 116], [98, 101, 103, 105, 110], [99, 111, 109, 109, 105, 116], [114, 111, 108, 108, 98, 97, 99, 107], [97, 110, 100], [98, 101, 116, 119, 101, 101, 110]]
theorem allLen_strs {ws : List (List UInt8)} : allLen 1 (ws.map strV) := by
  rw [allLen_map (k := 1) (g := strV) (fun x => rfl) ws]; trivial
theorem isKey_spec (w : List UInt8) (s : Hp) : AC Tryz.prog 85 [strV w] s fun r s' => s.sub s' ∧ r = .v (.bool (decide (w ∈ keys))) := by
  refine AC_run hm prep85 (by simp) ?_
  simp (dsimp := false) (implicitDefEqProofs := false) (disch := first | omega | assumption | (simp only [rL, Nat.reduceAdd]; try omega)) only [↓rA, rZ, List.drop_succ_cons, ne_eq, not_true_eq_false, not_false_eq_true, List.getElem?_cons_zero, List.getElem?_cons_succ, ev, ofConst, ofCell, simprocAttr]
  refine bsl_own Hp.sub_refl (show allLen 1 (keys.map strV) from allLen_strs) fun o1 s1 h1 => ?_
  simp (dsimp := false) (implicitDefEqProofs := false) (disch := first | omega | assumption | (simp only [rL, Nat.reduceAdd]; try omega)) only [↓rA, rZ, List.drop_succ_cons, ne_eq, not_true_eq_false, not_false_eq_true, List.getElem?_cons_zero, List.getElem?_cons_succ, ev, ofConst, ofCell, simprocAttr]
  refine call_intro (containsS_spec keys o1 w s1 (by decide)) ?_
  rintro _ _ ⟨rfl, rfl⟩
  simp (dsimp := false) (implicitDefEqProofs := false) (disch := first | omega | assumption | (simp only [rL, Nat.reduceAdd]; try omega)) only [↓rA, rZ, List.drop_succ_cons, ne_eq, not_true_eq_false, not_false_eq_true, List.getElem?_cons_zero, List.getElem?_cons_succ, ev, ofConst, ofCell, simprocAttr]
  exact ⟨_, Hp.sub_refl, h1.sub⟩
def okN (first : Bool) (c : Int) : Bool := (decide (97 ≤ c) && decide (c ≤ 122)) || (!first && ((decide (48 ≤ c) && decide (c ≤ 57)) || decide (c = 95)))
def goN : Bool → List UInt8 → Bool
  | _, [] => true
  | b, c :: r => okN b c.toNat && goN false r
def isNameS (l : List UInt8) : Bool := goN true l && (decide (1 ≤ l.length) && decide (l.length ≤ 16))
theorem goN_step {l : List UInt8} {pos : Nat} (h : pos < l.length) (b : Bool) : goN b (l.drop pos) = (okN b l[pos].toNat && goN false (l.drop (pos + 1))) := by
  rw [List.drop_eq_getElem_cons h]; rfl
theorem IsName_spec (l : List UInt8) (s : Hp) : AC Tryz.prog 84 [strV l] s fun r s' => s.sub s' ∧ r = .v (.bool (isNameS l)) := by
  refine AC_run hm prep84 (by simp) ?_
  simp (dsimp := false) (implicitDefEqProofs := false) (disch := first | omega | assumption | (simp only [rL, Nat.reduceAdd]; try omega)) only [↓rA, rZ, List.drop_succ_cons, ne_eq, not_true_eq_false, not_false_eq_true, List.getElem?_cons_zero, List.getElem?_cons_succ, ev, ofConst, ofCell, simprocAttr, strV]
  refine newK_intro fun li ni => ?_
  simp (dsimp := false) (implicitDefEqProofs := false) (disch := first | omega | assumption | (simp only [rL, Nat.reduceAdd]; try omega)) only [↓rA, rZ, List.drop_succ_cons, ne_eq, not_true_eq_false, not_false_eq_true, List.getElem?_cons_zero, List.getElem?_cons_succ, ev, ofConst, ofCell, simprocAttr, strV]
  refine loop_intro (fun f s' => ∃ pos : Nat, pos ≤ l.length ∧ s' = s.set li (.it ⟨l.toArray⟩ pos) ∧ f 0 = .v (.string ⟨l.toArray⟩) ∧ f 7 = .ptr li 0 ∧ goN true l = goN (decide (pos = 0)) (l.drop pos))
    (fun _ s' => match s' li with | some (.it _ pos) => l.length - pos | _ => 0) ⟨0, by omega, rfl, ?_⟩ ?_
  · simp (dsimp := false) (implicitDefEqProofs := false) (disch := first | omega | assumption | (simp only [rL, Nat.reduceAdd]; try omega)) only [↓rA, rZ, List.drop_succ_cons, ne_eq, not_true_eq_false, not_false_eq_true, List.getElem?_cons_zero, List.getElem?_cons_succ, ev, ofConst, ofCell, simprocAttr]
    rfl
  · rintro f _ ⟨pos, hpos, rfl, f0, f7, hgo⟩
    have hsub : s.sub (s.set li (.it ⟨l.toArray⟩ pos)) := Hp.sub_new Hp.sub_refl ni
    simp (dsimp := false) (implicitDefEqProofs := false) (disch := first | omega | assumption | (simp only [rL, Nat.reduceAdd]; try omega)) only [↓rA, rZ, List.drop_succ_cons, ne_eq, not_true_eq_false, not_false_eq_true, List.getElem?_cons_zero, List.getElem?_cons_succ, ev, ofConst, ofCell, simprocAttr, f7]
    by_cases h0 : pos < l.length
    · refine nxtS_some (Hp.set_same _ _ _) h0 ?_
      rw [Hp.set_set]
      rw [goN_step h0] at hgo
      have key : ∃ w c : Nat, Utf8.decode ⟨l.toArray⟩ pos = (c, w) ∧ okN (decide (pos = 0)) c = okN (decide (pos = 0)) l[pos].toNat ∧ (okN (decide (pos = 0)) c = true → w = 1) := by
        by_cases hb : l[pos].toNat < 128
        · exact ⟨_, _, decode_low l pos h0 hb, rfl, fun _ => rfl⟩
        · have hq := decode_high l pos h0 (by omega)
          generalize Utf8.decode ⟨l.toArray⟩ pos = dd at hq
          obtain ⟨cc, ww⟩ := dd
          obtain ⟨q1, q2, q3, q4, q5⟩ := hq
          simp only at q1 q2 q3 q4 q5
          have hh : ∀ (b : Bool) (x : Int), 128 ≤ x → okN b x = false := fun b x hx => by
            have e1 : ¬ x ≤ 122 := by omega
            have e2 : ¬ x ≤ 57 := by omega
            have e3 : ¬ x = 95 := by omega
            simp [okN, e1, e2, e3]
          refine ⟨_, _, rfl, ?_, fun h => ?_⟩
          · rw [hh _ _ (by omega), hh _ _ (by omega)]
          · rw [hh _ _ (by omega)] at h; cases h
      obtain ⟨w, c, hd, hok, hw⟩ := key
      rw [hd]
      rw [← hok] at hgo
      have fin : okN (decide (pos = 0)) c = false → ∃ s', s'.sub (s.set li (.it ⟨l.toArray⟩ (pos + w))) ∧ s.sub s' ∧ AV.v (.bool false) = .v (.bool (isNameS l)) := fun h => by
        refine ⟨_, Hp.sub_refl, Hp.sub_new Hp.sub_refl ni, ?_⟩
        rw [isNameS, hgo, h]; rfl
      have go : okN (decide (pos = 0)) c = true → goN true l = goN false (l.drop (pos + 1)) := fun h => by rw [hgo, h]; rfl
      have c0 : ((pos : Nat) : Int) = 0 ↔ pos = 0 := by omega
      by_cases h1 : 97 ≤ (c : Int)
      · by_cases h2 : (c : Int) ≤ 122
        · have ho : okN (decide (pos = 0)) c = true := by simp [okN, h1, h2]
          have := hw ho; subst this
          simp (dsimp := false) (implicitDefEqProofs := false) (disch := first | omega | assumption | (simp only [rL, Nat.reduceAdd]; try omega)) only [↓rA, rZ, List.drop_succ_cons, ne_eq, not_true_eq_false, not_false_eq_true, List.getElem?_cons_zero, List.getElem?_cons_succ, ev, ofConst, ofCell, simprocAttr, f0, f7, h1, h2]
          exact ⟨⟨pos + 1, by omega, rfl, by rw [go ho]; rw [decide_eq_false (by omega)]⟩, by simp only [Hp.set_same]; omega⟩
        · by_cases hp : pos = 0
          · have ho : okN (decide (pos = 0)) c = false := by simp [okN, h2, hp]
            have hp' := c0.2 hp
            simp (dsimp := false) (implicitDefEqProofs := false) (disch := first | omega | assumption | (simp only [rL, Nat.reduceAdd]; try omega)) only [↓rA, rZ, List.drop_succ_cons, ne_eq, not_true_eq_false, not_false_eq_true, List.getElem?_cons_zero, List.getElem?_cons_succ, ev, ofConst, ofCell, simprocAttr, f0, f7, h1, h2, hp']
            exact fin ho
          · have h3 : ¬ (c : Int) < 48 := by omega
            have h4 : 57 < (c : Int) := by omega
            have h5 : ¬ (c : Int) = 95 := by omega
            have h6 : ¬ (c : Int) ≤ 57 := by omega
            have ho : okN (decide (pos = 0)) c = false := by simp [okN, h2, h5, h6]
            have hp' : ¬ ((pos : Nat) : Int) = 0 := fun h => hp (c0.1 h)
            simp (dsimp := false) (implicitDefEqProofs := false) (disch := first | omega | assumption | (simp only [rL, Nat.reduceAdd]; try omega)) only [↓rA, rZ, List.drop_succ_cons, ne_eq, not_true_eq_false, not_false_eq_true, List.getElem?_cons_zero, List.getElem?_cons_succ, ev, ofConst, ofCell, simprocAttr, f0, f7, h1, h2, hp', h3, h4, h5]
            exact fin ho
      · by_cases hp : pos = 0
        · have ho : okN (decide (pos = 0)) c = false := by simp [okN, h1, hp]
          have hp' := c0.2 hp
          simp (dsimp := false) (implicitDefEqProofs := false) (disch := first | omega | assumption | (simp only [rL, Nat.reduceAdd]; try omega)) only [↓rA, rZ, List.drop_succ_cons, ne_eq, not_true_eq_false, not_false_eq_true, List.getElem?_cons_zero, List.getElem?_cons_succ, ev, ofConst, ofCell, simprocAttr, f0, f7, h1, hp']
          exact fin ho
        · have hp' : ¬ ((pos : Nat) : Int) = 0 := fun h => hp (c0.1 h)
          by_cases h3 : (c : Int) < 48
          · have h4 : ¬ 57 < (c : Int) := by omega
            have h5 : ¬ (c : Int) = 95 := by omega
            have h6 : ¬ 48 ≤ (c : Int) := by omega
            have ho : okN (decide (pos = 0)) c = false := by simp [okN, h1, h5, h6]
            simp (dsimp := false) (implicitDefEqProofs := false) (disch := first | omega | assumption | (simp only [rL, Nat.reduceAdd]; try omega)) only [↓rA, rZ, List.drop_succ_cons, ne_eq, not_true_eq_false, not_false_eq_true, List.getElem?_cons_zero, List.getElem?_cons_succ, ev, ofConst, ofCell, simprocAttr, f0, f7, h1, hp', h3, h4, h5]
            exact fin ho
          · by_cases h4 : 57 < (c : Int)
            · by_cases h5 : (c : Int) = 95
              · have ho : okN (decide (pos = 0)) c = true := by simp [okN, h5, hp]
                have := hw ho; subst this
                simp (dsimp := false) (implicitDefEqProofs := false) (disch := first | omega | assumption | (simp only [rL, Nat.reduceAdd]; try omega)) only [↓rA, rZ, List.drop_succ_cons, ne_eq, not_true_eq_false, not_false_eq_true, List.getElem?_cons_zero, List.getElem?_cons_succ, ev, ofConst, ofCell, simprocAttr, f0, f7, h1, hp', h3, h4, h5]
                exact ⟨⟨pos + 1, by omega, rfl, by rw [go ho]; rw [decide_eq_false (by omega)]⟩, by simp only [Hp.set_same]; omega⟩
              · have h6 : ¬ (c : Int) ≤ 57 := by omega
                have ho : okN (decide (pos = 0)) c = false := by simp [okN, h1, h5, h6]
                simp (dsimp := false) (implicitDefEqProofs := false) (disch := first | omega | assumption | (simp only [rL, Nat.reduceAdd]; try omega)) only [↓rA, rZ, List.drop_succ_cons, ne_eq, not_true_eq_false, not_false_eq_true, List.getElem?_cons_zero, List.getElem?_cons_succ, ev, ofConst, ofCell, simprocAttr, f0, f7, h1, hp', h3, h4, h5]
                exact fin ho
            · have h6 : 48 ≤ (c : Int) := by omega
              have h7 : (c : Int) ≤ 57 := by omega
              have ho : okN (decide (pos = 0)) c = true := by
                simp only [okN, decide_eq_true h6, decide_eq_true h7, decide_eq_false hp]; simp
              have := hw ho; subst this
              have h5 : ¬ (c : Int) = 95 := by omega
              simp (dsimp := false) (implicitDefEqProofs := false) (disch := first | omega | assumption | (simp only [rL, Nat.reduceAdd]; try omega)) only [↓rA, rZ, List.drop_succ_cons, ne_eq, not_true_eq_false, not_false_eq_true, List.getElem?_cons_zero, List.getElem?_cons_succ, ev, ofConst, ofCell, simprocAttr, f0, f7, h1, hp', h3, h4, h5]
              exact ⟨⟨pos + 1, by omega, rfl, by rw [go ho]; rw [decide_eq_false (by omega)]⟩, by simp only [Hp.set_same]; omega⟩
    · refine nxtS_none (Hp.set_same _ _ _) h0 ?_
      rw [List.drop_of_length_le (by omega)] at hgo
      have e : isNameS l = (decide (1 ≤ l.length) && decide (l.length ≤ 16)) := by rw [isNameS, hgo]; rfl
      by_cases h1 : 1 ≤ (l.length : Int)
      · have h1' : 1 ≤ l.length := by omega
        by_cases h2 : (l.length : Int) ≤ 16
        · have h2' : l.length ≤ 16 := by omega
          simp (dsimp := false) (implicitDefEqProofs := false) (disch := first | omega | assumption | (simp only [rL, Nat.reduceAdd]; try omega)) only [↓rA, rZ, List.drop_succ_cons, ne_eq, not_true_eq_false, not_false_eq_true, List.getElem?_cons_zero, List.getElem?_cons_succ, ev, ofConst, ofCell, simprocAttr, f0, f7, h1, h2]
          exact ⟨_, Hp.sub_refl, hsub, by rw [e]; simp [h1', h2']⟩
        · have h2' : ¬ l.length ≤ 16 := by omega
          simp (dsimp := false) (implicitDefEqProofs := false) (disch := first | omega | assumption | (simp only [rL, Nat.reduceAdd]; try omega)) only [↓rA, rZ, List.drop_succ_cons, ne_eq, not_true_eq_false, not_false_eq_true, List.getElem?_cons_zero, List.getElem?_cons_succ, ev, ofConst, ofCell, simprocAttr, f0, f7, h1, h2]
          exact ⟨_, Hp.sub_refl, hsub, by rw [e]; simp [h2']⟩
      · have h1' : ¬ 1 ≤ l.length := by omega
        simp (dsimp := false) (implicitDefEqProofs := false) (disch := first | omega | assumption | (simp only [rL, Nat.reduceAdd]; try omega)) only [↓rA, rZ, List.drop_succ_cons, ne_eq, not_true_eq_false, not_false_eq_true, List.getElem?_cons_zero, List.getElem?_cons_succ, ev, ofConst, ofCell, simprocAttr, f0, f7, h1]
        exact ⟨_, Hp.sub_refl, hsub, by rw [e, decide_eq_false h1']; rfl⟩
def nameF : List Tok → Option (List UInt8 × List Tok)
  | [] => none
  | t :: l => if t.kind = 1 ∧ isNameS t.text = true ∧ t.text ∉ keys then some (t.text, l) else none
theorem name_spec (lt : Nat) (l : List Tok) (s0 s : Hp) (h : TK lt l s0 s) :
    ACp Tryz.prog 48 [.ptr lt 0] s (fun r s' => ∃ v l', nameF l = some (v, l') ∧ r = strV v ∧ TK lt l' s0 s') (up (fun r s' => nameF l = none ∧ Stop s0 2 r s')) := by
  refine ACp_run hm prep48 (by simp) ?_
  simp (dsimp := false) (implicitDefEqProofs := false) (disch := first | omega | assumption | (simp only [rL, Nat.reduceAdd]; try omega)) only [↓rA, rZ, List.drop_succ_cons, ne_eq, not_true_eq_false, not_false_eq_true, List.getElem?_cons_zero, List.getElem?_cons_succ, ev, ofConst, ofCell, simprocAttr]
  refine callp_intro (next_spec lt l s0 s h) ?_ ?_
  · rintro _ s2 ⟨t, l', n, hl, rfl, h2⟩
    simp (dsimp := false) (implicitDefEqProofs := false) (disch := first | omega | assumption | (simp only [rL, Nat.reduceAdd]; try omega)) only [↓rA, rZ, List.drop_succ_cons, ne_eq, not_true_eq_false, not_false_eq_true, List.getElem?_cons_zero, List.getElem?_cons_succ, ev, ofConst, ofCell, simprocAttr]
    refine newK_intro fun l3 n3 => ?_
    have h3 := (h2.new n3 (ob := .cells (t.C n))).base (Hp.sub_new (t := s0) Hp.sub_refl (Hp.sub_none h2.1 n3))
    cases l with
    | nil => cases hl
    | cons t0 l0 =>
      obtain ⟨rfl, rfl⟩ : t0 = t ∧ l0 = l' := by simpa [nextF] using hl
      have g3 : (s2.set l3 (.cells (t0.C n))) l3 = some (.cells (t0.C n)) := Hp.set_same _ _ _
      by_cases hk : t0.kind = 1
      · have e := kind1.2 hk
        simp (dsimp := false) (implicitDefEqProofs := false) (disch := first | omega | assumption | (simp only [rL, Nat.reduceAdd]; try omega)) only [↓rA, rZ, List.drop_succ_cons, ne_eq, not_true_eq_false, not_false_eq_true, List.getElem?_cons_zero, List.getElem?_cons_succ, ev, ofConst, ofCell, simprocAttr, rTok, e]
        refine call_intro (IsName_spec t0.text _) ?_
        rintro _ s4 ⟨h4, rfl⟩
        have h5 := h3.mono h4
        have g4 := h4 _ _ g3
        cases hq : isNameS t0.text with
        | false =>
          simp (dsimp := false) (implicitDefEqProofs := false) (disch := first | omega | assumption | (simp only [rL, Nat.reduceAdd]; try omega)) only [↓rA, rZ, List.drop_succ_cons, ne_eq, not_true_eq_false, not_false_eq_true, List.getElem?_cons_zero, List.getElem?_cons_succ, ev, ofConst, ofCell, simprocAttr, rTok]
          refine callp_intro (fail_spec _) (fun _ _ h => h.elim) ?_
          rintro r s' ⟨rfl, hs⟩
          exact ⟨by simp [nameF, hq], rfl, Hp.sub_trans h5.1 hs⟩
        | true =>
          simp (dsimp := false) (implicitDefEqProofs := false) (disch := first | omega | assumption | (simp only [rL, Nat.reduceAdd]; try omega)) only [↓rA, rZ, List.drop_succ_cons, ne_eq, not_true_eq_false, not_false_eq_true, List.getElem?_cons_zero, List.getElem?_cons_succ, ev, ofConst, ofCell, simprocAttr, rTok, Hp.read_of g4]
          refine call_intro (isKey_spec t0.text _) ?_
          rintro _ s6 ⟨h6, rfl⟩
          have h7 := h5.mono h6
          have g6 := h6 _ _ g4
          by_cases hy : t0.text ∈ keys
          · simp (dsimp := false) (implicitDefEqProofs := false) (disch := first | omega | assumption | (simp only [rL, Nat.reduceAdd]; try omega)) only [↓rA, rZ, List.drop_succ_cons, ne_eq, not_true_eq_false, not_false_eq_true, List.getElem?_cons_zero, List.getElem?_cons_succ, ev, ofConst, ofCell, simprocAttr, rTok, hy, decide_true]
            refine callp_intro (fail_spec _) (fun _ _ h => h.elim) ?_
            rintro r s' ⟨rfl, hs⟩
            exact ⟨by simp [nameF, hy], rfl, Hp.sub_trans h7.1 hs⟩
          · simp (dsimp := false) (implicitDefEqProofs := false) (disch := first | omega | assumption | (simp only [rL, Nat.reduceAdd]; try omega)) only [↓rA, rZ, List.drop_succ_cons, ne_eq, not_true_eq_false, not_false_eq_true, List.getElem?_cons_zero, List.getElem?_cons_succ, ev, ofConst, ofCell, simprocAttr, rTok, hy, decide_false, Hp.read_of g6]
            exact ⟨_, Hp.sub_refl, t0.text, l0, by simp [nameF, hk, hq, hy], rfl, h7⟩
      · have e : ¬ (((t0.kind.toNat : Nat) : Int) = 1) := fun h => hk (kind1.1 h)
        simp (dsimp := false) (implicitDefEqProofs := false) (disch := first | omega | assumption | (simp only [rL, Nat.reduceAdd]; try omega)) only [↓rA, rZ, List.drop_succ_cons, ne_eq, not_true_eq_false, not_false_eq_true, List.getElem?_cons_zero, List.getElem?_cons_succ, ev, ofConst, ofCell, simprocAttr, rTok, e]
        refine callp_intro (fail_spec _) (fun _ _ h => h.elim) ?_
        rintro r s' ⟨rfl, hs⟩
        exact ⟨by simp [nameF, hk], rfl, Hp.sub_trans h3.1 hs⟩
  · rintro r s' ⟨hl, hs⟩
    refine ⟨?_, hs⟩
    cases l with
    | nil => rfl
    | cons t l => cases hl
end Go.Proofs.YtgfbealjkdhdbaaGreatDoor
set_option maxRecDepth 100000
namespace Go.Proofs.YtgfbealjkdhdbaaGreatDoor
open Go Go.Av
theorem own_add {s0 s : Hp} {k l : Nat} {xs : List AV} {o : Own} {cs : List AV} (h : Owned s0 s k xs o) (hl : s l = some (.cells cs)) : Owned (s0.set l (.cells cs)) s k xs o := by
  refine ⟨fun l' ob ho => ?_, ?_⟩
  · by_cases e : l' = l
    · subst e; rw [Hp.set_same] at ho; rw [← ho]; exact hl
    · rw [Hp.set_ne _ _ e] at ho; exact h.1 _ _ ho
  · have h2 := h.2
    cases o with
    | buf g c =>
      have hne : g ≠ l := by rintro rfl; rw [h2.2] at hl; cases hl
      exact ⟨by rw [Hp.set_ne _ _ hne]; exact h2.1, h2.2⟩
    | _ => exact h2
theorem own_cut {s0 s : Hp} {k l : Nat} {xs : List AV} {o : Own} {cs : List AV} (h : Owned s0 s k xs o) (h0 : s0 l = none) (hl : s l = some (.cells cs)) : Owned s0 (s.del l) k xs o := by
  refine ⟨fun l' ob ho => ?_, ?_⟩
  · have hne : l' ≠ l := by rintro rfl; rw [h0] at ho; cases ho
    rw [Hp.del_ne _ hne]; exact h.1 _ _ ho
  · have h2 := h.2
    cases o with
    | buf g c =>
      have hne : g ≠ l := by rintro rfl; rw [h2.2] at hl; cases hl
      exact ⟨h2.1, by rw [Hp.del_ne _ hne]; exact h2.2⟩
    | _ => exact h2
def moreF {α : Type} (w : List UInt8) (one : List Tok → Option (α × List Tok)) : Nat → List Tok → Option (List α × List Tok)
  | 0, l => some ([], l)
  | n + 1, l => match isF [w] l with
    | none => some ([], l)
    | some l1 => match one l1 with
      | none => none
      | some (x, l2) => (moreF w one n l2).map fun p => (x :: p.1, p.2)
def Less {α : Type} (one : List Tok → Option (α × List Tok)) : Prop := ∀ l x l', one l = some (x, l') → l'.length ≤ l.length
theorem moreF_fuel {α : Type} {w : List UInt8} {one : List Tok → Option (α × List Tok)} (h1 : Less one) : ∀ (n m : Nat) (l : List Tok), l.length ≤ n → l.length ≤ m → moreF w one n l = moreF w one m l
  | 0, 0, _, _, _ => rfl
  | 0, m + 1, l, h, _ => by
    obtain rfl : l = [] := List.eq_nil_of_length_eq_zero (by omega)
    rfl
  | n + 1, 0, l, _, h => by
    obtain rfl : l = [] := List.eq_nil_of_length_eq_zero (by omega)
    rfl
  | n + 1, m + 1, l, hn, hm => by
    simp only [moreF]
    cases hq : isF [w] l with
    | none => rfl
    | some l1 =>
      have hl := isF_len _ _ _ hq
      simp only [List.length_cons, List.length_nil] at hl
      simp only
      cases ho : one l1 with
      | none => rfl
      | some p =>
        obtain ⟨x, l2⟩ := p
        have := h1 _ _ _ ho
        simp only
        rw [moreF_fuel h1 n m l2 (by omega) (by omega)]
def moreQ {α : Type} (w : List UInt8) (one : List Tok → Option (α × List Tok)) (l : List Tok) : Option (List α × List Tok) := moreF w one l.length l
theorem moreQ_eq {α : Type} {w : List UInt8} {one : List Tok → Option (α × List Tok)} (h1 : Less one) (l : List Tok) : moreQ w one l = match isF [w] l with
    | none => some ([], l)
    | some l1 => match one l1 with
      | none => none
      | some (x, l2) => (moreQ w one l2).map fun p => (x :: p.1, p.2) := by
  unfold moreQ
  rw [moreF_fuel h1 l.length (l.length + 1) l (Nat.le_refl _) (by omega)]
  rw [moreF]
  cases hq : isF [w] l with
  | none => rfl
  | some l1 =>
    have hl := isF_len _ _ _ hq
    simp only [List.length_cons, List.length_nil] at hl
    simp only
    cases ho : one l1 with
    | none => rfl
    | some p =>
      obtain ⟨x, l2⟩ := p
      have := h1 _ _ _ ho
      simp only
      rw [moreF_fuel h1 l.length l2.length l2 (by omega) (Nat.le_refl _)]
def capF {α : Type} (xs : List α) : Option (List α × List Tok) → Option (List α × List Tok)
  | none => none
  | some (ys, l) => if 256 < (xs ++ ys).length then none else some (xs ++ ys, l)
def listF {α : Type} (w : List UInt8) (one : List Tok → Option (α × List Tok)) (l : List Tok) : Option (List α × List Tok) :=
  match one l with
  | none => none
  | some (x, l1) => capF [x] (moreQ w one l1)
theorem moreF_less {α : Type} {w : List UInt8} {one : List Tok → Option (α × List Tok)} (h1 : Less one) : ∀ (n : Nat) (l : List Tok) (xs : List α) (l' : List Tok), moreF w one n l = some (xs, l') → l'.length ≤ l.length
  | 0, l, xs, l', h => by simp only [moreF, Option.some.injEq, Prod.mk.injEq] at h; rw [h.2]; exact Nat.le_refl _
  | n + 1, l, xs, l', h => by
    simp only [moreF] at h
    cases hq : isF [w] l with
    | none => rw [hq] at h; simp only [Option.some.injEq, Prod.mk.injEq] at h; rw [h.2]; exact Nat.le_refl _
    | some l1 =>
      have hl := isF_len _ _ _ hq
      simp only [List.length_cons, List.length_nil] at hl
      rw [hq] at h
      simp only at h
      cases ho : one l1 with
      | none => rw [ho] at h; cases h
      | some p =>
        obtain ⟨x, l2⟩ := p
        have := h1 _ _ _ ho
        rw [ho] at h
        simp only [Option.map_eq_some_iff] at h
        obtain ⟨⟨ys, l3⟩, h3, h4⟩ := h
        simp only [Prod.mk.injEq] at h4
        have := moreF_less h1 n l2 ys l3 h3
        rw [← h4.2]; omega
theorem listF_less {α : Type} {w : List UInt8} {one : List Tok → Option (α × List Tok)} (h1 : Less one) : Less (listF w one) := fun l xs l' h => by
  unfold listF at h
  cases ho : one l with
  | none => rw [ho] at h; cases h
  | some p =>
    obtain ⟨x, l1⟩ := p
    have := h1 _ _ _ ho
    rw [ho] at h
    simp only at h
    cases hm : moreQ w one l1 with
    | none => rw [hm] at h; cases h
    | some q =>
      obtain ⟨ys, l2⟩ := q
      have := moreF_less h1 _ _ _ _ hm
      rw [hm] at h
      simp only [capF] at h
      split at h
      · cases h
      · simp only [Option.some.injEq, Prod.mk.injEq] at h
        rw [← h.2]; omega
theorem nameF_less : Less nameF := fun l x l' h => by
  cases l with
  | nil => cases h
  | cons t r =>
    simp only [nameF] at h
    split at h
    · simp only [Option.some.injEq, Prod.mk.injEq] at h; rw [← h.2]; simp
    · cases h
theorem numberF_less : Less numberF := fun l x l' h => by
  cases l with
  | nil => cases h
  | cons t r =>
    simp only [numberF] at h
    split at h
    · simp only [Option.some.injEq, Prod.mk.injEq] at h; rw [← h.2]; simp
    · cases h
def AllV {α : Type} (V : α → AV → Prop) : List α → List AV → Prop
  | [], [] => True
  | x :: r, a :: q => V x a ∧ AllV V r q
  | _, _ => False
theorem AllV.snoc {α : Type} {V : α → AV → Prop} {x : α} {a : AV} (h : V x a) : ∀ {xs : List α} {av : List AV}, AllV V xs av → AllV V (xs ++ [x]) (av ++ [a])
  | [], [], _ => ⟨h, trivial⟩
  | _ :: _, _ :: _, h1 => ⟨h1.1, AllV.snoc h h1.2⟩
  | [], _ :: _, h1 => h1.elim
  | _ :: _, [], h1 => h1.elim
theorem AllV.len {α : Type} {V : α → AV → Prop} : ∀ {xs : List α} {av : List AV}, AllV V xs av → av.length = xs.length
  | [], [], _ => rfl
  | _ :: _, _ :: _, h => by simp [AllV.len h.2]
  | [], _ :: _, h => h.elim
  | _ :: _, [], h => h.elim
theorem AllV.cells {α : Type} {V : α → AV → Prop} {k : Nat} (hV : ∀ x a, V x a → a.cells.length = k) : ∀ {xs : List α} {av : List AV}, AllV V xs av → allLen k av
  | [], [], _ => by intro e he; cases he
  | _ :: _, _ :: _, h => by
    rw [allLen_cons]; exact ⟨hV _ _ h.1, AllV.cells hV h.2⟩
  | [], _ :: _, h => h.elim
  | _ :: _, [], h => h.elim
def strR (x : List UInt8) (a : AV) : Prop := a = strV x
def intR (x : Int) (a : AV) : Prop := a = .v (.int .i64 x)
def rowR (x : List Int) (a : AV) : Prop := ∃ av o, AllV intR x av ∧ a = .sl av o
structure Cond where
  col : List UInt8
  op : List UInt8
  a : Int
  b : Int
def condR (x : Cond) (a : AV) : Prop := a = .agg [strV x.col, strV x.op, .v (.int .i64 x.a), .v (.int .i64 x.b)]
structure Asg where
  col : List UInt8
  n : Int
def asgR (x : Asg) (a : AV) : Prop := a = .agg [strV x.col, .v (.int .i64 x.n)]
def One {α : Type} (lt : Nat) (F : AV) (one : List Tok → Option (α × List Tok)) (V : α → AV → Prop) : Prop :=
  ∃ g ds cs, F = .clo g ds cs ∧ callOk Tryz.prog g = true ∧ ∀ l s0 s, l.length ≤ 100000 → TK lt l s0 s →
    ACp Tryz.prog g (ds ++ [] ++ cs) s (fun r s' => ∃ x l', one l = some (x, l') ∧ V x r ∧ TK lt l' s0 s') (up (fun r s' => one l = none ∧ Stop s0 2 r s'))
theorem listStr_spec (lt : Nat) (w : List UInt8) (F : AV) (one : List Tok → Option (List UInt8 × List Tok)) (h1 : Less one) (l : List Tok) (s0 s : Hp) (hl : l.length ≤ 100000) (h : TK lt l s0 s) (hF : One lt F one strR) :
    ACp Tryz.prog 82 [.ptr lt 0, strV w, F] s (fun r s' => ∃ xs l' av o, listF w one l = some (xs, l') ∧ AllV strR xs av ∧ r = .sl av o ∧ TK lt l' s0 s') (up (fun r s' => listF w one l = none ∧ Stop s0 2 r s')) := by
  obtain ⟨g, ds, cs, rfl, hok, hone⟩ := hF
  have hk : ∀ x a, strR x a → a.cells.length = 1 := by
    rintro x a rfl; rfl
  refine ACp_run hm prep82 (by simp) ?_
  simp (dsimp := false) (implicitDefEqProofs := false) (disch := first | omega | assumption | (simp only [rL, Nat.reduceAdd]; try omega)) only [↓rA, rZ, List.drop_succ_cons, ne_eq, not_true_eq_false, not_false_eq_true, List.getElem?_cons_zero, List.getElem?_cons_succ, ev, ofConst, ofCell, simprocAttr, strV]
  refine callVp_intro hok (hone l s0 s hl h) ?_ ?_
  · rintro a s2 ⟨x, l1, ho, hV, h2⟩
    have hL : listF w one l = capF [x] (moreQ w one l1) := by simp only [listF, ho]
    rw [hL]
    have hl1 := h1 _ _ _ ho
    simp (dsimp := false) (implicitDefEqProofs := false) (disch := first | omega | assumption | (simp only [rL, Nat.reduceAdd]; try omega)) only [↓rA, rZ, List.drop_succ_cons, ne_eq, not_true_eq_false, not_false_eq_true, List.getElem?_cons_zero, List.getElem?_cons_succ, ev, ofConst, ofCell, simprocAttr, strV]
    have hx := hk _ _ hV
    refine bsl_own (s0 := s2) Hp.sub_refl (show allLen 1 [a] from fun e he => by simp at he; subst he; exact hx) fun o1 s3 h3 => ?_
    have hTK3 := h2.mono h3.sub
    simp (dsimp := false) (implicitDefEqProofs := false) (disch := first | omega | assumption | (simp only [rL, Nat.reduceAdd]; try omega)) only [↓rA, rZ, List.drop_succ_cons, ne_eq, not_true_eq_false, not_false_eq_true, List.getElem?_cons_zero, List.getElem?_cons_succ, ev, ofConst, ofCell, simprocAttr, strV]
    refine loop_intro (fun f s' => ∃ xs av o ll, TK lt ll s0 s' ∧ AllV strR xs av ∧ Owned s0 s' 1 av o ∧ f 0 = .ptr lt 0 ∧ f 1 = .v (.string ⟨w.toArray⟩) ∧ f 2 = .clo g ds cs ∧ f 7 = .sl av o ∧ capF [x] (moreQ w one l1) = capF xs (moreQ w one ll) ∧ xs.length + ll.length ≤ 100001)
      (fun _ s' => match s' lt with | some (.cells [.sl xs _]) => xs.length | _ => 0) ⟨[x], [a], o1, l1, hTK3, ⟨hV, trivial⟩, h3.base h2.1, ?_⟩ ?_
    · simp (dsimp := false) (implicitDefEqProofs := false) (disch := first | omega | assumption | (simp only [rL, Nat.reduceAdd]; try omega)) only [↓rA, rZ, List.drop_succ_cons, ne_eq, not_true_eq_false, not_false_eq_true, List.getElem?_cons_zero, List.getElem?_cons_succ, ev, ofConst, ofCell, simprocAttr, strV]
      show 1 + l1.length ≤ 100001
      omega
    · rintro f s' ⟨xs, av, o, ll, hTK, hA, hO, f0, f1, f2, f7, hcap, hcnt⟩
      simp (dsimp := false) (implicitDefEqProofs := false) (disch := first | omega | assumption | (simp only [rL, Nat.reduceAdd]; try omega)) only [↓rA, rZ, List.drop_succ_cons, ne_eq, not_true_eq_false, not_false_eq_true, List.getElem?_cons_zero, List.getElem?_cons_succ, ev, ofConst, ofCell, simprocAttr, f0, f1, f2, f7]
      obtain ⟨h01, h02, ys, oy, hyT, hy2⟩ := id hTK
      have hOd := own_cut hO h02 hy2
      have hmq := moreQ_eq h1 (w := w) ll
      refine bsl_own (s0 := s') Hp.sub_refl (show allLen 1 [AV.v (.string ⟨w.toArray⟩)] from fun e he => by simp at he; subst he; rfl) fun o4 s4 h4 => ?_
      simp (dsimp := false) (implicitDefEqProofs := false) (disch := first | omega | assumption | (simp only [rL, Nat.reduceAdd]; try omega)) only [↓rA, rZ, List.drop_succ_cons, ne_eq, not_true_eq_false, not_false_eq_true, List.getElem?_cons_zero, List.getElem?_cons_succ, ev, ofConst, ofCell, simprocAttr, f0, f1, f2, f7]
      refine call_intro (is_spec lt [w] o4 ll (s'.del lt) s4 (hTK.all.mono h4.sub) (by simp)) ?_
      rintro _ s5 ⟨rfl, h5⟩
      have hO5 := hOd.mono h5.1
      have hA1 := hA.cells hk
      have hAl := hA.len
      cases hq : isF [w] ll with
      | none =>
        rw [hq] at hmq h5
        simp only at hmq
        have hfin : capF xs (moreQ w one ll) = if 256 < xs.length then none else some (xs, ll) := by rw [hmq]; simp [capF]
        rw [hcap, hfin]
        by_cases hbig : 256 < (av.length : Int)
        · rw [if_pos (by omega)]
          simp (dsimp := false) (implicitDefEqProofs := false) (disch := first | omega | assumption | (simp only [rL, Nat.reduceAdd]; try omega)) only [↓rA, rZ, List.drop_succ_cons, ne_eq, not_true_eq_false, not_false_eq_true, List.getElem?_cons_zero, List.getElem?_cons_succ, ev, ofConst, ofCell, simprocAttr, f0, f1, f2, f7, Option.isSome_none, hbig]
          refine callp_intro (fail_spec _) (fun _ _ h => h.elim) ?_
          rintro r s' ⟨rfl, hs⟩
          exact ⟨rfl, Hp.sub_trans hO5.sub hs⟩
        · rw [if_neg (by omega)]
          simp (dsimp := false) (implicitDefEqProofs := false) (disch := first | omega | assumption | (simp only [rL, Nat.reduceAdd]; try omega)) only [↓rA, rZ, List.drop_succ_cons, ne_eq, not_true_eq_false, not_false_eq_true, List.getElem?_cons_zero, List.getElem?_cons_succ, ev, ofConst, ofCell, simprocAttr, f0, f1, f2, f7, Option.isSome_none, hbig]
          exact ⟨_, Hp.sub_refl, xs, ll, av, o, rfl, hA, rfl, h5.base hOd.sub⟩
      | some l4 =>
        have hl4 := isF_len _ _ _ hq
        simp only [List.length_cons, List.length_nil] at hl4
        rw [hq] at hmq h5
        simp only at hmq
        rw [hcap]
        simp (dsimp := false) (implicitDefEqProofs := false) (disch := first | omega | assumption | (simp only [rL, Nat.reduceAdd]; try omega)) only [↓rA, rZ, List.drop_succ_cons, ne_eq, not_true_eq_false, not_false_eq_true, List.getElem?_cons_zero, List.getElem?_cons_succ, ev, ofConst, ofCell, simprocAttr, f0, f1, f2, f7, Option.isSome_some]
        refine callVp_intro hok (hone l4 (s5.del lt) s5 (by omega) h5.all) ?_ ?_
        · rintro b s6 ⟨y, l6, ho6, hV6, h6⟩
          have hl6 := h1 _ _ _ ho6
          rw [ho6] at hmq
          simp only at hmq
          simp (dsimp := false) (implicitDefEqProofs := false) (disch := first | omega | assumption | (simp only [rL, Nat.reduceAdd]; try omega)) only [↓rA, rZ, List.drop_succ_cons, ne_eq, not_true_eq_false, not_false_eq_true, List.getElem?_cons_zero, List.getElem?_cons_succ, ev, ofConst, ofCell, simprocAttr, f0, f1, f2, f7]
          have hy := hk _ _ hV6
          have hO6 : Owned s0 s6 1 av o := by
            obtain ⟨_, _, _, _, _, h55⟩ := h5
            exact (own_cut hO5 h02 h55).mono h6.1
          refine bsl_own (s0 := s6) Hp.sub_refl (show allLen 1 [b] from fun e he => by simp at he; subst he; exact hy) fun o7 s7 h7 => ?_
          simp (dsimp := false) (implicitDefEqProofs := false) (disch := first | omega | assumption | (simp only [rL, Nat.reduceAdd]; try omega)) only [↓rA, rZ, List.drop_succ_cons, ne_eq, not_true_eq_false, not_false_eq_true, List.getElem?_cons_zero, List.getElem?_cons_succ, ev, ofConst, ofCell, simprocAttr, f0, f1, f2, f7]
          obtain ⟨_, _, zs, oz, hz, hz2⟩ := h6
          have hz7 := h7.sub _ _ hz2
          refine app_own (own_add (hO6.mono h7.sub) hz7) hA1 (show allLen 1 [b] from fun e he => by simp at he; subst he; exact hy) (by simp; omega) (by simp; omega) fun o8 s8 h8 => ?_
          simp (dsimp := false) (implicitDefEqProofs := false) (disch := first | omega | assumption | (simp only [rL, Nat.reduceAdd]; try omega)) only [↓rA, rZ, List.drop_succ_cons, ne_eq, not_true_eq_false, not_false_eq_true, List.getElem?_cons_zero, List.getElem?_cons_succ, ev, ofConst, ofCell, simprocAttr, f0, f1, f2, f7]
          have g8 : s8 lt = some (.cells [.sl zs oz]) := h8.sub _ _ (Hp.set_same _ _ _)
          have hs08 : s0.sub s8 := Hp.sub_trans (Hp.sub_new Hp.sub_refl h02) h8.sub
          refine ⟨⟨xs ++ [y], av ++ [b], o8, l6, ⟨hs08, h02, zs, oz, hz, g8⟩, hA.snoc hV6, h8.base (Hp.sub_new Hp.sub_refl h02), rfl, ?_, ?_⟩, ?_⟩
          · rw [hmq]
            cases moreQ w one l6 with
            | none => rfl
            | some p => simp [capF]
          · simp; omega
          · simp only [g8, hy2]
            have e1 := hz.len
            have e3 := hyT.len
            omega
        · rintro r s6 ⟨ho6, rfl, hs6⟩
          rw [ho6] at hmq
          refine ⟨by rw [hmq]; rfl, rfl, ?_⟩
          refine Hp.sub_trans ?_ hs6
          obtain ⟨_, _, _, _, _, h55⟩ := h5
          exact (own_cut hO5 h02 h55).sub
  · rintro r s' ⟨ho, hs⟩
    exact ⟨by simp only [listF, ho], hs⟩
theorem listInt_spec (lt : Nat) (w : List UInt8) (F : AV) (one : List Tok → Option (Int × List Tok)) (h1 : Less one) (l : List Tok) (s0 s : Hp) (hl : l.length ≤ 100000) (h : TK lt l s0 s) (hF : One lt F one intR) :
    ACp Tryz.prog 113 [.ptr lt 0, strV w, F] s (fun r s' => ∃ xs l' av o, listF w one l = some (xs, l') ∧ AllV intR xs av ∧ r = .sl av o ∧ TK lt l' s0 s') (up (fun r s' => listF w one l = none ∧ Stop s0 2 r s')) := by
  obtain ⟨g, ds, cs, rfl, hok, hone⟩ := hF
  have hk : ∀ x a, intR x a → a.cells.length = 1 := by
    rintro x a rfl; rfl
  refine ACp_run hm prep113 (by simp) ?_
  simp (dsimp := false) (implicitDefEqProofs := false) (disch := first | omega | assumption | (simp only [rL, Nat.reduceAdd]; try omega)) only [↓rA, rZ, List.drop_succ_cons, ne_eq, not_true_eq_false, not_false_eq_true, List.getElem?_cons_zero, List.getElem?_cons_succ, ev, ofConst, ofCell, simprocAttr, strV]
  refine callVp_intro hok (hone l s0 s hl h) ?_ ?_
  · rintro a s2 ⟨x, l1, ho, hV, h2⟩
    have hL : listF w one l = capF [x] (moreQ w one l1) := by simp only [listF, ho]
    rw [hL]
    have hl1 := h1 _ _ _ ho
    simp (dsimp := false) (implicitDefEqProofs := false) (disch := first | omega | assumption | (simp only [rL, Nat.reduceAdd]; try omega)) only [↓rA, rZ, List.drop_succ_cons, ne_eq, not_true_eq_false, not_false_eq_true, List.getElem?_cons_zero, List.getElem?_cons_succ, ev, ofConst, ofCell, simprocAttr, strV]
    have hx := hk _ _ hV
    refine bsl_own (s0 := s2) Hp.sub_refl (show allLen 1 [a] from fun e he => by simp at he; subst he; exact hx) fun o1 s3 h3 => ?_
    have hTK3 := h2.mono h3.sub
    simp (dsimp := false) (implicitDefEqProofs := false) (disch := first | omega | assumption | (simp only [rL, Nat.reduceAdd]; try omega)) only [↓rA, rZ, List.drop_succ_cons, ne_eq, not_true_eq_false, not_false_eq_true, List.getElem?_cons_zero, List.getElem?_cons_succ, ev, ofConst, ofCell, simprocAttr, strV]
    refine loop_intro (fun f s' => ∃ xs av o ll, TK lt ll s0 s' ∧ AllV intR xs av ∧ Owned s0 s' 1 av o ∧ f 0 = .ptr lt 0 ∧ f 1 = .v (.string ⟨w.toArray⟩) ∧ f 2 = .clo g ds cs ∧ f 7 = .sl av o ∧ capF [x] (moreQ w one l1) = capF xs (moreQ w one ll) ∧ xs.length + ll.length ≤ 100001)
      (fun _ s' => match s' lt with | some (.cells [.sl xs _]) => xs.length | _ => 0) ⟨[x], [a], o1, l1, hTK3, ⟨hV, trivial⟩, h3.base h2.1, ?_⟩ ?_
    · simp (dsimp := false) (implicitDefEqProofs := false) (disch := first | omega | assumption | (simp only [rL, Nat.reduceAdd]; try omega)) only [↓rA, rZ, List.drop_succ_cons, ne_eq, not_true_eq_false, not_false_eq_true, List.getElem?_cons_zero, List.getElem?_cons_succ, ev, ofConst, ofCell, simprocAttr, strV]
      show 1 + l1.length ≤ 100001
      omega
    · rintro f s' ⟨xs, av, o, ll, hTK, hA, hO, f0, f1, f2, f7, hcap, hcnt⟩
      simp (dsimp := false) (implicitDefEqProofs := false) (disch := first | omega | assumption | (simp only [rL, Nat.reduceAdd]; try omega)) only [↓rA, rZ, List.drop_succ_cons, ne_eq, not_true_eq_false, not_false_eq_true, List.getElem?_cons_zero, List.getElem?_cons_succ, ev, ofConst, ofCell, simprocAttr, f0, f1, f2, f7]
      obtain ⟨h01, h02, ys, oy, hyT, hy2⟩ := id hTK
      have hOd := own_cut hO h02 hy2
      have hmq := moreQ_eq h1 (w := w) ll
      refine bsl_own (s0 := s') Hp.sub_refl (show allLen 1 [AV.v (.string ⟨w.toArray⟩)] from fun e he => by simp at he; subst he; rfl) fun o4 s4 h4 => ?_
      simp (dsimp := false) (implicitDefEqProofs := false) (disch := first | omega | assumption | (simp only [rL, Nat.reduceAdd]; try omega)) only [↓rA, rZ, List.drop_succ_cons, ne_eq, not_true_eq_false, not_false_eq_true, List.getElem?_cons_zero, List.getElem?_cons_succ, ev, ofConst, ofCell, simprocAttr, f0, f1, f2, f7]
      refine call_intro (is_spec lt [w] o4 ll (s'.del lt) s4 (hTK.all.mono h4.sub) (by simp)) ?_
      rintro _ s5 ⟨rfl, h5⟩
      have hO5 := hOd.mono h5.1
      have hA1 := hA.cells hk
      have hAl := hA.len
      cases hq : isF [w] ll with
      | none =>
        rw [hq] at hmq h5
        simp only at hmq
        have hfin : capF xs (moreQ w one ll) = if 256 < xs.length then none else some (xs, ll) := by rw [hmq]; simp [capF]
        rw [hcap, hfin]
        by_cases hbig : 256 < (av.length : Int)
        · rw [if_pos (by omega)]
          simp (dsimp := false) (implicitDefEqProofs := false) (disch := first | omega | assumption | (simp only [rL, Nat.reduceAdd]; try omega)) only [↓rA, rZ, List.drop_succ_cons, ne_eq, not_true_eq_false, not_false_eq_true, List.getElem?_cons_zero, List.getElem?_cons_succ, ev, ofConst, ofCell, simprocAttr, f0, f1, f2, f7, Option.isSome_none, hbig]
          refine callp_intro (fail_spec _) (fun _ _ h => h.elim) ?_
          rintro r s' ⟨rfl, hs⟩
          exact ⟨rfl, Hp.sub_trans hO5.sub hs⟩
        · rw [if_neg (by omega)]
          simp (dsimp := false) (implicitDefEqProofs := false) (disch := first | omega | assumption | (simp only [rL, Nat.reduceAdd]; try omega)) only [↓rA, rZ, List.drop_succ_cons, ne_eq, not_true_eq_false, not_false_eq_true, List.getElem?_cons_zero, List.getElem?_cons_succ, ev, ofConst, ofCell, simprocAttr, f0, f1, f2, f7, Option.isSome_none, hbig]
          exact ⟨_, Hp.sub_refl, xs, ll, av, o, rfl, hA, rfl, h5.base hOd.sub⟩
      | some l4 =>
        have hl4 := isF_len _ _ _ hq
        simp only [List.length_cons, List.length_nil] at hl4
        rw [hq] at hmq h5
        simp only at hmq
        rw [hcap]
        simp (dsimp := false) (implicitDefEqProofs := false) (disch := first | omega | assumption | (simp only [rL, Nat.reduceAdd]; try omega)) only [↓rA, rZ, List.drop_succ_cons, ne_eq, not_true_eq_false, not_false_eq_true, List.getElem?_cons_zero, List.getElem?_cons_succ, ev, ofConst, ofCell, simprocAttr, f0, f1, f2, f7, Option.isSome_some]
        refine callVp_intro hok (hone l4 (s5.del lt) s5 (by omega) h5.all) ?_ ?_
        · rintro b s6 ⟨y, l6, ho6, hV6, h6⟩
          have hl6 := h1 _ _ _ ho6
          rw [ho6] at hmq
          simp only at hmq
          simp (dsimp := false) (implicitDefEqProofs := false) (disch := first | omega | assumption | (simp only [rL, Nat.reduceAdd]; try omega)) only [↓rA, rZ, List.drop_succ_cons, ne_eq, not_true_eq_false, not_false_eq_true, List.getElem?_cons_zero, List.getElem?_cons_succ, ev, ofConst, ofCell, simprocAttr, f0, f1, f2, f7]
          have hy := hk _ _ hV6
          have hO6 : Owned s0 s6 1 av o := by
            obtain ⟨_, _, _, _, _, h55⟩ := h5
            exact (own_cut hO5 h02 h55).mono h6.1
          refine bsl_own (s0 := s6) Hp.sub_refl (show allLen 1 [b] from fun e he => by simp at he; subst he; exact hy) fun o7 s7 h7 => ?_
          simp (dsimp := false) (implicitDefEqProofs := false) (disch := first | omega | assumption | (simp only [rL, Nat.reduceAdd]; try omega)) only [↓rA, rZ, List.drop_succ_cons, ne_eq, not_true_eq_false, not_false_eq_true, List.getElem?_cons_zero, List.getElem?_cons_succ, ev, ofConst, ofCell, simprocAttr, f0, f1, f2, f7]
          obtain ⟨_, _, zs, oz, hz, hz2⟩ := h6
          have hz7 := h7.sub _ _ hz2
          refine app_own (own_add (hO6.mono h7.sub) hz7) hA1 (show allLen 1 [b] from fun e he => by simp at he; subst he; exact hy) (by simp; omega) (by simp; omega) fun o8 s8 h8 => ?_
          simp (dsimp := false) (implicitDefEqProofs := false) (disch := first | omega | assumption | (simp only [rL, Nat.reduceAdd]; try omega)) only [↓rA, rZ, List.drop_succ_cons, ne_eq, not_true_eq_false, not_false_eq_true, List.getElem?_cons_zero, List.getElem?_cons_succ, ev, ofConst, ofCell, simprocAttr, f0, f1, f2, f7]
          have g8 : s8 lt = some (.cells [.sl zs oz]) := h8.sub _ _ (Hp.set_same _ _ _)
          have hs08 : s0.sub s8 := Hp.sub_trans (Hp.sub_new Hp.sub_refl h02) h8.sub
          refine ⟨⟨xs ++ [y], av ++ [b], o8, l6, ⟨hs08, h02, zs, oz, hz, g8⟩, hA.snoc hV6, h8.base (Hp.sub_new Hp.sub_refl h02), rfl, ?_, ?_⟩, ?_⟩
          · rw [hmq]
            cases moreQ w one l6 with
            | none => rfl
            | some p => simp [capF]
          · simp; omega
          · simp only [g8, hy2]
            have e1 := hz.len
            have e3 := hyT.len
            omega
        · rintro r s6 ⟨ho6, rfl, hs6⟩
          rw [ho6] at hmq
          refine ⟨by rw [hmq]; rfl, rfl, ?_⟩
          refine Hp.sub_trans ?_ hs6
          obtain ⟨_, _, _, _, _, h55⟩ := h5
          exact (own_cut hO5 h02 h55).sub
  · rintro r s' ⟨ho, hs⟩
    exact ⟨by simp only [listF, ho], hs⟩
theorem listRow_spec (lt : Nat) (w : List UInt8) (F : AV) (one : List Tok → Option (List Int × List Tok)) (h1 : Less one) (l : List Tok) (s0 s : Hp) (hl : l.length ≤ 100000) (h : TK lt l s0 s) (hF : One lt F one rowR) :
    ACp Tryz.prog 86 [.ptr lt 0, strV w, F] s (fun r s' => ∃ xs l' av o, listF w one l = some (xs, l') ∧ AllV rowR xs av ∧ r = .sl av o ∧ TK lt l' s0 s') (up (fun r s' => listF w one l = none ∧ Stop s0 2 r s')) := by
  obtain ⟨g, ds, cs, rfl, hok, hone⟩ := hF
  have hk : ∀ x a, rowR x a → a.cells.length = 1 := by
    rintro x a ⟨_, _, _, rfl⟩; rfl
  refine ACp_run hm prep86 (by simp) ?_
  simp (dsimp := false) (implicitDefEqProofs := false) (disch := first | omega | assumption | (simp only [rL, Nat.reduceAdd]; try omega)) only [↓rA, rZ, List.drop_succ_cons, ne_eq, not_true_eq_false, not_false_eq_true, List.getElem?_cons_zero, List.getElem?_cons_succ, ev, ofConst, ofCell, simprocAttr, strV]
  refine callVp_intro hok (hone l s0 s hl h) ?_ ?_
  · rintro a s2 ⟨x, l1, ho, hV, h2⟩
    have hL : listF w one l = capF [x] (moreQ w one l1) := by simp only [listF, ho]
    rw [hL]
    have hl1 := h1 _ _ _ ho
    simp (dsimp := false) (implicitDefEqProofs := false) (disch := first | omega | assumption | (simp only [rL, Nat.reduceAdd]; try omega)) only [↓rA, rZ, List.drop_succ_cons, ne_eq, not_true_eq_false, not_false_eq_true, List.getElem?_cons_zero, List.getElem?_cons_succ, ev, ofConst, ofCell, simprocAttr, strV]
    have hx := hk _ _ hV
    refine bsl_own (s0 := s2) Hp.sub_refl (show allLen 1 [a] from fun e he => by simp at he; subst he; exact hx) fun o1 s3 h3 => ?_
    have hTK3 := h2.mono h3.sub
    simp (dsimp := false) (implicitDefEqProofs := false) (disch := first | omega | assumption | (simp only [rL, Nat.reduceAdd]; try omega)) only [↓rA, rZ, List.drop_succ_cons, ne_eq, not_true_eq_false, not_false_eq_true, List.getElem?_cons_zero, List.getElem?_cons_succ, ev, ofConst, ofCell, simprocAttr, strV]
    refine loop_intro (fun f s' => ∃ xs av o ll, TK lt ll s0 s' ∧ AllV rowR xs av ∧ Owned s0 s' 1 av o ∧ f 0 = .ptr lt 0 ∧ f 1 = .v (.string ⟨w.toArray⟩) ∧ f 2 = .clo g ds cs ∧ f 7 = .sl av o ∧ capF [x] (moreQ w one l1) = capF xs (moreQ w one ll) ∧ xs.length + ll.length ≤ 100001)
      (fun _ s' => match s' lt with | some (.cells [.sl xs _]) => xs.length | _ => 0) ⟨[x], [a], o1, l1, hTK3, ⟨hV, trivial⟩, h3.base h2.1, ?_⟩ ?_
    · simp (dsimp := false) (implicitDefEqProofs := false) (disch := first | omega | assumption | (simp only [rL, Nat.reduceAdd]; try omega)) only [↓rA, rZ, List.drop_succ_cons, ne_eq, not_true_eq_false, not_false_eq_true, List.getElem?_cons_zero, List.getElem?_cons_succ, ev, ofConst, ofCell, simprocAttr, strV]
      show 1 + l1.length ≤ 100001
      omega
    · rintro f s' ⟨xs, av, o, ll, hTK, hA, hO, f0, f1, f2, f7, hcap, hcnt⟩
      simp (dsimp := false) (implicitDefEqProofs := false) (disch := first | omega | assumption | (simp only [rL, Nat.reduceAdd]; try omega)) only [↓rA, rZ, List.drop_succ_cons, ne_eq, not_true_eq_false, not_false_eq_true, List.getElem?_cons_zero, List.getElem?_cons_succ, ev, ofConst, ofCell, simprocAttr, f0, f1, f2, f7]
      obtain ⟨h01, h02, ys, oy, hyT, hy2⟩ := id hTK
      have hOd := own_cut hO h02 hy2
      have hmq := moreQ_eq h1 (w := w) ll
      refine bsl_own (s0 := s') Hp.sub_refl (show allLen 1 [AV.v (.string ⟨w.toArray⟩)] from fun e he => by simp at he; subst he; rfl) fun o4 s4 h4 => ?_
      simp (dsimp := false) (implicitDefEqProofs := false) (disch := first | omega | assumption | (simp only [rL, Nat.reduceAdd]; try omega)) only [↓rA, rZ, List.drop_succ_cons, ne_eq, not_true_eq_false, not_false_eq_true, List.getElem?_cons_zero, List.getElem?_cons_succ, ev, ofConst, ofCell, simprocAttr, f0, f1, f2, f7]
      refine call_intro (is_spec lt [w] o4 ll (s'.del lt) s4 (hTK.all.mono h4.sub) (by simp)) ?_
      rintro _ s5 ⟨rfl, h5⟩
      have hO5 := hOd.mono h5.1
      have hA1 := hA.cells hk
      have hAl := hA.len
      cases hq : isF [w] ll with
      | none =>
        rw [hq] at hmq h5
        simp only at hmq
        have hfin : capF xs (moreQ w one ll) = if 256 < xs.length then none else some (xs, ll) := by rw [hmq]; simp [capF]
        rw [hcap, hfin]
        by_cases hbig : 256 < (av.length : Int)
        · rw [if_pos (by omega)]
          simp (dsimp := false) (implicitDefEqProofs := false) (disch := first | omega | assumption | (simp only [rL, Nat.reduceAdd]; try omega)) only [↓rA, rZ, List.drop_succ_cons, ne_eq, not_true_eq_false, not_false_eq_true, List.getElem?_cons_zero, List.getElem?_cons_succ, ev, ofConst, ofCell, simprocAttr, f0, f1, f2, f7, Option.isSome_none, hbig]
          refine callp_intro (fail_spec _) (fun _ _ h => h.elim) ?_
          rintro r s' ⟨rfl, hs⟩
          exact ⟨rfl, Hp.sub_trans hO5.sub hs⟩
        · rw [if_neg (by omega)]
          simp (dsimp := false) (implicitDefEqProofs := false) (disch := first | omega | assumption | (simp only [rL, Nat.reduceAdd]; try omega)) only [↓rA, rZ, List.drop_succ_cons, ne_eq, not_true_eq_false, not_false_eq_true, List.getElem?_cons_zero, List.getElem?_cons_succ, ev, ofConst, ofCell, simprocAttr, f0, f1, f2, f7, Option.isSome_none, hbig]
          exact ⟨_, Hp.sub_refl, xs, ll, av, o, rfl, hA, rfl, h5.base hOd.sub⟩
      | some l4 =>
        have hl4 := isF_len _ _ _ hq
        simp only [List.length_cons, List.length_nil] at hl4
        rw [hq] at hmq h5
        simp only at hmq
        rw [hcap]
        simp (dsimp := false) (implicitDefEqProofs := false) (disch := first | omega | assumption | (simp only [rL, Nat.reduceAdd]; try omega)) only [↓rA, rZ, List.drop_succ_cons, ne_eq, not_true_eq_false, not_false_eq_true, List.getElem?_cons_zero, List.getElem?_cons_succ, ev, ofConst, ofCell, simprocAttr, f0, f1, f2, f7, Option.isSome_some]
        refine callVp_intro hok (hone l4 (s5.del lt) s5 (by omega) h5.all) ?_ ?_
        · rintro b s6 ⟨y, l6, ho6, hV6, h6⟩
          have hl6 := h1 _ _ _ ho6
          rw [ho6] at hmq
          simp only at hmq
          simp (dsimp := false) (implicitDefEqProofs := false) (disch := first | omega | assumption | (simp only [rL, Nat.reduceAdd]; try omega)) only [↓rA, rZ, List.drop_succ_cons, ne_eq, not_true_eq_false, not_false_eq_true, List.getElem?_cons_zero, List.getElem?_cons_succ, ev, ofConst, ofCell, simprocAttr, f0, f1, f2, f7]
          have hy := hk _ _ hV6
          have hO6 : Owned s0 s6 1 av o := by
            obtain ⟨_, _, _, _, _, h55⟩ := h5
            exact (own_cut hO5 h02 h55).mono h6.1
          refine bsl_own (s0 := s6) Hp.sub_refl (show allLen 1 [b] from fun e he => by simp at he; subst he; exact hy) fun o7 s7 h7 => ?_
          simp (dsimp := false) (implicitDefEqProofs := false) (disch := first | omega | assumption | (simp only [rL, Nat.reduceAdd]; try omega)) only [↓rA, rZ, List.drop_succ_cons, ne_eq, not_true_eq_false, not_false_eq_true, List.getElem?_cons_zero, List.getElem?_cons_succ, ev, ofConst, ofCell, simprocAttr, f0, f1, f2, f7]
          obtain ⟨_, _, zs, oz, hz, hz2⟩ := h6
          have hz7 := h7.sub _ _ hz2
          refine app_own (own_add (hO6.mono h7.sub) hz7) hA1 (show allLen 1 [b] from fun e he => by simp at he; subst he; exact hy) (by simp; omega) (by simp; omega) fun o8 s8 h8 => ?_
          simp (dsimp := false) (implicitDefEqProofs := false) (disch := first | omega | assumption | (simp only [rL, Nat.reduceAdd]; try omega)) only [↓rA, rZ, List.drop_succ_cons, ne_eq, not_true_eq_false, not_false_eq_true, List.getElem?_cons_zero, List.getElem?_cons_succ, ev, ofConst, ofCell, simprocAttr, f0, f1, f2, f7]
          have g8 : s8 lt = some (.cells [.sl zs oz]) := h8.sub _ _ (Hp.set_same _ _ _)
          have hs08 : s0.sub s8 := Hp.sub_trans (Hp.sub_new Hp.sub_refl h02) h8.sub
          refine ⟨⟨xs ++ [y], av ++ [b], o8, l6, ⟨hs08, h02, zs, oz, hz, g8⟩, hA.snoc hV6, h8.base (Hp.sub_new Hp.sub_refl h02), rfl, ?_, ?_⟩, ?_⟩
          · rw [hmq]
            cases moreQ w one l6 with
            | none => rfl
            | some p => simp [capF]
          · simp; omega
          · simp only [g8, hy2]
            have e1 := hz.len
            have e3 := hyT.len
            omega
        · rintro r s6 ⟨ho6, rfl, hs6⟩
          rw [ho6] at hmq
          refine ⟨by rw [hmq]; rfl, rfl, ?_⟩
          refine Hp.sub_trans ?_ hs6
          obtain ⟨_, _, _, _, _, h55⟩ := h5
          exact (own_cut hO5 h02 h55).sub
  · rintro r s' ⟨ho, hs⟩
    exact ⟨by simp only [listF, ho], hs⟩
theorem listCond_spec (lt : Nat) (w : List UInt8) (F : AV) (one : List Tok → Option (Cond × List Tok)) (h1 : Less one) (l : List Tok) (s0 s : Hp) (hl : l.length ≤ 100000) (h : TK lt l s0 s) (hF : One lt F one condR) :
    ACp Tryz.prog 88 [.ptr lt 0, strV w, F] s (fun r s' => ∃ xs l' av o, listF w one l = some (xs, l') ∧ AllV condR xs av ∧ r = .sl av o ∧ TK lt l' s0 s') (up (fun r s' => listF w one l = none ∧ Stop s0 2 r s')) := by
  obtain ⟨g, ds, cs, rfl, hok, hone⟩ := hF
  have hk : ∀ x a, condR x a → a.cells.length = 4 := by
    rintro x a rfl; rfl
  refine ACp_run hm prep88 (by simp) ?_
  simp (dsimp := false) (implicitDefEqProofs := false) (disch := first | omega | assumption | (simp only [rL, Nat.reduceAdd]; try omega)) only [↓rA, rZ, List.drop_succ_cons, ne_eq, not_true_eq_false, not_false_eq_true, List.getElem?_cons_zero, List.getElem?_cons_succ, ev, ofConst, ofCell, simprocAttr, strV]
  refine callVp_intro hok (hone l s0 s hl h) ?_ ?_
  · rintro a s2 ⟨x, l1, ho, hV, h2⟩
    have hL : listF w one l = capF [x] (moreQ w one l1) := by simp only [listF, ho]
    rw [hL]
    have hl1 := h1 _ _ _ ho
    simp (dsimp := false) (implicitDefEqProofs := false) (disch := first | omega | assumption | (simp only [rL, Nat.reduceAdd]; try omega)) only [↓rA, rZ, List.drop_succ_cons, ne_eq, not_true_eq_false, not_false_eq_true, List.getElem?_cons_zero, List.getElem?_cons_succ, ev, ofConst, ofCell, simprocAttr, strV]
    have hx := hk _ _ hV
    refine bsl_own (s0 := s2) Hp.sub_refl (show allLen 4 [a] from fun e he => by simp at he; subst he; exact hx) fun o1 s3 h3 => ?_
    have hTK3 := h2.mono h3.sub
    simp (dsimp := false) (implicitDefEqProofs := false) (disch := first | omega | assumption | (simp only [rL, Nat.reduceAdd]; try omega)) only [↓rA, rZ, List.drop_succ_cons, ne_eq, not_true_eq_false, not_false_eq_true, List.getElem?_cons_zero, List.getElem?_cons_succ, ev, ofConst, ofCell, simprocAttr, strV]
    refine loop_intro (fun f s' => ∃ xs av o ll, TK lt ll s0 s' ∧ AllV condR xs av ∧ Owned s0 s' 4 av o ∧ f 0 = .ptr lt 0 ∧ f 1 = .v (.string ⟨w.toArray⟩) ∧ f 2 = .clo g ds cs ∧ f 7 = .sl av o ∧ capF [x] (moreQ w one l1) = capF xs (moreQ w one ll) ∧ xs.length + ll.length ≤ 100001)
      (fun _ s' => match s' lt with | some (.cells [.sl xs _]) => xs.length | _ => 0) ⟨[x], [a], o1, l1, hTK3, ⟨hV, trivial⟩, h3.base h2.1, ?_⟩ ?_
    · simp (dsimp := false) (implicitDefEqProofs := false) (disch := first | omega | assumption | (simp only [rL, Nat.reduceAdd]; try omega)) only [↓rA, rZ, List.drop_succ_cons, ne_eq, not_true_eq_false, not_false_eq_true, List.getElem?_cons_zero, List.getElem?_cons_succ, ev, ofConst, ofCell, simprocAttr, strV]
      show 1 + l1.length ≤ 100001
      omega
    · rintro f s' ⟨xs, av, o, ll, hTK, hA, hO, f0, f1, f2, f7, hcap, hcnt⟩
      simp (dsimp := false) (implicitDefEqProofs := false) (disch := first | omega | assumption | (simp only [rL, Nat.reduceAdd]; try omega)) only [↓rA, rZ, List.drop_succ_cons, ne_eq, not_true_eq_false, not_false_eq_true, List.getElem?_cons_zero, List.getElem?_cons_succ, ev, ofConst, ofCell, simprocAttr, f0, f1, f2, f7]
      obtain ⟨h01, h02, ys, oy, hyT, hy2⟩ := id hTK
      have hOd := own_cut hO h02 hy2
      have hmq := moreQ_eq h1 (w := w) ll
      refine bsl_own (s0 := s') Hp.sub_refl (show allLen 1 [AV.v (.string ⟨w.toArray⟩)] from fun e he => by simp at he; subst he; rfl) fun o4 s4 h4 => ?_
      simp (dsimp := false) (implicitDefEqProofs := false) (disch := first | omega | assumption | (simp only [rL, Nat.reduceAdd]; try omega)) only [↓rA, rZ, List.drop_succ_cons, ne_eq, not_true_eq_false, not_false_eq_true, List.getElem?_cons_zero, List.getElem?_cons_succ, ev, ofConst, ofCell, simprocAttr, f0, f1, f2, f7]
      refine call_intro (is_spec lt [w] o4 ll (s'.del lt) s4 (hTK.all.mono h4.sub) (by simp)) ?_
      rintro _ s5 ⟨rfl, h5⟩
      have hO5 := hOd.mono h5.1
      have hA1 := hA.cells hk
      have hAl := hA.len
      cases hq : isF [w] ll with
      | none =>
        rw [hq] at hmq h5
        simp only at hmq
        have hfin : capF xs (moreQ w one ll) = if 256 < xs.length then none else some (xs, ll) := by rw [hmq]; simp [capF]
        rw [hcap, hfin]
        by_cases hbig : 256 < (av.length : Int)
        · rw [if_pos (by omega)]
          simp (dsimp := false) (implicitDefEqProofs := false) (disch := first | omega | assumption | (simp only [rL, Nat.reduceAdd]; try omega)) only [↓rA, rZ, List.drop_succ_cons, ne_eq, not_true_eq_false, not_false_eq_true, List.getElem?_cons_zero, List.getElem?_cons_succ, ev, ofConst, ofCell, simprocAttr, f0, f1, f2, f7, Option.isSome_none, hbig]
          refine callp_intro (fail_spec _) (fun _ _ h => h.elim) ?_
          rintro r s' ⟨rfl, hs⟩
          exact ⟨rfl, Hp.sub_trans hO5.sub hs⟩
        · rw [if_neg (by omega)]
          simp (dsimp := false) (implicitDefEqProofs := false) (disch := first | omega | assumption | (simp only [rL, Nat.reduceAdd]; try omega)) only [↓rA, rZ, List.drop_succ_cons, ne_eq, not_true_eq_false, not_false_eq_true, List.getElem?_cons_zero, List.getElem?_cons_succ, ev, ofConst, ofCell, simprocAttr, f0, f1, f2, f7, Option.isSome_none, hbig]
          exact ⟨_, Hp.sub_refl, xs, ll, av, o, rfl, hA, rfl, h5.base hOd.sub⟩
      | some l4 =>
        have hl4 := isF_len _ _ _ hq
        simp only [List.length_cons, List.length_nil] at hl4
        rw [hq] at hmq h5
        simp only at hmq
        rw [hcap]
        simp (dsimp := false) (implicitDefEqProofs := false) (disch := first | omega | assumption | (simp only [rL, Nat.reduceAdd]; try omega)) only [↓rA, rZ, List.drop_succ_cons, ne_eq, not_true_eq_false, not_false_eq_true, List.getElem?_cons_zero, List.getElem?_cons_succ, ev, ofConst, ofCell, simprocAttr, f0, f1, f2, f7, Option.isSome_some]
        refine callVp_intro hok (hone l4 (s5.del lt) s5 (by omega) h5.all) ?_ ?_
        · rintro b s6 ⟨y, l6, ho6, hV6, h6⟩
          have hl6 := h1 _ _ _ ho6
          rw [ho6] at hmq
          simp only at hmq
          simp (dsimp := false) (implicitDefEqProofs := false) (disch := first | omega | assumption | (simp only [rL, Nat.reduceAdd]; try omega)) only [↓rA, rZ, List.drop_succ_cons, ne_eq, not_true_eq_false, not_false_eq_true, List.getElem?_cons_zero, List.getElem?_cons_succ, ev, ofConst, ofCell, simprocAttr, f0, f1, f2, f7]
          have hy := hk _ _ hV6
          have hO6 : Owned s0 s6 4 av o := by
            obtain ⟨_, _, _, _, _, h55⟩ := h5
            exact (own_cut hO5 h02 h55).mono h6.1
          refine bsl_own (s0 := s6) Hp.sub_refl (show allLen 4 [b] from fun e he => by simp at he; subst he; exact hy) fun o7 s7 h7 => ?_
          simp (dsimp := false) (implicitDefEqProofs := false) (disch := first | omega | assumption | (simp only [rL, Nat.reduceAdd]; try omega)) only [↓rA, rZ, List.drop_succ_cons, ne_eq, not_true_eq_false, not_false_eq_true, List.getElem?_cons_zero, List.getElem?_cons_succ, ev, ofConst, ofCell, simprocAttr, f0, f1, f2, f7]
          obtain ⟨_, _, zs, oz, hz, hz2⟩ := h6
          have hz7 := h7.sub _ _ hz2
          refine app_own (own_add (hO6.mono h7.sub) hz7) hA1 (show allLen 4 [b] from fun e he => by simp at he; subst he; exact hy) (by simp; omega) (by simp; omega) fun o8 s8 h8 => ?_
          simp (dsimp := false) (implicitDefEqProofs := false) (disch := first | omega | assumption | (simp only [rL, Nat.reduceAdd]; try omega)) only [↓rA, rZ, List.drop_succ_cons, ne_eq, not_true_eq_false, not_false_eq_true, List.getElem?_cons_zero, List.getElem?_cons_succ, ev, ofConst, ofCell, simprocAttr, f0, f1, f2, f7]
          have g8 : s8 lt = some (.cells [.sl zs oz]) := h8.sub _ _ (Hp.set_same _ _ _)
          have hs08 : s0.sub s8 := Hp.sub_trans (Hp.sub_new Hp.sub_refl h02) h8.sub
          refine ⟨⟨xs ++ [y], av ++ [b], o8, l6, ⟨hs08, h02, zs, oz, hz, g8⟩, hA.snoc hV6, h8.base (Hp.sub_new Hp.sub_refl h02), rfl, ?_, ?_⟩, ?_⟩
          · rw [hmq]
            cases moreQ w one l6 with
            | none => rfl
            | some p => simp [capF]
          · simp; omega
          · simp only [g8, hy2]
            have e1 := hz.len
            have e3 := hyT.len
            omega
        · rintro r s6 ⟨ho6, rfl, hs6⟩
          rw [ho6] at hmq
          refine ⟨by rw [hmq]; rfl, rfl, ?_⟩
          refine Hp.sub_trans ?_ hs6
          obtain ⟨_, _, _, _, _, h55⟩ := h5
          exact (own_cut hO5 h02 h55).sub
  · rintro r s' ⟨ho, hs⟩
    exact ⟨by simp only [listF, ho], hs⟩
theorem listAsg_spec (lt : Nat) (w : List UInt8) (F : AV) (one : List Tok → Option (Asg × List Tok)) (h1 : Less one) (l : List Tok) (s0 s : Hp) (hl : l.length ≤ 100000) (h : TK lt l s0 s) (hF : One lt F one asgR) :
    ACp Tryz.prog 90 [.ptr lt 0, strV w, F] s (fun r s' => ∃ xs l' av o, listF w one l = some (xs, l') ∧ AllV asgR xs av ∧ r = .sl av o ∧ TK lt l' s0 s') (up (fun r s' => listF w one l = none ∧ Stop s0 2 r s')) := by
  obtain ⟨g, ds, cs, rfl, hok, hone⟩ := hF
  have hk : ∀ x a, asgR x a → a.cells.length = 2 := by
    rintro x a rfl; rfl
  refine ACp_run hm prep90 (by simp) ?_
  simp (dsimp := false) (implicitDefEqProofs := false) (disch := first | omega | assumption | (simp only [rL, Nat.reduceAdd]; try omega)) only [↓rA, rZ, List.drop_succ_cons, ne_eq, not_true_eq_false, not_false_eq_true, List.getElem?_cons_zero, List.getElem?_cons_succ, ev, ofConst, ofCell, simprocAttr, strV]
  refine callVp_intro hok (hone l s0 s hl h) ?_ ?_
  · rintro a s2 ⟨x, l1, ho, hV, h2⟩
    have hL : listF w one l = capF [x] (moreQ w one l1) := by simp only [listF, ho]
    rw [hL]
    have hl1 := h1 _ _ _ ho
    simp (dsimp := false) (implicitDefEqProofs := false) (disch := first | omega | assumption | (simp only [rL, Nat.reduceAdd]; try omega)) only [↓rA, rZ, List.drop_succ_cons, ne_eq, not_true_eq_false, not_false_eq_true, List.getElem?_cons_zero, List.getElem?_cons_succ, ev, ofConst, ofCell, simprocAttr, strV]
    have hx := hk _ _ hV
    refine bsl_own (s0 := s2) Hp.sub_refl (show allLen 2 [a] from fun e he => by simp at he; subst he; exact hx) fun o1 s3 h3 => ?_
    have hTK3 := h2.mono h3.sub
    simp (dsimp := false) (implicitDefEqProofs := false) (disch := first | omega | assumption | (simp only [rL, Nat.reduceAdd]; try omega)) only [↓rA, rZ, List.drop_succ_cons, ne_eq, not_true_eq_false, not_false_eq_true, List.getElem?_cons_zero, List.getElem?_cons_succ, ev, ofConst, ofCell, simprocAttr, strV]
    refine loop_intro (fun f s' => ∃ xs av o ll, TK lt ll s0 s' ∧ AllV asgR xs av ∧ Owned s0 s' 2 av o ∧ f 0 = .ptr lt 0 ∧ f 1 = .v (.string ⟨w.toArray⟩) ∧ f 2 = .clo g ds cs ∧ f 7 = .sl av o ∧ capF [x] (moreQ w one l1) = capF xs (moreQ w one ll) ∧ xs.length + ll.length ≤ 100001)
      (fun _ s' => match s' lt with | some (.cells [.sl xs _]) => xs.length | _ => 0) ⟨[x], [a], o1, l1, hTK3, ⟨hV, trivial⟩, h3.base h2.1, ?_⟩ ?_
    · simp (dsimp := false) (implicitDefEqProofs := false) (disch := first | omega | assumption | (simp only [rL, Nat.reduceAdd]; try omega)) only [↓rA, rZ, List.drop_succ_cons, ne_eq, not_true_eq_false, not_false_eq_true, List.getElem?_cons_zero, List.getElem?_cons_succ, ev, ofConst, ofCell, simprocAttr, strV]
      show 1 + l1.length ≤ 100001
      omega
    · rintro f s' ⟨xs, av, o, ll, hTK, hA, hO, f0, f1, f2, f7, hcap, hcnt⟩
      simp (dsimp := false) (implicitDefEqProofs := false) (disch := first | omega | assumption | (simp only [rL, Nat.reduceAdd]; try omega)) only [↓rA, rZ, List.drop_succ_cons, ne_eq, not_true_eq_false, not_false_eq_true, List.getElem?_cons_zero, List.getElem?_cons_succ, ev, ofConst, ofCell, simprocAttr, f0, f1, f2, f7]
      obtain ⟨h01, h02, ys, oy, hyT, hy2⟩ := id hTK
      have hOd := own_cut hO h02 hy2
      have hmq := moreQ_eq h1 (w := w) ll
      refine bsl_own (s0 := s') Hp.sub_refl (show allLen 1 [AV.v (.string ⟨w.toArray⟩)] from fun e he => by simp at he; subst he; rfl) fun o4 s4 h4 => ?_
      simp (dsimp := false) (implicitDefEqProofs := false) (disch := first | omega | assumption | (simp only [rL, Nat.reduceAdd]; try omega)) only [↓rA, rZ, List.drop_succ_cons, ne_eq, not_true_eq_false, not_false_eq_true, List.getElem?_cons_zero, List.getElem?_cons_succ, ev, ofConst, ofCell, simprocAttr, f0, f1, f2, f7]
      refine call_intro (is_spec lt [w] o4 ll (s'.del lt) s4 (hTK.all.mono h4.sub) (by simp)) ?_
      rintro _ s5 ⟨rfl, h5⟩
      have hO5 := hOd.mono h5.1
      have hA1 := hA.cells hk
      have hAl := hA.len
      cases hq : isF [w] ll with
      | none =>
        rw [hq] at hmq h5
        simp only at hmq
        have hfin : capF xs (moreQ w one ll) = if 256 < xs.length then none else some (xs, ll) := by rw [hmq]; simp [capF]
        rw [hcap, hfin]
        by_cases hbig : 256 < (av.length : Int)
        · rw [if_pos (by omega)]
          simp (dsimp := false) (implicitDefEqProofs := false) (disch := first | omega | assumption | (simp only [rL, Nat.reduceAdd]; try omega)) only [↓rA, rZ, List.drop_succ_cons, ne_eq, not_true_eq_false, not_false_eq_true, List.getElem?_cons_zero, List.getElem?_cons_succ, ev, ofConst, ofCell, simprocAttr, f0, f1, f2, f7, Option.isSome_none, hbig]
          refine callp_intro (fail_spec _) (fun _ _ h => h.elim) ?_
          rintro r s' ⟨rfl, hs⟩
          exact ⟨rfl, Hp.sub_trans hO5.sub hs⟩
        · rw [if_neg (by omega)]
          simp (dsimp := false) (implicitDefEqProofs := false) (disch := first | omega | assumption | (simp only [rL, Nat.reduceAdd]; try omega)) only [↓rA, rZ, List.drop_succ_cons, ne_eq, not_true_eq_false, not_false_eq_true, List.getElem?_cons_zero, List.getElem?_cons_succ, ev, ofConst, ofCell, simprocAttr, f0, f1, f2, f7, Option.isSome_none, hbig]
          exact ⟨_, Hp.sub_refl, xs, ll, av, o, rfl, hA, rfl, h5.base hOd.sub⟩
      | some l4 =>
        have hl4 := isF_len _ _ _ hq
        simp only [List.length_cons, List.length_nil] at hl4
        rw [hq] at hmq h5
        simp only at hmq
        rw [hcap]
        simp (dsimp := false) (implicitDefEqProofs := false) (disch := first | omega | assumption | (simp only [rL, Nat.reduceAdd]; try omega)) only [↓rA, rZ, List.drop_succ_cons, ne_eq, not_true_eq_false, not_false_eq_true, List.getElem?_cons_zero, List.getElem?_cons_succ, ev, ofConst, ofCell, simprocAttr, f0, f1, f2, f7, Option.isSome_some]
        refine callVp_intro hok (hone l4 (s5.del lt) s5 (by omega) h5.all) ?_ ?_
        · rintro b s6 ⟨y, l6, ho6, hV6, h6⟩
          have hl6 := h1 _ _ _ ho6
          rw [ho6] at hmq
          simp only at hmq
          simp (dsimp := false) (implicitDefEqProofs := false) (disch := first | omega | assumption | (simp only [rL, Nat.reduceAdd]; try omega)) only [↓rA, rZ, List.drop_succ_cons, ne_eq, not_true_eq_false, not_false_eq_true, List.getElem?_cons_zero, List.getElem?_cons_succ, ev, ofConst, ofCell, simprocAttr, f0, f1, f2, f7]
          have hy := hk _ _ hV6
          have hO6 : Owned s0 s6 2 av o := by
            obtain ⟨_, _, _, _, _, h55⟩ := h5
            exact (own_cut hO5 h02 h55).mono h6.1
          refine bsl_own (s0 := s6) Hp.sub_refl (show allLen 2 [b] from fun e he => by simp at he; subst he; exact hy) fun o7 s7 h7 => ?_
          simp (dsimp := false) (implicitDefEqProofs := false) (disch := first | omega | assumption | (simp only [rL, Nat.reduceAdd]; try omega)) only [↓rA, rZ, List.drop_succ_cons, ne_eq, not_true_eq_false, not_false_eq_true, List.getElem?_cons_zero, List.getElem?_cons_succ, ev, ofConst, ofCell, simprocAttr, f0, f1, f2, f7]
          obtain ⟨_, _, zs, oz, hz, hz2⟩ := h6
          have hz7 := h7.sub _ _ hz2
          refine app_own (own_add (hO6.mono h7.sub) hz7) hA1 (show allLen 2 [b] from fun e he => by simp at he; subst he; exact hy) (by simp; omega) (by simp; omega) fun o8 s8 h8 => ?_
          simp (dsimp := false) (implicitDefEqProofs := false) (disch := first | omega | assumption | (simp only [rL, Nat.reduceAdd]; try omega)) only [↓rA, rZ, List.drop_succ_cons, ne_eq, not_true_eq_false, not_false_eq_true, List.getElem?_cons_zero, List.getElem?_cons_succ, ev, ofConst, ofCell, simprocAttr, f0, f1, f2, f7]
          have g8 : s8 lt = some (.cells [.sl zs oz]) := h8.sub _ _ (Hp.set_same _ _ _)
          have hs08 : s0.sub s8 := Hp.sub_trans (Hp.sub_new Hp.sub_refl h02) h8.sub
          refine ⟨⟨xs ++ [y], av ++ [b], o8, l6, ⟨hs08, h02, zs, oz, hz, g8⟩, hA.snoc hV6, h8.base (Hp.sub_new Hp.sub_refl h02), rfl, ?_, ?_⟩, ?_⟩
          · rw [hmq]
            cases moreQ w one l6 with
            | none => rfl
            | some p => simp [capF]
          · simp; omega
          · simp only [g8, hy2]
            have e1 := hz.len
            have e3 := hyT.len
            omega
        · rintro r s6 ⟨ho6, rfl, hs6⟩
          rw [ho6] at hmq
          refine ⟨by rw [hmq]; rfl, rfl, ?_⟩
          refine Hp.sub_trans ?_ hs6
          obtain ⟨_, _, _, _, _, h55⟩ := h5
          exact (own_cut hO5 h02 h55).sub
  · rintro r s' ⟨ho, hs⟩
    exact ⟨by simp only [listF, ho], hs⟩
end Go.Proofs.YtgfbealjkdhdbaaGreatDoor
set_option maxRecDepth 100000
namespace Go.Proofs.YtgfbealjkdhdbaaGreatDoor
open Go Go.Av
def w_between : List UInt8 := [98, 101, 116, 119, 101, 101, 110]
def w_and : List UInt8 := [97, 110, 100]
def w_where : List UInt8 := [119, 104, 101, 114, 101]
def w_order : List UInt8 := [111, 114, 100, 101, 114]
def w_by : List UInt8 := [98, 121]
def w_manhattan : List UInt8 := [109, 97, 110, 104, 97, 116, 116, 97, 110]
def w_desc : List UInt8 := [100, 101, 115, 99]
def w_asc : List UInt8 := [97, 115, 99]
def w_eq : List UInt8 := [61]
def w_le : List UInt8 := [60, 61]
def w_ge : List UInt8 := [62, 61]
def w_lt : List UInt8 := [60]
def w_gt : List UInt8 := [62]
def w_lp : List UInt8 := [40]
def w_rp : List UInt8 := [41]
def w_comma : List UInt8 := [44]
def w_star : List UInt8 := [42]
def w_count : List UInt8 := [99, 111, 117, 110, 116]
def w_from : List UInt8 := [102, 114, 111, 109]
def w_as : List UInt8 := [97, 115]
def w_of : List UInt8 := [111, 102]
def w_limit : List UInt8 := [108, 105, 109, 105, 116]
def w_values : List UInt8 := [118, 97, 108, 117, 101, 115]
def w_set : List UInt8 := [115, 101, 116]
def w_create : List UInt8 := [99, 114, 101, 97, 116, 101]
def w_table : List UInt8 := [116, 97, 98, 108, 101]
def w_drop : List UInt8 := [100, 114, 111, 112]
def w_insert : List UInt8 := [105, 110, 115, 101, 114, 116]
def w_into : List UInt8 := [105, 110, 116, 111]
def w_delete : List UInt8 := [100, 101, 108, 101, 116, 101]
def w_update : List UInt8 := [117, 112, 100, 97, 116, 101]
def w_select : List UInt8 := [115, 101, 108, 101, 99, 116]
def w_begin : List UInt8 := [98, 101, 103, 105, 110]
def w_commit : List UInt8 := [99, 111, 109, 109, 105, 116]
def w_rollback : List UInt8 := [114, 111, 108, 108, 98, 97, 99, 107]
def rowF (l : List Tok) : Option (List Int × List Tok) :=
  (isF [w_lp] l).bind fun l1 => (listF w_comma numberF l1).bind fun p => (isF [w_rp] p.2).map fun l3 => (p.1, l3)
def opsF (c : List UInt8) : List (List UInt8) → List Tok → Option (Cond × List Tok)
  | [], _ => none
  | op :: r, l => match isF [op] l with
    | some l2 => (numberF l2).map fun p => (⟨c, op, p.1, 0⟩, p.2)
    | none => opsF c r l
def ops5 : List (List UInt8) := [w_eq, w_le, w_ge, w_lt, w_gt]
def condF (l : List Tok) : Option (Cond × List Tok) :=
  (nameF l).bind fun p => match isF [w_between] p.2 with
    | some l2 => (numberF l2).bind fun q => (isF [w_and] q.2).bind fun l4 => (numberF l4).map fun r => (⟨p.1, w_between, q.1, r.1⟩, r.2)
    | none => opsF p.1 ops5 p.2
def whereF (l : List Tok) : Option (List Cond × List Tok) :=
  match isF [w_where] l with
  | none => some ([], l)
  | some l1 => listF w_and condF l1
structure Srt where
  col : List UInt8
  down : Bool
  pt : List Int
def sortF (l : List Tok) : Option (Srt × List Tok) :=
  match isF [w_order, w_by] l with
  | none => some (⟨[], false, []⟩, l)
  | some l1 => match isF [w_manhattan] l1 with
    | some l2 => (rowF l2).map fun p => (⟨[], false, p.1⟩, p.2)
    | none => (nameF l1).map fun p => match isF [w_desc] p.2 with
      | some l3 => (⟨p.1, true, []⟩, l3)
      | none => (⟨p.1, false, []⟩, (isF [w_asc] p.2).getD p.2)
def asgF (l : List Tok) : Option (Asg × List Tok) :=
  (nameF l).bind fun p => (isF [w_eq] p.2).bind fun l2 => (numberF l2).map fun q => (⟨p.1, q.1⟩, q.2)
theorem TK.keep {lt x : Nat} {l : List Tok} {s s' : Hp} {ob : Ob} (h : TK lt l (s.del lt) s') (hne : x ≠ lt) (hx : s x = some ob) : s' x = some ob :=
  h.1 _ _ (by rw [Hp.del_ne _ hne]; exact hx)
theorem TK.sub_del {lt : Nat} {l : List Tok} {s0 s : Hp} (h : TK lt l s0 s) : s0.sub (s.del lt) := fun l' o ho => by
  have hne : l' ≠ lt := by rintro rfl; rw [h.2.1] at ho; cases ho
  rw [Hp.del_ne _ hne]; exact h.1 _ _ ho
theorem TK.back {lt : Nat} {l l' : List Tok} {s0 s s' : Hp} (h : TK lt l s0 s) (h2 : TK lt l' (s.del lt) s') : TK lt l' s0 s' := h2.base h.sub_del
theorem TK.stop {lt : Nat} {l : List Tok} {s0 s s' : Hp} {n : Int} {r : AV} (h : TK lt l s0 s) (h2 : Stop (s.del lt) n r s') : Stop s0 n r s' := ⟨h2.1, Hp.sub_trans h.sub_del h2.2⟩
theorem TK.ne {lt x : Nat} {l : List Tok} {s0 s : Hp} (h : TK lt l s0 s) (hx : s x = none) : x ≠ lt := by
  obtain ⟨_, _, _, _, _, h4⟩ := h
  rintro rfl; rw [hx] at h4; cases h4
theorem TK.add {lt x : Nat} {l : List Tok} {s0 s : Hp} {ob : Ob} (h : TK lt l s0 s) (hx : s x = none) : TK lt l s0 (s.set x ob) := h.mono (Hp.sub_new Hp.sub_refl hx)
theorem TK.write {lt x : Nat} {l : List Tok} {s0 s : Hp} {ob : Ob} (h : TK lt l s0 s) (hx : s0 x = none) (hne : x ≠ lt) : TK lt l s0 (s.set x ob) := by
  obtain ⟨h1, h2, xs, o, h3, h4⟩ := h
  exact ⟨Hp.sub_new h1 hx, h2, xs, o, h3, by rw [Hp.set_ne _ _ (Ne.symm hne)]; exact h4⟩
theorem One.of {α : Type} {lt : Nat} {one : List Tok → Option (α × List Tok)} {V : α → AV → Prop} {g : Nat} (hok : callOk Tryz.prog g = true)
    (h : ∀ l s0 s, l.length ≤ 100000 → TK lt l s0 s → ACp Tryz.prog g [.ptr lt 0] s (fun r s' => ∃ x l', one l = some (x, l') ∧ V x r ∧ TK lt l' s0 s') (up (fun r s' => one l = none ∧ Stop s0 2 r s'))) :
    One lt (.clo g [.ptr lt 0] []) one V := ⟨g, [.ptr lt 0], [], rfl, hok, h⟩
theorem oneName (lt : Nat) : One lt (.clo 48 [.ptr lt 0] []) nameF strR := One.of (by kernel_rfl) fun l s0 s _ h => name_spec lt l s0 s h
theorem oneNumber (lt : Nat) : One lt (.clo 92 [.ptr lt 0] []) numberF intR := One.of (by kernel_rfl) fun l s0 s _ h => pnumber_spec lt l s0 s h
theorem isF_le {ws : List (List UInt8)} {l l' : List Tok} (h : isF ws l = some l') : l'.length ≤ l.length := by
  have := isF_len _ _ _ h; omega
theorem rowF_less : Less rowF := fun l x l' h => by
  simp only [rowF, Option.bind_eq_some_iff, Option.map_eq_some_iff] at h
  obtain ⟨l1, h1, ⟨xs, l2⟩, h2, l3, h3, h4⟩ := h
  simp only [Prod.mk.injEq] at h4
  have e1 := isF_le h1; have e2 := listF_less numberF_less _ _ _ h2; have e3 := isF_le h3
  rw [← h4.2]; simp only at e3; omega
theorem opsF_less (c : List UInt8) : ∀ ops, Less (opsF c ops)
  | [], l, x, l', h => by cases h
  | op :: r, l, x, l', h => by
    simp only [opsF] at h
    cases hq : isF [op] l with
    | none => rw [hq] at h; exact opsF_less c r l x l' h
    | some l2 =>
      rw [hq] at h
      simp only [Option.map_eq_some_iff] at h
      obtain ⟨⟨v, l3⟩, h3, h4⟩ := h
      simp only [Prod.mk.injEq] at h4
      have e1 := isF_le hq; have e2 := numberF_less _ _ _ h3
      rw [← h4.2]; omega
theorem condF_less : Less condF := fun l x l' h => by
  simp only [condF, Option.bind_eq_some_iff] at h
  obtain ⟨⟨c, l1⟩, h1, h2⟩ := h
  have e1 := nameF_less _ _ _ h1
  simp only at h2
  cases hq : isF [w_between] l1 with
  | none => rw [hq] at h2; have e2 := opsF_less _ _ _ _ _ h2; omega
  | some l2 =>
    rw [hq] at h2
    simp only [Option.bind_eq_some_iff, Option.map_eq_some_iff] at h2
    obtain ⟨⟨a, l3⟩, h3, l4, h4, ⟨b, l5⟩, h5, h6⟩ := h2
    simp only [Prod.mk.injEq] at h6
    have e2 := isF_le hq; have e3 := numberF_less _ _ _ h3; have e4 := isF_le h4; have e5 := numberF_less _ _ _ h5
    rw [← h6.2]; simp only at e4; omega
theorem asgF_less : Less asgF := fun l x l' h => by
  simp only [asgF, Option.bind_eq_some_iff, Option.map_eq_some_iff] at h
  obtain ⟨⟨c, l1⟩, h1, l2, h2, ⟨v, l3⟩, h3, h4⟩ := h
  simp only [Prod.mk.injEq] at h4
  have e1 := nameF_less _ _ _ h1; have e2 := isF_le h2; have e3 := numberF_less _ _ _ h3
  rw [← h4.2]; simp only at e2; omega
theorem row_spec (lt : Nat) (l : List Tok) (s0 s : Hp) (hl : l.length ≤ 100000) (h : TK lt l s0 s) :
    ACp Tryz.prog 87 [.ptr lt 0] s (fun r s' => ∃ xs l', rowF l = some (xs, l') ∧ rowR xs r ∧ TK lt l' s0 s') (up (fun r s' => rowF l = none ∧ Stop s0 2 r s')) := by
  refine ACp_run hm prep87 (by simp) ?_
  simp (dsimp := false) (implicitDefEqProofs := false) (disch := first | omega | assumption | (simp only [rL, Nat.reduceAdd]; try omega)) only [↓rA, rZ, List.drop_succ_cons, ne_eq, not_true_eq_false, not_false_eq_true, List.getElem?_cons_zero, List.getElem?_cons_succ, ev, ofConst, ofCell, simprocAttr]
  refine bsl_own (s0 := s) Hp.sub_refl (allLen_strs (ws := [w_lp])) fun o1 s1 h1 => ?_
  simp (dsimp := false) (implicitDefEqProofs := false) (disch := first | omega | assumption | (simp only [rL, Nat.reduceAdd]; try omega)) only [↓rA, rZ, List.drop_succ_cons, ne_eq, not_true_eq_false, not_false_eq_true, List.getElem?_cons_zero, List.getElem?_cons_succ, ev, ofConst, ofCell, simprocAttr]
  refine callp_intro (must_spec lt [w_lp] o1 l s0 s1 (h.mono h1.sub) (by simp)) ?_ ?_
  · rintro _ s2 ⟨l2, e2, h2⟩
    have q2 := isF_le e2
    simp (dsimp := false) (implicitDefEqProofs := false) (disch := first | omega | assumption | (simp only [rL, Nat.reduceAdd]; try omega)) only [↓rA, rZ, List.drop_succ_cons, ne_eq, not_true_eq_false, not_false_eq_true, List.getElem?_cons_zero, List.getElem?_cons_succ, ev, ofConst, ofCell, simprocAttr]
    refine callp_intro (listInt_spec lt w_comma (.clo 92 [.ptr lt 0] []) numberF numberF_less l2 s0 s2 (by omega) h2 (oneNumber lt)) ?_ ?_
    · rintro _ s3 ⟨xs, l3, av, o3, e3, hA, rfl, h3⟩
      simp (dsimp := false) (implicitDefEqProofs := false) (disch := first | omega | assumption | (simp only [rL, Nat.reduceAdd]; try omega)) only [↓rA, rZ, List.drop_succ_cons, ne_eq, not_true_eq_false, not_false_eq_true, List.getElem?_cons_zero, List.getElem?_cons_succ, ev, ofConst, ofCell, simprocAttr]
      refine bsl_own (s0 := s3) Hp.sub_refl (allLen_strs (ws := [w_rp])) fun o4 s4 h4 => ?_
      simp (dsimp := false) (implicitDefEqProofs := false) (disch := first | omega | assumption | (simp only [rL, Nat.reduceAdd]; try omega)) only [↓rA, rZ, List.drop_succ_cons, ne_eq, not_true_eq_false, not_false_eq_true, List.getElem?_cons_zero, List.getElem?_cons_succ, ev, ofConst, ofCell, simprocAttr]
      refine callp_intro (must_spec lt [w_rp] o4 l3 s0 s4 (h3.mono h4.sub) (by simp)) ?_ ?_
      · rintro _ s5 ⟨l5, e5, h5⟩
        simp (dsimp := false) (implicitDefEqProofs := false) (disch := first | omega | assumption | (simp only [rL, Nat.reduceAdd]; try omega)) only [↓rA, rZ, List.drop_succ_cons, ne_eq, not_true_eq_false, not_false_eq_true, List.getElem?_cons_zero, List.getElem?_cons_succ, ev, ofConst, ofCell, simprocAttr]
        exact ⟨_, Hp.sub_refl, xs, l5, by simp [rowF, e2, e3, e5], ⟨av, o3, hA, rfl⟩, h5⟩
      · rintro r s5 ⟨e5, h5⟩
        exact ⟨by simp [rowF, e2, e3, e5], h5⟩
    · rintro r s3 ⟨e3, h3⟩
      exact ⟨by simp [rowF, e2, e3], h3⟩
  · rintro r s2 ⟨e2, h2⟩
    exact ⟨by simp [rowF, e2], h2⟩
theorem oneRow (lt : Nat) : One lt (.clo 87 [.ptr lt 0] []) rowF rowR := One.of (by kernel_rfl) fun l s0 s hl h => row_spec lt l s0 s hl h
theorem assign_spec (lt : Nat) (l : List Tok) (s0 s : Hp) (h : TK lt l s0 s) :
    ACp Tryz.prog 91 [.ptr lt 0] s (fun r s' => ∃ x l', asgF l = some (x, l') ∧ asgR x r ∧ TK lt l' s0 s') (up (fun r s' => asgF l = none ∧ Stop s0 2 r s')) := by
  refine ACp_run hm prep91 (by simp) ?_
  simp (dsimp := false) (implicitDefEqProofs := false) (disch := first | omega | assumption | (simp only [rL, Nat.reduceAdd]; try omega)) only [↓rA, rZ, List.drop_succ_cons, ne_eq, not_true_eq_false, not_false_eq_true, List.getElem?_cons_zero, List.getElem?_cons_succ, ev, ofConst, ofCell, simprocAttr]
  refine newK_intro fun l2 n2 => ?_
  have d2 := h.ne n2
  have h1 := h.add n2 (ob := .cells [.v (.string ⟨#[]⟩), .v (.int .i64 0)])
  simp (dsimp := false) (implicitDefEqProofs := false) (disch := first | omega | assumption | (simp only [rL, Nat.reduceAdd]; try omega)) only [↓rA, rZ, List.drop_succ_cons, ne_eq, not_true_eq_false, not_false_eq_true, List.getElem?_cons_zero, List.getElem?_cons_succ, ev, ofConst, ofCell, simprocAttr]
  refine callp_intro (name_spec lt l _ _ h1.all) ?_ ?_
  · rintro _ s3 ⟨c, l3, e3, rfl, h3⟩
    have g3 := h3.keep d2 (Hp.set_same _ _ _)
    have t3 := h1.back h3
    simp (dsimp := false) (implicitDefEqProofs := false) (disch := first | omega | assumption | (simp only [rL, Nat.reduceAdd]; try omega)) only [↓rA, rZ, List.drop_succ_cons, ne_eq, not_true_eq_false, not_false_eq_true, List.getElem?_cons_zero, List.getElem?_cons_succ, ev, ofConst, ofCell, simprocAttr, strV]
    refine newK_intro fun l4 n4 => ?_
    have d4 := t3.ne n4
    have d24 : l2 ≠ l4 := by rintro rfl; rw [n4] at g3; cases g3
    simp (dsimp := false) (implicitDefEqProofs := false) (disch := first | omega | assumption | (simp only [rL, Nat.reduceAdd]; try omega)) only [↓rA, rZ, List.drop_succ_cons, ne_eq, not_true_eq_false, not_false_eq_true, List.getElem?_cons_zero, List.getElem?_cons_succ, ev, ofConst, ofCell, simprocAttr, strV, putAt_z1, putAt_sc]
    have t5 := t3.add n4 (ob := .cells [.v (.string ⟨c.toArray⟩), .v (.int .i64 0)])
    have g5 : (s3.set l4 (.cells [.v (.string ⟨c.toArray⟩), .v (.int .i64 0)])) l2 = some (.cells [.v (.string ⟨#[]⟩), .v (.int .i64 0)]) := by rw [Hp.set_ne _ _ d24]; exact g3
    refine bsl_own (s0 := _) Hp.sub_refl (allLen_strs (ws := [w_eq])) fun o6 s6 h6 => ?_
    simp (dsimp := false) (implicitDefEqProofs := false) (disch := first | omega | assumption | (simp only [rL, Nat.reduceAdd]; try omega)) only [↓rA, rZ, List.drop_succ_cons, ne_eq, not_true_eq_false, not_false_eq_true, List.getElem?_cons_zero, List.getElem?_cons_succ, ev, ofConst, ofCell, simprocAttr]
    have t6 := t5.mono h6.sub
    refine callp_intro (must_spec lt [w_eq] o6 l3 _ s6 t6.all (by simp)) ?_ ?_
    · rintro _ s7 ⟨l7, e7, h7⟩
      have g7 := h7.keep d4 (h6.sub _ _ (Hp.set_same _ _ _))
      have k7 := h7.keep d2 (h6.sub _ _ g5)
      have t7 := t6.back h7
      simp (dsimp := false) (implicitDefEqProofs := false) (disch := first | omega | assumption | (simp only [rL, Nat.reduceAdd]; try omega)) only [↓rA, rZ, List.drop_succ_cons, ne_eq, not_true_eq_false, not_false_eq_true, List.getElem?_cons_zero, List.getElem?_cons_succ, ev, ofConst, ofCell, simprocAttr]
      refine callp_intro (pnumber_spec lt l7 _ s7 t7.all) ?_ ?_
      · rintro _ s8 ⟨v, l8, e8, rfl, h8⟩
        have g8 := h8.keep d4 g7
        have k8 := h8.keep d2 k7
        have t8 := t7.back h8
        have d42 := Ne.symm d24
        have n02 := Hp.sub_none h.1 n2
        have n04 := Hp.sub_none t3.1 n4
        simp (dsimp := false) (implicitDefEqProofs := false) (disch := first | omega | assumption | (simp only [rL, Nat.reduceAdd]; try omega)) only [↓rA, rZ, List.drop_succ_cons, ne_eq, not_true_eq_false, not_false_eq_true, List.getElem?_cons_zero, List.getElem?_cons_succ, ev, ofConst, ofCell, simprocAttr, Hp.stA_of g8, Hp.stA_of k8, putAt_z1, putAt_sc, Hp.set_ne, d24, d42]
        exact ⟨_, Hp.sub_refl, ⟨c, v⟩, l8, by simp [asgF, e3, e7, e8], rfl, (t8.write n04 d4).write n02 d2⟩
      · rintro r s8 ⟨e8, h8⟩
        exact ⟨by simp [asgF, e3, e7, e8], t7.stop h8⟩
    · rintro r s7 ⟨e7, h7⟩
      exact ⟨by simp [asgF, e3, e7], t6.stop h7⟩
  · rintro r s3 ⟨e3, h3⟩
    exact ⟨by simp [asgF, e3], h1.stop h3⟩
theorem oneAssign (lt : Nat) : One lt (.clo 91 [.ptr lt 0] []) asgF asgR := One.of (by kernel_rfl) fun l s0 s _ h => assign_spec lt l s0 s h
theorem str_at {ws : List (List UInt8)} {j n : Nat} (hj : j < n) (hn : ws.length = n) : idxAA false 1 n (.agg (ws.map strV)) (.v (.int .i64 (j : Int))) = some (strV (ws.getD j [])) := by
  have hl : j < ws.length := by omega
  simp only [idxAA]
  rw [if_pos (by simp; omega)]
  have e : mkv false 1 ((ws.map strV).drop j) = strV (ws.getD j []) := by
    rw [List.drop_eq_getElem_cons (by simpa using hl)]
    simp [mkv, List.getD, hl]
  simp only [Int.toNat_natCast, Nat.mul_one, e]
theorem rep5 {x : AV} : List.replicate 5 x = [x, x, x, x, x] := rfl
theorem ops_agg : (AV.agg [.v (.string ⟨#[61]⟩), .v (.string ⟨#[60, 61]⟩), .v (.string ⟨#[62, 61]⟩), .v (.string ⟨#[60]⟩), .v (.string ⟨#[62]⟩)]) = .agg (ops5.map strV) := rfl
theorem cond_spec (lt : Nat) (l : List Tok) (s0 s : Hp) (h : TK lt l s0 s) :
    ACp Tryz.prog 89 [.ptr lt 0] s (fun r s' => ∃ x l', condF l = some (x, l') ∧ condR x r ∧ TK lt l' s0 s') (up (fun r s' => condF l = none ∧ Stop s0 2 r s')) := by
  refine ACp_run hm prep89 (by simp) ?_
  simp (dsimp := false) (implicitDefEqProofs := false) (disch := first | omega | assumption | (simp only [rL, Nat.reduceAdd]; try omega)) only [↓rA, rZ, List.drop_succ_cons, ne_eq, not_true_eq_false, not_false_eq_true, List.getElem?_cons_zero, List.getElem?_cons_succ, ev, ofConst, ofCell, simprocAttr]
  refine newK_intro fun l2 n2 => ?_
  have d2 := h.ne n2
  have h1 := h.add n2 (ob := .cells [.v (.string ⟨#[]⟩), .v (.string ⟨#[]⟩), .v (.int .i64 0), .v (.int .i64 0)])
  have n02 := Hp.sub_none h.1 n2
  simp (dsimp := false) (implicitDefEqProofs := false) (disch := first | omega | assumption | (simp only [rL, Nat.reduceAdd]; try omega)) only [↓rA, rZ, List.drop_succ_cons, ne_eq, not_true_eq_false, not_false_eq_true, List.getElem?_cons_zero, List.getElem?_cons_succ, ev, ofConst, ofCell, simprocAttr]
  refine callp_intro (name_spec lt l _ _ h1.all) ?_ ?_
  · rintro _ s3 ⟨c, l3, e3, rfl, h3⟩
    have g3 := h3.keep d2 (Hp.set_same _ _ _)
    have t3 := h1.back h3
    simp (dsimp := false) (implicitDefEqProofs := false) (disch := first | omega | assumption | (simp only [rL, Nat.reduceAdd]; try omega)) only [↓rA, rZ, List.drop_succ_cons, ne_eq, not_true_eq_false, not_false_eq_true, List.getElem?_cons_zero, List.getElem?_cons_succ, ev, ofConst, ofCell, simprocAttr, strV]
    refine newK_intro fun l4 n4 => ?_
    have d4 := t3.ne n4
    have d24 : l2 ≠ l4 := by rintro rfl; rw [n4] at g3; cases g3
    have d42 := Ne.symm d24
    have n04 := Hp.sub_none t3.1 n4
    simp (dsimp := false) (implicitDefEqProofs := false) (disch := first | omega | assumption | (simp only [rL, Nat.reduceAdd]; try omega)) only [↓rA, rZ, List.drop_succ_cons, ne_eq, not_true_eq_false, not_false_eq_true, List.getElem?_cons_zero, List.getElem?_cons_succ, ev, ofConst, ofCell, simprocAttr, strV, putAt_z1, putAt_sc]
    have t5 := t3.add n4 (ob := .cells [.v (.string ⟨c.toArray⟩), .v (.string ⟨#[]⟩), .v (.int .i64 0), .v (.int .i64 0)])
    have g5 : (s3.set l4 (.cells [.v (.string ⟨c.toArray⟩), .v (.string ⟨#[]⟩), .v (.int .i64 0), .v (.int .i64 0)])) l2 = some (.cells [.v (.string ⟨#[]⟩), .v (.string ⟨#[]⟩), .v (.int .i64 0), .v (.int .i64 0)]) := by rw [Hp.set_ne _ _ d24]; exact g3
    refine bsl_own (s0 := _) Hp.sub_refl (allLen_strs (ws := [w_between])) fun o6 s6 h6 => ?_
    simp (dsimp := false) (implicitDefEqProofs := false) (disch := first | omega | assumption | (simp only [rL, Nat.reduceAdd]; try omega)) only [↓rA, rZ, List.drop_succ_cons, ne_eq, not_true_eq_false, not_false_eq_true, List.getElem?_cons_zero, List.getElem?_cons_succ, ev, ofConst, ofCell, simprocAttr]
    have t6 := t5.mono h6.sub
    refine call_intro (is_spec lt [w_between] o6 l3 _ s6 t6.all (by simp)) ?_
    rintro _ s7 ⟨rfl, h7⟩
    have g7 := h7.keep d4 (h6.sub _ _ (Hp.set_same _ _ _))
    have k7 := h7.keep d2 (h6.sub _ _ g5)
    have t7 := t6.back h7
    cases e7 : isF [w_between] l3 with
    | some l7 =>
      rw [e7] at h7 t7
      simp only [Option.getD_some] at h7 t7
      simp (dsimp := false) (implicitDefEqProofs := false) (disch := first | omega | assumption | (simp only [rL, Nat.reduceAdd]; try omega)) only [↓rA, rZ, List.drop_succ_cons, ne_eq, not_true_eq_false, not_false_eq_true, List.getElem?_cons_zero, List.getElem?_cons_succ, ev, ofConst, ofCell, simprocAttr, Option.isSome_some, Hp.stA_of g7, putAt_z1, putAt_sc]
      have t7' := t7.write n04 d4 (ob := .cells [.v (.string ⟨c.toArray⟩), .v (.string ⟨w_between.toArray⟩), .v (.int .i64 0), .v (.int .i64 0)])
      refine callp_intro (pnumber_spec lt l7 _ _ t7'.all) ?_ ?_
      · rintro _ s8 ⟨a, l8, e8, rfl, h8⟩
        have g8 := h8.keep d4 (Hp.set_same _ _ _)
        have k8 := h8.keep d2 (by rw [Hp.set_ne _ _ d24]; exact k7)
        have t8 := t7'.back h8
        simp (dsimp := false) (implicitDefEqProofs := false) (disch := first | omega | assumption | (simp only [rL, Nat.reduceAdd]; try omega)) only [↓rA, rZ, List.drop_succ_cons, ne_eq, not_true_eq_false, not_false_eq_true, List.getElem?_cons_zero, List.getElem?_cons_succ, ev, ofConst, ofCell, simprocAttr, Hp.stA_of g8, putAt_z1, putAt_sc]
        have t8' := t8.write n04 d4 (ob := .cells [.v (.string ⟨c.toArray⟩), .v (.string ⟨w_between.toArray⟩), .v (.int .i64 a), .v (.int .i64 0)])
        refine bsl_own (s0 := _) Hp.sub_refl (allLen_strs (ws := [w_and])) fun o9 s9 h9 => ?_
        simp (dsimp := false) (implicitDefEqProofs := false) (disch := first | omega | assumption | (simp only [rL, Nat.reduceAdd]; try omega)) only [↓rA, rZ, List.drop_succ_cons, ne_eq, not_true_eq_false, not_false_eq_true, List.getElem?_cons_zero, List.getElem?_cons_succ, ev, ofConst, ofCell, simprocAttr]
        have t9 := t8'.mono h9.sub
        refine callp_intro (must_spec lt [w_and] o9 l8 _ s9 t9.all (by simp)) ?_ ?_
        · rintro _ sA ⟨lA, eA, hA⟩
          have gA := hA.keep d4 (h9.sub _ _ (Hp.set_same _ _ _))
          have kA := hA.keep d2 (h9.sub _ _ (by rw [Hp.set_ne _ _ d24]; exact k8))
          have tA := t9.back hA
          simp (dsimp := false) (implicitDefEqProofs := false) (disch := first | omega | assumption | (simp only [rL, Nat.reduceAdd]; try omega)) only [↓rA, rZ, List.drop_succ_cons, ne_eq, not_true_eq_false, not_false_eq_true, List.getElem?_cons_zero, List.getElem?_cons_succ, ev, ofConst, ofCell, simprocAttr]
          refine callp_intro (pnumber_spec lt lA _ sA tA.all) ?_ ?_
          · rintro _ sB ⟨b, lB, eB, rfl, hB⟩
            have gB := hB.keep d4 gA
            have kB := hB.keep d2 kA
            have tB := tA.back hB
            simp (dsimp := false) (implicitDefEqProofs := false) (disch := first | omega | assumption | (simp only [rL, Nat.reduceAdd]; try omega)) only [↓rA, rZ, List.drop_succ_cons, ne_eq, not_true_eq_false, not_false_eq_true, List.getElem?_cons_zero, List.getElem?_cons_succ, ev, ofConst, ofCell, simprocAttr, Hp.stA_of gB, Hp.stA_of kB, putAt_z1, putAt_sc, Hp.set_ne, d24, d42]
            exact ⟨_, Hp.sub_refl, ⟨c, w_between, a, b⟩, lB, by simp [condF, e3, e7, e8, eA, eB], rfl, (tB.write n04 d4).write n02 d2⟩
          · rintro r sB ⟨eB, hB⟩
            exact ⟨by simp [condF, e3, e7, e8, eA, eB], tA.stop hB⟩
        · rintro r sA ⟨eA, hA⟩
          exact ⟨by simp [condF, e3, e7, e8, eA], t9.stop hA⟩
      · rintro r s8 ⟨e8, h8⟩
        exact ⟨by simp [condF, e3, e7, e8], t7'.stop h8⟩
    | none =>
      rw [e7] at h7 t7
      simp only [Option.getD_none] at h7 t7
      have hcond : condF l = opsF c ops5 l3 := by simp [condF, e3, e7]
      rw [hcond]
      simp (dsimp := false) (implicitDefEqProofs := false) (disch := first | omega | assumption | (simp only [rL, Nat.reduceAdd]; try omega)) only [↓rA, rZ, List.drop_succ_cons, ne_eq, not_true_eq_false, not_false_eq_true, List.getElem?_cons_zero, List.getElem?_cons_succ, ev, ofConst, ofCell, simprocAttr, Option.isSome_none, rep5, putAt_z1, putAt_sc, ops_agg]
      refine loop_intro (fun f s' => ∃ j : Nat, j ≤ 5 ∧ TK lt l3 s0 s' ∧ s' l4 = some (.cells [.v (.string ⟨c.toArray⟩), .v (.string ⟨#[]⟩), .v (.int .i64 0), .v (.int .i64 0)]) ∧ s' l2 = some (.cells [.v (.string ⟨#[]⟩), .v (.string ⟨#[]⟩), .v (.int .i64 0), .v (.int .i64 0)]) ∧
          f 0 = .ptr lt 0 ∧ f 2 = .ptr l2 0 ∧ f 3 = .ptr l4 0 ∧ f 23 = .agg (ops5.map strV) ∧ f 24 = .v (.int .i64 j) ∧ opsF c ops5 l3 = opsF c (ops5.drop j) l3)
        (fun f _ => match f 24 with | .v (.int _ n) => (5 - n).toNat | _ => 0) ⟨0, by omega, t7, g7, k7, ?_⟩ ?_
      · simp (dsimp := false) (implicitDefEqProofs := false) (disch := first | omega | assumption | (simp only [rL, Nat.reduceAdd]; try omega)) only [↓rA, rZ, List.drop_succ_cons, ne_eq, not_true_eq_false, not_false_eq_true, List.getElem?_cons_zero, List.getElem?_cons_succ, ev, ofConst, ofCell, simprocAttr]
        rfl
      · rintro f s' ⟨j, hj, tj, gj, kj, f0, f2, f3, f23, f24, hops⟩
        have n5 : ops5.length = 5 := rfl
        by_cases hlt : (j : Int) < 5
        · have hj5 : j < 5 := by omega
          have hat := str_at (ws := ops5) hj5 n5
          have hdrop : ops5.drop j = ops5.getD j [] :: ops5.drop (j + 1) := by
            rw [List.drop_eq_getElem_cons (by omega)]; simp [List.getD, show j < ops5.length by omega]
          generalize ops5.getD j [] = op at hat hdrop
          rw [hdrop] at hops
          simp only [opsF] at hops
          simp (dsimp := false) (implicitDefEqProofs := false) (disch := first | omega | assumption | (simp only [rL, Nat.reduceAdd]; try omega)) only [↓rA, rZ, List.drop_succ_cons, ne_eq, not_true_eq_false, not_false_eq_true, List.getElem?_cons_zero, List.getElem?_cons_succ, ev, ofConst, ofCell, simprocAttr, f0, f2, f3, f23, f24, hlt, hat, strV]
          refine bsl_own (s0 := _) Hp.sub_refl (allLen_strs (ws := [op])) fun o8 s8 h8 => ?_
          simp (dsimp := false) (implicitDefEqProofs := false) (disch := first | omega | assumption | (simp only [rL, Nat.reduceAdd]; try omega)) only [↓rA, rZ, List.drop_succ_cons, ne_eq, not_true_eq_false, not_false_eq_true, List.getElem?_cons_zero, List.getElem?_cons_succ, ev, ofConst, ofCell, simprocAttr, f0, f2, f3, f23, f24]
          have t8 := tj.mono h8.sub
          refine call_intro (is_spec lt [op] o8 l3 _ s8 t8.all (by simp)) ?_
          rintro _ s9 ⟨rfl, h9⟩
          have g9 := h9.keep d4 (h8.sub _ _ gj)
          have k9 := h9.keep d2 (h8.sub _ _ kj)
          have t9 := t8.back h9
          cases e9 : isF [op] l3 with
          | some l9 =>
            rw [e9] at t9 hops
            simp only [Option.getD_some] at t9
            simp only at hops
            simp (dsimp := false) (implicitDefEqProofs := false) (disch := first | omega | assumption | (simp only [rL, Nat.reduceAdd]; try omega)) only [↓rA, rZ, List.drop_succ_cons, ne_eq, not_true_eq_false, not_false_eq_true, List.getElem?_cons_zero, List.getElem?_cons_succ, ev, ofConst, ofCell, simprocAttr, f0, f2, f3, f23, f24, Option.isSome_some, Hp.stA_of g9, putAt_z1, putAt_sc, strV]
            have t9' := t9.write n04 d4 (ob := .cells [.v (.string ⟨c.toArray⟩), .v (.string ⟨op.toArray⟩), .v (.int .i64 0), .v (.int .i64 0)])
            refine callp_intro (pnumber_spec lt l9 _ _ t9'.all) ?_ ?_
            · rintro _ sA ⟨a, lA, eA, rfl, hA⟩
              have gA := hA.keep d4 (Hp.set_same _ _ _)
              have kA := hA.keep d2 (by rw [Hp.set_ne _ _ d24]; exact k9)
              have tA := t9'.back hA
              simp (dsimp := false) (implicitDefEqProofs := false) (disch := first | omega | assumption | (simp only [rL, Nat.reduceAdd]; try omega)) only [↓rA, rZ, List.drop_succ_cons, ne_eq, not_true_eq_false, not_false_eq_true, List.getElem?_cons_zero, List.getElem?_cons_succ, ev, ofConst, ofCell, simprocAttr, f0, f2, f3, f23, f24, Hp.stA_of gA, Hp.stA_of kA, putAt_z1, putAt_sc, Hp.set_ne, d24, d42]
              exact ⟨_, Hp.sub_refl, ⟨c, op, a, 0⟩, lA, by rw [hops, eA]; rfl, rfl, (tA.write n04 d4).write n02 d2⟩
            · rintro r sA ⟨eA, hA⟩
              exact ⟨by rw [hops, eA]; rfl, t9'.stop hA⟩
          | none =>
            rw [e9] at t9 hops
            simp only [Option.getD_none] at t9
            simp only at hops
            simp (dsimp := false) (implicitDefEqProofs := false) (disch := first | omega | assumption | (simp only [rL, Nat.reduceAdd]; try omega)) only [↓rA, rZ, List.drop_succ_cons, ne_eq, not_true_eq_false, not_false_eq_true, List.getElem?_cons_zero, List.getElem?_cons_succ, ev, ofConst, ofCell, simprocAttr, f0, f2, f3, f23, f24, Option.isSome_none]
            exact ⟨⟨j + 1, by omega, t9, g9, k9, by simp, hops⟩, by omega⟩
        · obtain rfl : j = 5 := by omega
          simp (dsimp := false) (implicitDefEqProofs := false) (disch := first | omega | assumption | (simp only [rL, Nat.reduceAdd]; try omega)) only [↓rA, rZ, List.drop_succ_cons, ne_eq, not_true_eq_false, not_false_eq_true, List.getElem?_cons_zero, List.getElem?_cons_succ, ev, ofConst, ofCell, simprocAttr, f0, f2, f3, f23, f24, hlt]
          refine callp_intro (fail_spec _) (fun _ _ h => h.elim) ?_
          rintro r s' ⟨rfl, hs⟩
          exact ⟨by rw [hops]; rfl, rfl, Hp.sub_trans tj.1 hs⟩
  · rintro r s3 ⟨e3, h3⟩
    exact ⟨by simp [condF, e3], h1.stop h3⟩
theorem oneCond (lt : Nat) : One lt (.clo 89 [.ptr lt 0] []) condF condR := One.of (by kernel_rfl) fun l s0 s _ h => cond_spec lt l s0 s h
end Go.Proofs.YtgfbealjkdhdbaaGreatDoor
set_option maxRecDepth 100000
namespace Go.Proofs.YtgfbealjkdhdbaaGreatDoor
open Go Go.Av
section
variable {P : Ctx} {K : Ex → Fr → Hp → Prop} {f : Fr} {s : Hp}
end
def slR {α : Type} (V : α → AV → Prop) (xs : List α) (a : AV) : Prop := ∃ av o, AllV V xs av ∧ a = .sl av o
theorem slR_nil {α : Type} {V : α → AV → Prop} : slR V [] (.sl [] .nil) := ⟨[], .nil, trivial, rfl⟩
def srtR (x : Srt) (a : AV) : Prop := ∃ p, slR intR x.pt p ∧ a = .agg [strV x.col, .v (.bool x.down), p]
theorem where_spec (lt : Nat) (l : List Tok) (s0 s : Hp) (hl : l.length ≤ 100000) (h : TK lt l s0 s) :
    ACp Tryz.prog 50 [.ptr lt 0] s (fun r s' => ∃ x l', whereF l = some (x, l') ∧ slR condR x r ∧ TK lt l' s0 s') (up (fun r s' => whereF l = none ∧ Stop s0 2 r s')) := by
  refine ACp_run hm prep50 (by simp) ?_
  simp (dsimp := false) (implicitDefEqProofs := false) (disch := first | omega | assumption | (simp only [rL, Nat.reduceAdd]; try omega)) only [↓rA, rZ, List.drop_succ_cons, ne_eq, not_true_eq_false, not_false_eq_true, List.getElem?_cons_zero, List.getElem?_cons_succ, ev, ofConst, ofCell, simprocAttr]
  refine bsl_own (s0 := _) Hp.sub_refl (allLen_strs (ws := [w_where])) fun o1 s1 h1 => ?_
  simp (dsimp := false) (implicitDefEqProofs := false) (disch := first | omega | assumption | (simp only [rL, Nat.reduceAdd]; try omega)) only [↓rA, rZ, List.drop_succ_cons, ne_eq, not_true_eq_false, not_false_eq_true, List.getElem?_cons_zero, List.getElem?_cons_succ, ev, ofConst, ofCell, simprocAttr]
  have t1 := h.mono h1.sub
  refine call_intro (is_spec lt [w_where] o1 l s0 s1 t1 (by simp)) ?_
  rintro _ s2 ⟨rfl, t2⟩
  cases e2 : isF [w_where] l with
  | none =>
    rw [e2] at t2
    simp (dsimp := false) (implicitDefEqProofs := false) (disch := first | omega | assumption | (simp only [rL, Nat.reduceAdd]; try omega)) only [↓rA, rZ, List.drop_succ_cons, ne_eq, not_true_eq_false, not_false_eq_true, List.getElem?_cons_zero, List.getElem?_cons_succ, ev, ofConst, ofCell, simprocAttr, Option.isSome_none]
    exact ⟨_, Hp.sub_refl, [], l, by simp [whereF, e2], slR_nil, t2⟩
  | some l2 =>
    rw [e2] at t2
    simp only [Option.getD_some] at t2
    have q2 := isF_le e2
    simp (dsimp := false) (implicitDefEqProofs := false) (disch := first | omega | assumption | (simp only [rL, Nat.reduceAdd]; try omega)) only [↓rA, rZ, List.drop_succ_cons, ne_eq, not_true_eq_false, not_false_eq_true, List.getElem?_cons_zero, List.getElem?_cons_succ, ev, ofConst, ofCell, simprocAttr, Option.isSome_some]
    refine callp_intro (listCond_spec lt w_and (.clo 89 [.ptr lt 0] []) condF condF_less l2 s0 s2 (by omega) t2 (oneCond lt)) ?_ ?_
    · rintro _ s3 ⟨xs, l3, av, o3, e3, hA, rfl, t3⟩
      simp (dsimp := false) (implicitDefEqProofs := false) (disch := first | omega | assumption | (simp only [rL, Nat.reduceAdd]; try omega)) only [↓rA, rZ, List.drop_succ_cons, ne_eq, not_true_eq_false, not_false_eq_true, List.getElem?_cons_zero, List.getElem?_cons_succ, ev, ofConst, ofCell, simprocAttr]
      exact ⟨_, Hp.sub_refl, xs, l3, by simp [whereF, e2, e3], ⟨av, o3, hA, rfl⟩, t3⟩
    · rintro r s3 ⟨e3, h3⟩
      exact ⟨by simp [whereF, e2, e3], h3⟩
theorem sorting_spec (lt : Nat) (l : List Tok) (s0 s : Hp) (hl : l.length ≤ 100000) (h : TK lt l s0 s) :
    ACp Tryz.prog 93 [.ptr lt 0] s (fun r s' => ∃ x l', sortF l = some (x, l') ∧ srtR x r ∧ TK lt l' s0 s') (up (fun r s' => sortF l = none ∧ Stop s0 2 r s')) := by
  refine ACp_run hm prep93 (by simp) ?_
  simp (dsimp := false) (implicitDefEqProofs := false) (disch := first | omega | assumption | (simp only [rL, Nat.reduceAdd]; try omega)) only [↓rA, rZ, List.drop_succ_cons, ne_eq, not_true_eq_false, not_false_eq_true, List.getElem?_cons_zero, List.getElem?_cons_succ, ev, ofConst, ofCell, simprocAttr]
  refine newK_intro fun l2 n2 => ?_
  have d2 := h.ne n2
  have n02 := Hp.sub_none h.1 n2
  have t0 := h.add n2 (ob := .cells [.v (.string ⟨#[]⟩), .v (.bool false), .sl [] .nil])
  simp (dsimp := false) (implicitDefEqProofs := false) (disch := first | omega | assumption | (simp only [rL, Nat.reduceAdd]; try omega)) only [↓rA, rZ, List.drop_succ_cons, ne_eq, not_true_eq_false, not_false_eq_true, List.getElem?_cons_zero, List.getElem?_cons_succ, ev, ofConst, ofCell, simprocAttr]
  refine bsl_own (s0 := _) Hp.sub_refl (allLen_strs (ws := [w_order, w_by])) fun o1 s1 h1 => ?_
  simp (dsimp := false) (implicitDefEqProofs := false) (disch := first | omega | assumption | (simp only [rL, Nat.reduceAdd]; try omega)) only [↓rA, rZ, List.drop_succ_cons, ne_eq, not_true_eq_false, not_false_eq_true, List.getElem?_cons_zero, List.getElem?_cons_succ, ev, ofConst, ofCell, simprocAttr]
  have t1 := t0.mono h1.sub
  have g1 := h1.sub _ _ (Hp.set_same _ _ _)
  refine call_intro (is_spec lt [w_order, w_by] o1 l _ s1 t1.all (by simp)) ?_
  rintro _ s2 ⟨rfl, h2⟩
  have t2 := t1.back h2
  have g2 := h2.keep d2 g1
  cases e2 : isF [w_order, w_by] l with
  | none =>
    rw [e2] at t2
    simp (dsimp := false) (implicitDefEqProofs := false) (disch := first | omega | assumption | (simp only [rL, Nat.reduceAdd]; try omega)) only [↓rA, rZ, List.drop_succ_cons, ne_eq, not_true_eq_false, not_false_eq_true, List.getElem?_cons_zero, List.getElem?_cons_succ, ev, ofConst, ofCell, simprocAttr, Option.isSome_none, Hp.stA_of g2]
    exact ⟨_, Hp.sub_refl, ⟨[], false, []⟩, l, by simp [sortF, e2], ⟨_, slR_nil, rfl⟩, t2.write n02 d2⟩
  | some l2' =>
    rw [e2] at t2
    simp only [Option.getD_some] at t2
    have q2 := isF_le e2
    simp (dsimp := false) (implicitDefEqProofs := false) (disch := first | omega | assumption | (simp only [rL, Nat.reduceAdd]; try omega)) only [↓rA, rZ, List.drop_succ_cons, ne_eq, not_true_eq_false, not_false_eq_true, List.getElem?_cons_zero, List.getElem?_cons_succ, ev, ofConst, ofCell, simprocAttr, Option.isSome_some]
    refine bsl_own (s0 := _) Hp.sub_refl (allLen_strs (ws := [w_manhattan])) fun o3 s3 h3 => ?_
    simp (dsimp := false) (implicitDefEqProofs := false) (disch := first | omega | assumption | (simp only [rL, Nat.reduceAdd]; try omega)) only [↓rA, rZ, List.drop_succ_cons, ne_eq, not_true_eq_false, not_false_eq_true, List.getElem?_cons_zero, List.getElem?_cons_succ, ev, ofConst, ofCell, simprocAttr]
    have t3 := t2.mono h3.sub
    have g3 := h3.sub _ _ g2
    refine call_intro (is_spec lt [w_manhattan] o3 l2' _ s3 t3.all (by simp)) ?_
    rintro _ s4 ⟨rfl, h4⟩
    have t4 := t3.back h4
    have g4 := h4.keep d2 g3
    cases e4 : isF [w_manhattan] l2' with
    | some l4 =>
      rw [e4] at t4
      simp only [Option.getD_some] at t4
      have q4 := isF_le e4
      simp (dsimp := false) (implicitDefEqProofs := false) (disch := first | omega | assumption | (simp only [rL, Nat.reduceAdd]; try omega)) only [↓rA, rZ, List.drop_succ_cons, ne_eq, not_true_eq_false, not_false_eq_true, List.getElem?_cons_zero, List.getElem?_cons_succ, ev, ofConst, ofCell, simprocAttr, Option.isSome_some]
      refine callp_intro (row_spec lt l4 _ s4 (by omega) t4.all) ?_ ?_
      · rintro _ s5 ⟨xs, l5, e5, ⟨av, o5, hA, rfl⟩, h5⟩
        have t5 := t4.back h5
        have g5 := h5.keep d2 g4
        simp (dsimp := false) (implicitDefEqProofs := false) (disch := first | omega | assumption | (simp only [rL, Nat.reduceAdd]; try omega)) only [↓rA, rZ, List.drop_succ_cons, ne_eq, not_true_eq_false, not_false_eq_true, List.getElem?_cons_zero, List.getElem?_cons_succ, ev, ofConst, ofCell, simprocAttr, Hp.stA_of g5, putAt_z1, putAt_sc]
        exact ⟨_, Hp.sub_refl, ⟨[], false, xs⟩, l5, by simp [sortF, e2, e4, e5], ⟨_, ⟨av, o5, hA, rfl⟩, rfl⟩, t5.write n02 d2⟩
      · rintro r s5 ⟨e5, h5⟩
        exact ⟨by simp [sortF, e2, e4, e5], t4.stop h5⟩
    | none =>
      rw [e4] at t4
      simp only [Option.getD_none] at t4
      simp (dsimp := false) (implicitDefEqProofs := false) (disch := first | omega | assumption | (simp only [rL, Nat.reduceAdd]; try omega)) only [↓rA, rZ, List.drop_succ_cons, ne_eq, not_true_eq_false, not_false_eq_true, List.getElem?_cons_zero, List.getElem?_cons_succ, ev, ofConst, ofCell, simprocAttr, Option.isSome_none]
      refine callp_intro (name_spec lt l2' _ s4 t4.all) ?_ ?_
      · rintro _ s5 ⟨c, l5, e5, rfl, h5⟩
        have t5 := t4.back h5
        have g5 := h5.keep d2 g4
        simp (dsimp := false) (implicitDefEqProofs := false) (disch := first | omega | assumption | (simp only [rL, Nat.reduceAdd]; try omega)) only [↓rA, rZ, List.drop_succ_cons, ne_eq, not_true_eq_false, not_false_eq_true, List.getElem?_cons_zero, List.getElem?_cons_succ, ev, ofConst, ofCell, simprocAttr, strV]
        refine newK_intro fun l6 n6 => ?_
        have d6 := t5.ne n6
        have n06 := Hp.sub_none t5.1 n6
        have d26 : l2 ≠ l6 := by rintro rfl; rw [n6] at g5; cases g5
        have d62 := Ne.symm d26
        have t6 := t5.add n6 (ob := .cells [.v (.string ⟨c.toArray⟩), .v (.bool false), .sl [] .nil])
        simp (dsimp := false) (implicitDefEqProofs := false) (disch := first | omega | assumption | (simp only [rL, Nat.reduceAdd]; try omega)) only [↓rA, rZ, List.drop_succ_cons, ne_eq, not_true_eq_false, not_false_eq_true, List.getElem?_cons_zero, List.getElem?_cons_succ, ev, ofConst, ofCell, simprocAttr, strV, putAt_z1, putAt_sc]
        refine bsl_own (s0 := _) Hp.sub_refl (allLen_strs (ws := [w_desc])) fun o7 s7 h7 => ?_
        simp (dsimp := false) (implicitDefEqProofs := false) (disch := first | omega | assumption | (simp only [rL, Nat.reduceAdd]; try omega)) only [↓rA, rZ, List.drop_succ_cons, ne_eq, not_true_eq_false, not_false_eq_true, List.getElem?_cons_zero, List.getElem?_cons_succ, ev, ofConst, ofCell, simprocAttr]
        have t7 := t6.mono h7.sub
        have g7 := h7.sub _ _ (Hp.set_same _ _ _)
        have k7 := h7.sub l2 _ (by rw [Hp.set_ne _ _ d26]; exact g5)
        refine call_intro (is_spec lt [w_desc] o7 l5 _ s7 t7.all (by simp)) ?_
        rintro _ s8 ⟨rfl, h8⟩
        have t8 := t7.back h8
        have g8 := h8.keep d6 g7
        have k8 := h8.keep d2 k7
        cases e8 : isF [w_desc] l5 with
        | some l8 =>
          rw [e8] at t8
          simp only [Option.getD_some] at t8
          simp (dsimp := false) (implicitDefEqProofs := false) (disch := first | omega | assumption | (simp only [rL, Nat.reduceAdd]; try omega)) only [↓rA, rZ, List.drop_succ_cons, ne_eq, not_true_eq_false, not_false_eq_true, List.getElem?_cons_zero, List.getElem?_cons_succ, ev, ofConst, ofCell, simprocAttr, Option.isSome_some, Hp.stA_of g8, Hp.stA_of k8, putAt_z1, putAt_sc, Hp.set_ne, d26, d62]
          exact ⟨_, Hp.sub_refl, ⟨c, true, []⟩, l8, by simp [sortF, e2, e4, e5, e8], ⟨_, slR_nil, rfl⟩, (t8.write n06 d6).write n02 d2⟩
        | none =>
          rw [e8] at t8
          simp only [Option.getD_none] at t8
          simp (dsimp := false) (implicitDefEqProofs := false) (disch := first | omega | assumption | (simp only [rL, Nat.reduceAdd]; try omega)) only [↓rA, rZ, List.drop_succ_cons, ne_eq, not_true_eq_false, not_false_eq_true, List.getElem?_cons_zero, List.getElem?_cons_succ, ev, ofConst, ofCell, simprocAttr, Option.isSome_none, Hp.stA_of g8, putAt_z1, putAt_sc]
          have t8' := t8.write n06 d6 (ob := .cells [.v (.string ⟨c.toArray⟩), .v (.bool false), .sl [] .nil])
          refine bsl_own (s0 := _) Hp.sub_refl (allLen_strs (ws := [w_asc])) fun o9 s9 h9 => ?_
          simp (dsimp := false) (implicitDefEqProofs := false) (disch := first | omega | assumption | (simp only [rL, Nat.reduceAdd]; try omega)) only [↓rA, rZ, List.drop_succ_cons, ne_eq, not_true_eq_false, not_false_eq_true, List.getElem?_cons_zero, List.getElem?_cons_succ, ev, ofConst, ofCell, simprocAttr]
          have t9 := t8'.mono h9.sub
          have g9 := h9.sub _ _ (Hp.set_same _ _ _)
          have k9 := h9.sub l2 _ (by rw [Hp.set_ne _ _ d26]; exact k8)
          refine call_intro (is_spec lt [w_asc] o9 l5 _ s9 t9.all (by simp)) ?_
          rintro _ sA ⟨rfl, hA⟩
          have tA := t9.back hA
          have gA := hA.keep d6 g9
          have kA := hA.keep d2 k9
          simp (dsimp := false) (implicitDefEqProofs := false) (disch := first | omega | assumption | (simp only [rL, Nat.reduceAdd]; try omega)) only [↓rA, rZ, List.drop_succ_cons, ne_eq, not_true_eq_false, not_false_eq_true, List.getElem?_cons_zero, List.getElem?_cons_succ, ev, ofConst, ofCell, simprocAttr, Hp.read_of gA, Hp.stA_of kA, putAt_z1, putAt_sc, Hp.set_ne, d26, d62]
          exact ⟨_, Hp.sub_refl, ⟨c, false, []⟩, (isF [w_asc] l5).getD l5, by simp [sortF, e2, e4, e5, e8], ⟨_, slR_nil, rfl⟩, tA.write n02 d2⟩
      · rintro r s5 ⟨e5, h5⟩
        exact ⟨by simp [sortF, e2, e4, e5], t4.stop h5⟩
structure Sel where
  tab : List UInt8
  count : Bool
  asof : Int
  wh : List Cond
  srt : Srt
  lim : Int
inductive Stm where
  | create (t : List UInt8) (cols : List (List UInt8))
  | drop (t : List UInt8)
  | insert (t : List UInt8) (rows : List (List Int))
  | delete (t : List UInt8) (wh : List Cond)
  | update (t : List UInt8) (sets : List Asg) (wh : List Cond)
  | sel (x : Sel)
  | tx (k : Nat)
def stmR : Stm → AV → Prop
  | .create t cols, a => ∃ c, slR strR cols c ∧ a = .iface 89 (.agg [strV t, c])
  | .drop t, a => a = .iface 91 (.agg [strV t])
  | .insert t rows, a => ∃ c, slR rowR rows c ∧ a = .iface 93 (.agg [strV t, c])
  | .delete t wh, a => ∃ c, slR condR wh c ∧ a = .iface 95 (.agg [strV t, c])
  | .update t sets wh, a => ∃ c d, slR asgR sets c ∧ slR condR wh d ∧ a = .iface 97 (.agg [strV t, c, d])
  | .sel x, a => ∃ c p, slR condR x.wh c ∧ slR intR x.srt.pt p ∧ a = .iface 99 (.agg [strV x.tab, .v (.bool x.count), .v (.int .i64 x.asof), c, strV x.srt.col, .v (.bool x.srt.down), p, .v (.int .i64 x.lim)])
  | .tx k, a => a = .iface 101 (.agg [.v (.int .u8 k)])
def creationF (l : List Tok) : Option (Stm × List Tok) :=
  (nameF l).bind fun p => (isF [w_lp] p.2).bind fun l2 => (listF w_comma nameF l2).bind fun q => (isF [w_rp] q.2).map fun l4 => (.create p.1 q.1, l4)
def insertionF (l : List Tok) : Option (Stm × List Tok) :=
  (nameF l).bind fun p => (isF [w_values] p.2).bind fun l2 => (listF w_comma rowF l2).map fun q => (.insert p.1 q.1, q.2)
def updateF (l : List Tok) : Option (Stm × List Tok) :=
  (nameF l).bind fun p => (isF [w_set] p.2).bind fun l2 => (listF w_comma asgF l2).bind fun q => (whereF q.2).map fun r => (.update p.1 q.1 r.1, r.2)
theorem insertion_spec (lt : Nat) (l : List Tok) (s0 s : Hp) (hl : l.length ≤ 100000) (h : TK lt l s0 s) :
    ACp Tryz.prog 49 [.ptr lt 0] s (fun r s' => ∃ x l', insertionF l = some (x, l') ∧ stmR x r ∧ TK lt l' s0 s') (up (fun r s' => insertionF l = none ∧ Stop s0 2 r s')) := by
  refine ACp_run hm prep49 (by simp) ?_
  simp (dsimp := false) (implicitDefEqProofs := false) (disch := first | omega | assumption | (simp only [rL, Nat.reduceAdd]; try omega)) only [↓rA, rZ, List.drop_succ_cons, ne_eq, not_true_eq_false, not_false_eq_true, List.getElem?_cons_zero, List.getElem?_cons_succ, ev, ofConst, ofCell, simprocAttr]
  refine callp_intro (name_spec lt l s0 s h) ?_ ?_
  · rintro _ s1 ⟨c, l1, e1, rfl, t1⟩
    have q1 := nameF_less _ _ _ e1
    simp (dsimp := false) (implicitDefEqProofs := false) (disch := first | omega | assumption | (simp only [rL, Nat.reduceAdd]; try omega)) only [↓rA, rZ, List.drop_succ_cons, ne_eq, not_true_eq_false, not_false_eq_true, List.getElem?_cons_zero, List.getElem?_cons_succ, ev, ofConst, ofCell, simprocAttr, strV]
    refine newK_intro fun l3 n3 => ?_
    have d3 := t1.ne n3
    have n03 := Hp.sub_none t1.1 n3
    have t2 := t1.add n3 (ob := .cells [.v (.string ⟨c.toArray⟩), .sl [] .nil])
    simp (dsimp := false) (implicitDefEqProofs := false) (disch := first | omega | assumption | (simp only [rL, Nat.reduceAdd]; try omega)) only [↓rA, rZ, List.drop_succ_cons, ne_eq, not_true_eq_false, not_false_eq_true, List.getElem?_cons_zero, List.getElem?_cons_succ, ev, ofConst, ofCell, simprocAttr, strV, putAt_z1, putAt_sc]
    refine bsl_own (s0 := _) Hp.sub_refl (allLen_strs (ws := [w_values])) fun o4 s4 h4 => ?_
    simp (dsimp := false) (implicitDefEqProofs := false) (disch := first | omega | assumption | (simp only [rL, Nat.reduceAdd]; try omega)) only [↓rA, rZ, List.drop_succ_cons, ne_eq, not_true_eq_false, not_false_eq_true, List.getElem?_cons_zero, List.getElem?_cons_succ, ev, ofConst, ofCell, simprocAttr]
    have t4 := t2.mono h4.sub
    have g4 := h4.sub _ _ (Hp.set_same _ _ _)
    refine callp_intro (must_spec lt [w_values] o4 l1 _ s4 t4.all (by simp)) ?_ ?_
    · rintro _ s5 ⟨l5, e5, h5⟩
      have q5 := isF_le e5
      have t5 := t4.back h5
      have g5 := h5.keep d3 g4
      simp (dsimp := false) (implicitDefEqProofs := false) (disch := first | omega | assumption | (simp only [rL, Nat.reduceAdd]; try omega)) only [↓rA, rZ, List.drop_succ_cons, ne_eq, not_true_eq_false, not_false_eq_true, List.getElem?_cons_zero, List.getElem?_cons_succ, ev, ofConst, ofCell, simprocAttr]
      refine callp_intro (listRow_spec lt w_comma (.clo 87 [.ptr lt 0] []) rowF rowF_less l5 _ s5 (by omega) t5.all (oneRow lt)) ?_ ?_
      · rintro _ s6 ⟨xs, l6, av, o6, e6, hA, rfl, h6⟩
        have q6 := listF_less rowF_less _ _ _ e6
        have t6 := t5.back h6
        have g6 := h6.keep d3 g5
        simp (dsimp := false) (implicitDefEqProofs := false) (disch := first | omega | assumption | (simp only [rL, Nat.reduceAdd]; try omega)) only [↓rA, rZ, List.drop_succ_cons, ne_eq, not_true_eq_false, not_false_eq_true, List.getElem?_cons_zero, List.getElem?_cons_succ, ev, ofConst, ofCell, simprocAttr, Hp.stA_of g6, putAt_z1, putAt_sc]
        exact ⟨_, Hp.sub_refl, .insert c xs, l6, by simp [insertionF, e1, e5, e6], ⟨_, ⟨av, o6, hA, rfl⟩, rfl⟩, t6.write n03 d3⟩
      · rintro r s6 ⟨e6, h6⟩
        exact ⟨by simp [insertionF, e1, e5, e6], t5.stop h6⟩
    · rintro r s5 ⟨e5, h5⟩
      exact ⟨by simp [insertionF, e1, e5], t4.stop h5⟩
  · rintro r s1 ⟨e1, h1⟩
    exact ⟨by simp [insertionF, e1], h1⟩
theorem creation_spec (lt : Nat) (l : List Tok) (s0 s : Hp) (hl : l.length ≤ 100000) (h : TK lt l s0 s) :
    ACp Tryz.prog 47 [.ptr lt 0] s (fun r s' => ∃ x l', creationF l = some (x, l') ∧ stmR x r ∧ TK lt l' s0 s') (up (fun r s' => creationF l = none ∧ Stop s0 2 r s')) := by
  refine ACp_run hm prep47 (by simp) ?_
  simp (dsimp := false) (implicitDefEqProofs := false) (disch := first | omega | assumption | (simp only [rL, Nat.reduceAdd]; try omega)) only [↓rA, rZ, List.drop_succ_cons, ne_eq, not_true_eq_false, not_false_eq_true, List.getElem?_cons_zero, List.getElem?_cons_succ, ev, ofConst, ofCell, simprocAttr]
  refine callp_intro (name_spec lt l s0 s h) ?_ ?_
  · rintro _ s1 ⟨c, l1, e1, rfl, t1⟩
    have q1 := nameF_less _ _ _ e1
    simp (dsimp := false) (implicitDefEqProofs := false) (disch := first | omega | assumption | (simp only [rL, Nat.reduceAdd]; try omega)) only [↓rA, rZ, List.drop_succ_cons, ne_eq, not_true_eq_false, not_false_eq_true, List.getElem?_cons_zero, List.getElem?_cons_succ, ev, ofConst, ofCell, simprocAttr, strV]
    refine newK_intro fun l3 n3 => ?_
    have d3 := t1.ne n3
    have n03 := Hp.sub_none t1.1 n3
    have t2 := t1.add n3 (ob := .cells [.v (.string ⟨c.toArray⟩), .sl [] .nil])
    simp (dsimp := false) (implicitDefEqProofs := false) (disch := first | omega | assumption | (simp only [rL, Nat.reduceAdd]; try omega)) only [↓rA, rZ, List.drop_succ_cons, ne_eq, not_true_eq_false, not_false_eq_true, List.getElem?_cons_zero, List.getElem?_cons_succ, ev, ofConst, ofCell, simprocAttr, strV, putAt_z1, putAt_sc]
    refine bsl_own (s0 := _) Hp.sub_refl (allLen_strs (ws := [w_lp])) fun o4 s4 h4 => ?_
    simp (dsimp := false) (implicitDefEqProofs := false) (disch := first | omega | assumption | (simp only [rL, Nat.reduceAdd]; try omega)) only [↓rA, rZ, List.drop_succ_cons, ne_eq, not_true_eq_false, not_false_eq_true, List.getElem?_cons_zero, List.getElem?_cons_succ, ev, ofConst, ofCell, simprocAttr]
    have t4 := t2.mono h4.sub
    have g4 := h4.sub _ _ (Hp.set_same _ _ _)
    refine callp_intro (must_spec lt [w_lp] o4 l1 _ s4 t4.all (by simp)) ?_ ?_
    · rintro _ s5 ⟨l5, e5, h5⟩
      have q5 := isF_le e5
      have t5 := t4.back h5
      have g5 := h5.keep d3 g4
      simp (dsimp := false) (implicitDefEqProofs := false) (disch := first | omega | assumption | (simp only [rL, Nat.reduceAdd]; try omega)) only [↓rA, rZ, List.drop_succ_cons, ne_eq, not_true_eq_false, not_false_eq_true, List.getElem?_cons_zero, List.getElem?_cons_succ, ev, ofConst, ofCell, simprocAttr]
      refine callp_intro (listStr_spec lt w_comma (.clo 48 [.ptr lt 0] []) nameF nameF_less l5 _ s5 (by omega) t5.all (oneName lt)) ?_ ?_
      · rintro _ s6 ⟨xs, l6, av, o6, e6, hA, rfl, h6⟩
        have q6 := listF_less nameF_less _ _ _ e6
        have t6 := t5.back h6
        have g6 := h6.keep d3 g5
        simp (dsimp := false) (implicitDefEqProofs := false) (disch := first | omega | assumption | (simp only [rL, Nat.reduceAdd]; try omega)) only [↓rA, rZ, List.drop_succ_cons, ne_eq, not_true_eq_false, not_false_eq_true, List.getElem?_cons_zero, List.getElem?_cons_succ, ev, ofConst, ofCell, simprocAttr, Hp.stA_of g6, putAt_z1, putAt_sc]
        have t6' := t6.write n03 d3 (ob := .cells [.v (.string ⟨c.toArray⟩), .sl av o6])
        refine bsl_own (s0 := _) Hp.sub_refl (allLen_strs (ws := [w_rp])) fun o7 s7 h7 => ?_
        simp (dsimp := false) (implicitDefEqProofs := false) (disch := first | omega | assumption | (simp only [rL, Nat.reduceAdd]; try omega)) only [↓rA, rZ, List.drop_succ_cons, ne_eq, not_true_eq_false, not_false_eq_true, List.getElem?_cons_zero, List.getElem?_cons_succ, ev, ofConst, ofCell, simprocAttr]
        have t7 := t6'.mono h7.sub
        have g7 := h7.sub _ _ (Hp.set_same _ _ _)
        refine callp_intro (must_spec lt [w_rp] o7 l6 _ s7 t7.all (by simp)) ?_ ?_
        · rintro _ s8 ⟨l8, e8, h8⟩
          have t8 := t7.back h8
          have g8 := h8.keep d3 g7
          simp (dsimp := false) (implicitDefEqProofs := false) (disch := first | omega | assumption | (simp only [rL, Nat.reduceAdd]; try omega)) only [↓rA, rZ, List.drop_succ_cons, ne_eq, not_true_eq_false, not_false_eq_true, List.getElem?_cons_zero, List.getElem?_cons_succ, ev, ofConst, ofCell, simprocAttr, Hp.read_of g8]
          exact ⟨_, Hp.sub_refl, .create c xs, l8, by simp [creationF, e1, e5, e6, e8], ⟨_, ⟨av, o6, hA, rfl⟩, rfl⟩, t8⟩
        · rintro r s8 ⟨e8, h8⟩
          exact ⟨by simp [creationF, e1, e5, e6, e8], t7.stop h8⟩
      · rintro r s6 ⟨e6, h6⟩
        exact ⟨by simp [creationF, e1, e5, e6], t5.stop h6⟩
    · rintro r s5 ⟨e5, h5⟩
      exact ⟨by simp [creationF, e1, e5], t4.stop h5⟩
  · rintro r s1 ⟨e1, h1⟩
    exact ⟨by simp [creationF, e1], h1⟩
theorem update_spec (lt : Nat) (l : List Tok) (s0 s : Hp) (hl : l.length ≤ 100000) (h : TK lt l s0 s) :
    ACp Tryz.prog 51 [.ptr lt 0] s (fun r s' => ∃ x l', updateF l = some (x, l') ∧ stmR x r ∧ TK lt l' s0 s') (up (fun r s' => updateF l = none ∧ Stop s0 2 r s')) := by
  refine ACp_run hm prep51 (by simp) ?_
  simp (dsimp := false) (implicitDefEqProofs := false) (disch := first | omega | assumption | (simp only [rL, Nat.reduceAdd]; try omega)) only [↓rA, rZ, List.drop_succ_cons, ne_eq, not_true_eq_false, not_false_eq_true, List.getElem?_cons_zero, List.getElem?_cons_succ, ev, ofConst, ofCell, simprocAttr]
  refine callp_intro (name_spec lt l s0 s h) ?_ ?_
  · rintro _ s1 ⟨c, l1, e1, rfl, t1⟩
    have q1 := nameF_less _ _ _ e1
    simp (dsimp := false) (implicitDefEqProofs := false) (disch := first | omega | assumption | (simp only [rL, Nat.reduceAdd]; try omega)) only [↓rA, rZ, List.drop_succ_cons, ne_eq, not_true_eq_false, not_false_eq_true, List.getElem?_cons_zero, List.getElem?_cons_succ, ev, ofConst, ofCell, simprocAttr, strV]
    refine newK_intro fun l3 n3 => ?_
    have d3 := t1.ne n3
    have n03 := Hp.sub_none t1.1 n3
    have t2 := t1.add n3 (ob := .cells [.v (.string ⟨c.toArray⟩), .sl [] .nil, .sl [] .nil])
    simp (dsimp := false) (implicitDefEqProofs := false) (disch := first | omega | assumption | (simp only [rL, Nat.reduceAdd]; try omega)) only [↓rA, rZ, List.drop_succ_cons, ne_eq, not_true_eq_false, not_false_eq_true, List.getElem?_cons_zero, List.getElem?_cons_succ, ev, ofConst, ofCell, simprocAttr, strV, putAt_z1, putAt_sc]
    refine bsl_own (s0 := _) Hp.sub_refl (allLen_strs (ws := [w_set])) fun o4 s4 h4 => ?_
    simp (dsimp := false) (implicitDefEqProofs := false) (disch := first | omega | assumption | (simp only [rL, Nat.reduceAdd]; try omega)) only [↓rA, rZ, List.drop_succ_cons, ne_eq, not_true_eq_false, not_false_eq_true, List.getElem?_cons_zero, List.getElem?_cons_succ, ev, ofConst, ofCell, simprocAttr]
    have t4 := t2.mono h4.sub
    have g4 := h4.sub _ _ (Hp.set_same _ _ _)
    refine callp_intro (must_spec lt [w_set] o4 l1 _ s4 t4.all (by simp)) ?_ ?_
    · rintro _ s5 ⟨l5, e5, h5⟩
      have q5 := isF_le e5
      have t5 := t4.back h5
      have g5 := h5.keep d3 g4
      simp (dsimp := false) (implicitDefEqProofs := false) (disch := first | omega | assumption | (simp only [rL, Nat.reduceAdd]; try omega)) only [↓rA, rZ, List.drop_succ_cons, ne_eq, not_true_eq_false, not_false_eq_true, List.getElem?_cons_zero, List.getElem?_cons_succ, ev, ofConst, ofCell, simprocAttr]
      refine callp_intro (listAsg_spec lt w_comma (.clo 91 [.ptr lt 0] []) asgF asgF_less l5 _ s5 (by omega) t5.all (oneAssign lt)) ?_ ?_
      · rintro _ s6 ⟨xs, l6, av, o6, e6, hA, rfl, h6⟩
        have q6 := listF_less asgF_less _ _ _ e6
        have t6 := t5.back h6
        have g6 := h6.keep d3 g5
        simp (dsimp := false) (implicitDefEqProofs := false) (disch := first | omega | assumption | (simp only [rL, Nat.reduceAdd]; try omega)) only [↓rA, rZ, List.drop_succ_cons, ne_eq, not_true_eq_false, not_false_eq_true, List.getElem?_cons_zero, List.getElem?_cons_succ, ev, ofConst, ofCell, simprocAttr, Hp.stA_of g6, putAt_z1, putAt_sc]
        have t6' := t6.write n03 d3 (ob := .cells [.v (.string ⟨c.toArray⟩), .sl av o6, .sl [] .nil])
        refine callp_intro (where_spec lt l6 _ _ (by omega) t6'.all) ?_ ?_
        · rintro _ s8 ⟨ws, l8, e8, ⟨av8, o8, hA8, rfl⟩, h8⟩
          have t8 := t6'.back h8
          have g8 := h8.keep d3 (Hp.set_same _ _ _)
          simp (dsimp := false) (implicitDefEqProofs := false) (disch := first | omega | assumption | (simp only [rL, Nat.reduceAdd]; try omega)) only [↓rA, rZ, List.drop_succ_cons, ne_eq, not_true_eq_false, not_false_eq_true, List.getElem?_cons_zero, List.getElem?_cons_succ, ev, ofConst, ofCell, simprocAttr, Hp.stA_of g8, putAt_z1, putAt_sc]
          exact ⟨_, Hp.sub_refl, .update c xs ws, l8, by simp [updateF, e1, e5, e6, e8], ⟨_, _, ⟨av, o6, hA, rfl⟩, ⟨av8, o8, hA8, rfl⟩, rfl⟩, t8.write n03 d3⟩
        · rintro r s8 ⟨e8, h8⟩
          exact ⟨by simp [updateF, e1, e5, e6, e8], t6'.stop h8⟩
      · rintro r s6 ⟨e6, h6⟩
        exact ⟨by simp [updateF, e1, e5, e6], t5.stop h6⟩
    · rintro r s5 ⟨e5, h5⟩
      exact ⟨by simp [updateF, e1, e5], t4.stop h5⟩
  · rintro r s1 ⟨e1, h1⟩
    exact ⟨by simp [updateF, e1], h1⟩
end Go.Proofs.YtgfbealjkdhdbaaGreatDoor
set_option maxRecDepth 100000
namespace Go.Proofs.YtgfbealjkdhdbaaGreatDoor
open Go Go.Av
def sel1F (l : List Tok) : Option (Bool × List Tok) :=
  match isF [w_count] l with
  | some l1 => (isF [w_lp, w_star, w_rp] l1).map fun l2 => (true, l2)
  | none => (isF [w_star] l).map fun l2 => (false, l2)
def numOr (ws : List (List UInt8)) (l : List Tok) : Option ((Int × List Int) × List Tok) :=
  match isF ws l with
  | some l1 => (numberF l1).map fun p => ((p.1, [p.1]), p.2)
  | none => some ((-1, []), l)
def selF (l : List Tok) : Option ((Sel × List Int) × List Tok) :=
  (sel1F l).bind fun p1 => (isF [w_from] p1.2).bind fun l2 => (nameF l2).bind fun p2 => (numOr [w_as, w_of] p2.2).bind fun p3 => (whereF p3.2).bind fun p4 =>
    if p1.1 = true then some ((⟨p2.1, true, p3.1.1, p4.1, ⟨[], false, []⟩, -1⟩, p3.1.2), p4.2)
    else (sortF p4.2).bind fun p5 => (numOr [w_limit] p5.2).map fun p6 => ((⟨p2.1, false, p3.1.1, p4.1, p5.1, p6.1.1⟩, p3.1.2 ++ p6.1.2), p6.2)
def LK (ll : Nat) (xs : List Int) (s0 s : Hp) : Prop := s0 ll = none ∧ ∃ av o, AllV intR xs av ∧ Owned s0 s 1 av o ∧ s ll = some (.cells [.sl av o])
theorem LK.mono {ll : Nat} {xs : List Int} {s0 s s' : Hp} (h : LK ll xs s0 s) (hs : s.sub s') : LK ll xs s0 s' := by
  obtain ⟨h1, av, o, h2, h3, h4⟩ := h
  exact ⟨h1, av, o, h2, h3.mono hs, hs _ _ h4⟩
theorem LK.step {ll lt : Nat} {xs : List Int} {l l' : List Tok} {s0 s s' : Hp} (h : LK ll xs s0 s) (hT : TK lt l s0 s) (hne : ll ≠ lt) (h2 : TK lt l' (s.del lt) s') : LK ll xs s0 s' := by
  obtain ⟨h1, av, o, hA, hO, hl⟩ := h
  obtain ⟨_, k2, ys, oy, _, k4⟩ := hT
  exact ⟨h1, av, o, hA, (own_cut hO k2 k4).mono h2.1, h2.keep hne hl⟩
theorem own_write {s0 s : Hp} {k x : Nat} {xs : List AV} {o : Own} {cs : List AV} {ob : Ob} (h : Owned s0 s k xs o) (h0 : s0 x = none) (hx : s x = some (.cells cs)) : Owned s0 (s.set x ob) k xs o := by
  refine ⟨Hp.sub_new h.1 h0, ?_⟩
  have h2 := h.2
  cases o with
  | buf g c =>
    have hne : g ≠ x := by rintro rfl; rw [h2.2] at hx; cases hx
    exact ⟨h2.1, by rw [Hp.set_ne _ _ hne]; exact h2.2⟩
  | _ => exact h2
theorem LK.write {ll x : Nat} {xs : List Int} {s0 s : Hp} {cs : List AV} {ob : Ob} (h : LK ll xs s0 s) (h0 : s0 x = none) (hx : s x = some (.cells cs)) (hne : ll ≠ x) : LK ll xs s0 (s.set x ob) := by
  obtain ⟨h1, av, o, hA, hO, hl⟩ := h
  exact ⟨h1, av, o, hA, own_write hO h0 hx, by rw [Hp.set_ne _ _ hne]; exact hl⟩
theorem LK.ne {ll x : Nat} {xs : List Int} {s0 s : Hp} (h : LK ll xs s0 s) (hx : s x = none) : x ≠ ll := by
  obtain ⟨_, _, _, _, _, h4⟩ := h
  rintro rfl; rw [hx] at h4; cases h4
theorem LK.add {ll x : Nat} {xs : List Int} {s0 s : Hp} {ob : Ob} (h : LK ll xs s0 s) (hx : s x = none) : LK ll xs s0 (s.set x ob) := h.mono (Hp.sub_new Hp.sub_refl hx)
theorem set_get {s s' : Hp} {x : Nat} {ob : Ob} (h : (s.set x ob).sub s') : s' x = some ob := h _ _ (Hp.set_same _ _ _)
theorem putAt_z3 {a b c x y z : AV} {r : List AV} : putAt (a :: b :: c :: r) 0 [x, y, z] = x :: y :: z :: r := rfl
theorem LK_app {ll lt l5 : Nat} {xs : List Int} {l : List Tok} {s0 s : Hp} {cs5 av : List AV} {o o2 : Own} {v : Int} {C : AV → Hp → Prop} {d : Dep C} (hA : AllV intR xs av) (hO : Owned s0 s 1 av o) (hl : s ll = some (.cells [.sl av o])) (hT : TK lt l s0 s) (g5 : s l5 = some (.cells cs5))
    (dl : ll ≠ lt) (d5 : l5 ≠ lt) (e5 : l5 ≠ ll) (m1 : s0 ll = none) (n05 : s0 l5 = none) (hle : xs.length ≤ 1000)
    (hC : ∀ o' s', TK lt l s0 s' → Owned s0 s' 1 (av ++ [.v (.int .i64 v)]) o' → s' ll = some (.cells [.sl av o]) → s' l5 = some (.cells cs5) → C (.sl (av ++ [.v (.int .i64 v)]) o') s') :
    appK 1 8 s (.sl av o) (.sl [.v (.int .i64 v)] o2) (hid2 C d) := by
  obtain ⟨k1, k2, ys, oy, hy, hy2⟩ := hT
  have hln := hA.len
  refine app_own (own_add (own_add (own_add hO hy2) g5) hl) (hA.cells (by rintro x a rfl; rfl)) (show allLen 1 [AV.v (.int .i64 v)] from fun e he => by simp at he; subst he; rfl) (by simp; omega) (by simp; omega) fun o' s' h' => ?_
  have r1 : s0.sub (((s0.set lt (.cells [.sl ys oy])).set l5 (.cells cs5)).set ll (.cells [.sl av o])) :=
    Hp.sub_new (Hp.sub_new (Hp.sub_new Hp.sub_refl k2) n05) m1
  refine hC o' s' ⟨Hp.sub_trans r1 h'.sub, k2, ys, oy, hy, h'.sub _ _ ?_⟩ (h'.base r1) (h'.sub _ _ (Hp.set_same _ _ _)) (h'.sub _ _ ?_)
  · rw [Hp.set_ne _ _ (Ne.symm dl), Hp.set_ne _ _ (Ne.symm d5), Hp.set_same]
  · rw [Hp.set_ne _ _ e5, Hp.set_same]
theorem selection_spec (lt ll : Nat) (l : List Tok) (xs0 : List Int) (s0 s : Hp) (hl : l.length ≤ 100000) (hx0 : xs0 = []) (h : TK lt l s0 s) (hL : LK ll xs0 s0 s) (dl : ll ≠ lt) :
    ACp Tryz.prog 52 [.ptr lt 0, .ptr ll 0] s (fun r s' => ∃ x ys l', selF l = some ((x, ys), l') ∧ stmR (.sel x) r ∧ TK lt l' s0 s' ∧ LK ll ys s0 s') (up (fun r s' => selF l = none ∧ Stop s0 2 r s')) := by
  refine ACp_run hm prep52 (by simp) ?_
  simp (dsimp := false) (implicitDefEqProofs := false) (disch := first | omega | assumption | (simp only [rL, Nat.reduceAdd]; try omega)) only [↓rA, rZ, List.drop_succ_cons, ne_eq, not_true_eq_false, not_false_eq_true, List.getElem?_cons_zero, List.getElem?_cons_succ, ev, ofConst, ofCell, simprocAttr, putAt_z1, putAt_sc]
  refine newK_intro fun l5 n5 => ?_
  have d5 := h.ne n5
  have e5 := hL.ne n5
  have e5' := Ne.symm e5
  have n05 := Hp.sub_none h.1 n5
  simp (dsimp := false) (implicitDefEqProofs := false) (disch := first | omega | assumption | (simp only [rL, Nat.reduceAdd]; try omega)) only [↓rA, rZ, List.drop_succ_cons, ne_eq, not_true_eq_false, not_false_eq_true, List.getElem?_cons_zero, List.getElem?_cons_succ, ev, ofConst, ofCell, simprocAttr, putAt_z1, putAt_sc]
  have t1 := h.add n5 (ob := .cells [.v (.string ⟨#[]⟩), .v (.bool false), .v (.int .i64 (-1)), .sl [] .nil, .v (.string ⟨#[]⟩), .v (.bool false), .sl [] .nil, .v (.int .i64 (-1))])
  have L1 := hL.add n5 (ob := .cells [.v (.string ⟨#[]⟩), .v (.bool false), .v (.int .i64 (-1)), .sl [] .nil, .v (.string ⟨#[]⟩), .v (.bool false), .sl [] .nil, .v (.int .i64 (-1))])
  refine bsl_own (s0 := _) Hp.sub_refl (allLen_strs (ws := [w_count])) fun o2 s2 h2 => ?_
  simp (dsimp := false) (implicitDefEqProofs := false) (disch := first | omega | assumption | (simp only [rL, Nat.reduceAdd]; try omega)) only [↓rA, rZ, List.drop_succ_cons, ne_eq, not_true_eq_false, not_false_eq_true, List.getElem?_cons_zero, List.getElem?_cons_succ, ev, ofConst, ofCell, simprocAttr]
  have t2 := t1.mono h2.sub
  have L2 := L1.mono h2.sub
  have g2 := h2.sub _ _ (Hp.set_same _ _ _)
  refine call_intro (is_spec lt [w_count] o2 l _ s2 t2.all (by simp)) ?_
  rintro _ s3 ⟨rfl, h3⟩
  have t3 := t2.back h3
  have L3 := L2.step t2 dl h3
  have g3 := h3.keep d5 g2
  simp (dsimp := false) (implicitDefEqProofs := false) (disch := first | omega | assumption | (simp only [rL, Nat.reduceAdd]; try omega)) only [↓rA, rZ, List.drop_succ_cons, ne_eq, not_true_eq_false, not_false_eq_true, List.getElem?_cons_zero, List.getElem?_cons_succ, ev, ofConst, ofCell, simprocAttr, Hp.stA_of g3, putAt_z1, putAt_sc]
  have t3' := t3.write n05 d5 (ob := .cells [.v (.string ⟨#[]⟩), .v (.bool (isF [w_count] l).isSome), .v (.int .i64 (-1)), .sl [] .nil, .v (.string ⟨#[]⟩), .v (.bool false), .sl [] .nil, .v (.int .i64 (-1))])
  have L3' := L3.write n05 g3 e5' (ob := .cells [.v (.string ⟨#[]⟩), .v (.bool (isF [w_count] l).isSome), .v (.int .i64 (-1)), .sl [] .nil, .v (.string ⟨#[]⟩), .v (.bool false), .sl [] .nil, .v (.int .i64 (-1))])
  refine cond_join (fun f s' => ∃ (cnt : Bool) (l4 : List Tok), sel1F l = some (cnt, l4) ∧ l4.length ≤ l.length ∧ TK lt l4 s0 s' ∧ LK ll xs0 s0 s' ∧ s' l5 = some (.cells [.v (.string ⟨#[]⟩), .v (.bool cnt), .v (.int .i64 (-1)), .sl [] .nil, .v (.string ⟨#[]⟩), .v (.bool false), .sl [] .nil, .v (.int .i64 (-1))]) ∧
      f 0 = .ptr lt 0 ∧ f 1 = .ptr ll 0 ∧ f 5 = .ptr l5 0) ?_ ?_ ?_
  · intro hc
    obtain ⟨l1, hc1⟩ := Option.isSome_iff_exists.1 hc
    rw [hc1] at t3' L3'
    simp only [Option.getD_some, Option.isSome_some] at t3' L3'
    have q1 := isF_le hc1
    simp (dsimp := false) (implicitDefEqProofs := false) (disch := first | omega | assumption | (simp only [rL, Nat.reduceAdd]; try omega)) only [↓rA, rZ, List.drop_succ_cons, ne_eq, not_true_eq_false, not_false_eq_true, List.getElem?_cons_zero, List.getElem?_cons_succ, ev, ofConst, ofCell, simprocAttr, hc1, Option.isSome_some]
    refine bsl_own (s0 := _) Hp.sub_refl (allLen_strs (ws := [w_lp, w_star, w_rp])) fun o4 s4 h4 => ?_
    simp (dsimp := false) (implicitDefEqProofs := false) (disch := first | omega | assumption | (simp only [rL, Nat.reduceAdd]; try omega)) only [↓rA, rZ, List.drop_succ_cons, ne_eq, not_true_eq_false, not_false_eq_true, List.getElem?_cons_zero, List.getElem?_cons_succ, ev, ofConst, ofCell, simprocAttr]
    have t4 := t3'.mono h4.sub
    have L4 := L3'.mono h4.sub
    have g4 := h4.sub _ _ (Hp.set_same _ _ _)
    refine callp_intro (must_spec lt [w_lp, w_star, w_rp] o4 l1 _ s4 t4.all (by simp)) ?_ ?_
    · rintro _ s5 ⟨l6, e6, h6⟩
      have q6 := isF_le e6
      simp (dsimp := false) (implicitDefEqProofs := false) (disch := first | omega | assumption | (simp only [rL, Nat.reduceAdd]; try omega)) only [↓rA, rZ, List.drop_succ_cons, ne_eq, not_true_eq_false, not_false_eq_true, List.getElem?_cons_zero, List.getElem?_cons_succ, ev, ofConst, ofCell, simprocAttr]
      exact ⟨true, l6, by simp [sel1F, hc1, e6], by omega, t4.back h6, L4.step t4 dl h6, h6.keep d5 g4⟩
    · rintro r s5 ⟨e6, h6⟩
      exact ⟨by simp [selF, sel1F, hc1, e6], t4.stop h6⟩
  · intro hc
    have hc1 : isF [w_count] l = none := by simpa using hc
    rw [hc1] at t3' L3'
    simp only [Option.getD_none, Option.isSome_none] at t3' L3'
    simp (dsimp := false) (implicitDefEqProofs := false) (disch := first | omega | assumption | (simp only [rL, Nat.reduceAdd]; try omega)) only [↓rA, rZ, List.drop_succ_cons, ne_eq, not_true_eq_false, not_false_eq_true, List.getElem?_cons_zero, List.getElem?_cons_succ, ev, ofConst, ofCell, simprocAttr, hc1, Option.isSome_none]
    refine bsl_own (s0 := _) Hp.sub_refl (allLen_strs (ws := [w_star])) fun o4 s4 h4 => ?_
    simp (dsimp := false) (implicitDefEqProofs := false) (disch := first | omega | assumption | (simp only [rL, Nat.reduceAdd]; try omega)) only [↓rA, rZ, List.drop_succ_cons, ne_eq, not_true_eq_false, not_false_eq_true, List.getElem?_cons_zero, List.getElem?_cons_succ, ev, ofConst, ofCell, simprocAttr]
    have t4 := t3'.mono h4.sub
    have L4 := L3'.mono h4.sub
    have g4 := h4.sub _ _ (Hp.set_same _ _ _)
    refine callp_intro (must_spec lt [w_star] o4 l _ s4 t4.all (by simp)) ?_ ?_
    · rintro _ s5 ⟨l6, e6, h6⟩
      have q6 := isF_le e6
      simp (dsimp := false) (implicitDefEqProofs := false) (disch := first | omega | assumption | (simp only [rL, Nat.reduceAdd]; try omega)) only [↓rA, rZ, List.drop_succ_cons, ne_eq, not_true_eq_false, not_false_eq_true, List.getElem?_cons_zero, List.getElem?_cons_succ, ev, ofConst, ofCell, simprocAttr]
      exact ⟨false, l6, by simp [sel1F, hc1, e6], by omega, t4.back h6, L4.step t4 dl h6, h6.keep d5 g4⟩
    · rintro r s5 ⟨e6, h6⟩
      exact ⟨by simp [selF, sel1F, hc1, e6], t4.stop h6⟩
  clear t1 L1 h2 t2 L2 g2 h3 t3 L3 g3 t3' L3'
  rintro f sA ⟨cnt, lA, eA, qA, tA, LA, gA, f0, f1, f5⟩
  simp (dsimp := false) (implicitDefEqProofs := false) (disch := first | omega | assumption | (simp only [rL, Nat.reduceAdd]; try omega)) only [↓rA, rZ, List.drop_succ_cons, ne_eq, not_true_eq_false, not_false_eq_true, List.getElem?_cons_zero, List.getElem?_cons_succ, ev, ofConst, ofCell, simprocAttr, f0, f1, f5]
  refine bsl_own (s0 := _) Hp.sub_refl (allLen_strs (ws := [w_from])) fun oB sB hB => ?_
  simp (dsimp := false) (implicitDefEqProofs := false) (disch := first | omega | assumption | (simp only [rL, Nat.reduceAdd]; try omega)) only [↓rA, rZ, List.drop_succ_cons, ne_eq, not_true_eq_false, not_false_eq_true, List.getElem?_cons_zero, List.getElem?_cons_succ, ev, ofConst, ofCell, simprocAttr, f0, f1, f5]
  have tB := tA.mono hB.sub
  have LB := LA.mono hB.sub
  have gB := hB.sub _ _ gA
  refine callp_intro (must_spec lt [w_from] oB lA _ sB tB.all (by simp)) ?_ ?_
  rotate_left
  · rintro r s5 ⟨e6, h6⟩
    exact ⟨by simp [selF, eA, e6], tB.stop h6⟩
  rintro _ sC ⟨lC, eC, hC⟩
  have qC := isF_le eC
  have tC := tB.back hC
  have LC := LB.step tB dl hC
  have gC := hC.keep d5 gB
  simp (dsimp := false) (implicitDefEqProofs := false) (disch := first | omega | assumption | (simp only [rL, Nat.reduceAdd]; try omega)) only [↓rA, rZ, List.drop_succ_cons, ne_eq, not_true_eq_false, not_false_eq_true, List.getElem?_cons_zero, List.getElem?_cons_succ, ev, ofConst, ofCell, simprocAttr, f0, f1, f5]
  refine callp_intro (name_spec lt lC _ sC tC.all) ?_ ?_
  rotate_left
  · rintro r s5 ⟨e6, h6⟩
    exact ⟨by simp [selF, eA, eC, e6], tC.stop h6⟩
  rintro _ sD ⟨tab, lD, eD, rfl, hD⟩
  have qD := nameF_less _ _ _ eD
  have tD := tC.back hD
  have LD := LC.step tC dl hD
  have gD := hD.keep d5 gC
  simp (dsimp := false) (implicitDefEqProofs := false) (disch := first | omega | assumption | (simp only [rL, Nat.reduceAdd]; try omega)) only [↓rA, rZ, List.drop_succ_cons, ne_eq, not_true_eq_false, not_false_eq_true, List.getElem?_cons_zero, List.getElem?_cons_succ, ev, ofConst, ofCell, simprocAttr, f0, f1, f5, Hp.stA_of gD, putAt_z1, putAt_sc, strV]
  have tD' := tD.write n05 d5 (ob := .cells [.v (.string ⟨tab.toArray⟩), .v (.bool cnt), .v (.int .i64 (-1)), .sl [] .nil, .v (.string ⟨#[]⟩), .v (.bool false), .sl [] .nil, .v (.int .i64 (-1))])
  have LD' := LD.write n05 gD e5' (ob := .cells [.v (.string ⟨tab.toArray⟩), .v (.bool cnt), .v (.int .i64 (-1)), .sl [] .nil, .v (.string ⟨#[]⟩), .v (.bool false), .sl [] .nil, .v (.int .i64 (-1))])
  refine bsl_own (s0 := _) Hp.sub_refl (allLen_strs (ws := [w_as, w_of])) fun oE sE hE => ?_
  simp (dsimp := false) (implicitDefEqProofs := false) (disch := first | omega | assumption | (simp only [rL, Nat.reduceAdd]; try omega)) only [↓rA, rZ, List.drop_succ_cons, ne_eq, not_true_eq_false, not_false_eq_true, List.getElem?_cons_zero, List.getElem?_cons_succ, ev, ofConst, ofCell, simprocAttr, f0, f1, f5]
  have tE := tD'.mono hE.sub
  have LE := LD'.mono hE.sub
  have gE := hE.sub _ _ (Hp.set_same _ _ _)
  refine call_intro (is_spec lt [w_as, w_of] oE lD _ sE tE.all (by simp)) ?_
  rintro _ sF ⟨rfl, hF⟩
  have tF := tE.back hF
  have LF := LE.step tE dl hF
  have gF := hF.keep d5 gE
  simp (dsimp := false) (implicitDefEqProofs := false) (disch := first | omega | assumption | (simp only [rL, Nat.reduceAdd]; try omega)) only [↓rA, rZ, List.drop_succ_cons, ne_eq, not_true_eq_false, not_false_eq_true, List.getElem?_cons_zero, List.getElem?_cons_succ, ev, ofConst, ofCell, simprocAttr, f0, f1, f5]
  refine cond_join (fun f s' => ∃ (v : Int) (ys : List Int) (l4 : List Tok), numOr [w_as, w_of] lD = some ((v, ys), l4) ∧ l4.length ≤ lD.length ∧ ys.length ≤ 1 ∧ TK lt l4 s0 s' ∧ LK ll ys s0 s' ∧ s' l5 = some (.cells [.v (.string ⟨tab.toArray⟩), .v (.bool cnt), .v (.int .i64 v), .sl [] .nil, .v (.string ⟨#[]⟩), .v (.bool false), .sl [] .nil, .v (.int .i64 (-1))]) ∧
      f 0 = .ptr lt 0 ∧ f 1 = .ptr ll 0 ∧ f 5 = .ptr l5 0) ?_ ?_ ?_
  · intro hc
    obtain ⟨l1, hc1⟩ := Option.isSome_iff_exists.1 hc
    rw [hc1] at tF
    simp only [Option.getD_some] at tF
    have q1 := isF_le hc1
    simp (dsimp := false) (implicitDefEqProofs := false) (disch := first | omega | assumption | (simp only [rL, Nat.reduceAdd]; try omega)) only [↓rA, rZ, List.drop_succ_cons, ne_eq, not_true_eq_false, not_false_eq_true, List.getElem?_cons_zero, List.getElem?_cons_succ, ev, ofConst, ofCell, simprocAttr, f0, f1, f5]
    refine callp_intro (pnumber_spec lt l1 _ sF tF.all) ?_ ?_
    · rintro _ sG ⟨v, lG, eG, rfl, hG⟩
      have qG := numberF_less _ _ _ eG
      have tG := tF.back hG
      have LG := LF.step tF dl hG
      have gG := hG.keep d5 gF
      have tG' := tG.write n05 d5 (ob := .cells [.v (.string ⟨tab.toArray⟩), .v (.bool cnt), .v (.int .i64 v), .sl [] .nil, .v (.string ⟨#[]⟩), .v (.bool false), .sl [] .nil, .v (.int .i64 (-1))])
      have LG' := LG.write n05 gG e5' (ob := .cells [.v (.string ⟨tab.toArray⟩), .v (.bool cnt), .v (.int .i64 v), .sl [] .nil, .v (.string ⟨#[]⟩), .v (.bool false), .sl [] .nil, .v (.int .i64 (-1))])
      obtain ⟨m1, av, o, hA, hO, hlG⟩ := LG'
      have hlG2 : sG ll = some (.cells [.sl av o]) := by rw [Hp.set_ne _ _ e5'] at hlG; exact hlG
      simp (dsimp := false) (implicitDefEqProofs := false) (disch := first | omega | assumption | (simp only [rL, Nat.reduceAdd]; try omega)) only [↓rA, rZ, List.drop_succ_cons, ne_eq, not_true_eq_false, not_false_eq_true, List.getElem?_cons_zero, List.getElem?_cons_succ, ev, ofConst, ofCell, simprocAttr, f0, f1, f5, Hp.stA_of gG, putAt_z1, putAt_sc, Hp.read_of hlG, Hp.set_ne, e5, e5', hlG2]
      refine bsl_own (s0 := _) Hp.sub_refl (show allLen 1 [AV.v (.int .i64 v)] from fun e he => by simp at he; subst he; rfl) fun oH sH hH => ?_
      simp (dsimp := false) (implicitDefEqProofs := false) (disch := first | omega | assumption | (simp only [rL, Nat.reduceAdd]; try omega)) only [↓rA, rZ, List.drop_succ_cons, ne_eq, not_true_eq_false, not_false_eq_true, List.getElem?_cons_zero, List.getElem?_cons_succ, ev, ofConst, ofCell, simprocAttr]
      refine LK_app hA (hO.mono hH.sub) (hH.sub _ _ hlG) (tG'.mono hH.sub) (hH.sub _ _ (Hp.set_same _ _ _)) dl d5 e5 m1 n05 (by rw [hx0]; simp) fun oI sI tI OI lI gI => ?_
      simp (dsimp := false) (implicitDefEqProofs := false) (disch := first | omega | assumption | (simp only [rL, Nat.reduceAdd]; try omega)) only [↓rA, rZ, List.drop_succ_cons, ne_eq, not_true_eq_false, not_false_eq_true, List.getElem?_cons_zero, List.getElem?_cons_succ, ev, ofConst, ofCell, simprocAttr, f0, f1, f5, Hp.stA_of lI, putAt_z1, putAt_sc, Hp.set_ne, e5]
      refine ⟨v, [v], lG, by simp [numOr, hc1, eG], by omega, by simp, tI.write m1 dl, ⟨m1, _, oI, ?_, own_write OI m1 lI, Hp.set_same _ _ _⟩, gI⟩
      rw [hx0] at hA
      exact AllV.snoc (V := intR) (x := v) rfl hA
    · rintro r s5 ⟨e6, h6⟩
      exact ⟨by simp [selF, eA, eC, eD, numOr, hc1, e6], tF.stop h6⟩
  · intro hc
    have hc1 : isF [w_as, w_of] lD = none := by simpa using hc
    rw [hc1] at tF
    simp only [Option.getD_none] at tF
    simp (dsimp := false) (implicitDefEqProofs := false) (disch := first | omega | assumption | (simp only [rL, Nat.reduceAdd]; try omega)) only [↓rA, rZ, List.drop_succ_cons, ne_eq, not_true_eq_false, not_false_eq_true, List.getElem?_cons_zero, List.getElem?_cons_succ, ev, ofConst, ofCell, simprocAttr, f0, f1, f5]
    exact ⟨-1, [], lD, by simp [numOr, hc1], Nat.le_refl _, by simp, tF, by rw [← hx0]; exact LF, gF⟩
  clear tB LB gB hB hC tC LC gC hD tD LD gD tD' LD' hE tE LE gE hF tF LF gF f0 f1 f5 tA LA gA
  rintro f sG ⟨v, ys, lG, eG, qG, y1, tG, LG, gG, f0, f1, f5⟩
  simp (dsimp := false) (implicitDefEqProofs := false) (disch := first | omega | assumption | (simp only [rL, Nat.reduceAdd]; try omega)) only [↓rA, rZ, List.drop_succ_cons, ne_eq, not_true_eq_false, not_false_eq_true, List.getElem?_cons_zero, List.getElem?_cons_succ, ev, ofConst, ofCell, simprocAttr, f0, f1, f5]
  refine callp_intro (where_spec lt lG _ sG (by omega) tG.all) ?_ ?_
  rotate_left
  · rintro r s5 ⟨e6, h6⟩
    exact ⟨by simp [selF, eA, eC, eD, eG, e6], tG.stop h6⟩
  rintro _ sH ⟨wh, lH, eH, ⟨aw, ow, hAw, rfl⟩, hH⟩
  have tH := tG.back hH
  have LH := LG.step tG dl hH
  have gH := hH.keep d5 gG
  have tH' := tH.write n05 d5 (ob := .cells [.v (.string ⟨tab.toArray⟩), .v (.bool cnt), .v (.int .i64 v), .sl aw ow, .v (.string ⟨#[]⟩), .v (.bool false), .sl [] .nil, .v (.int .i64 (-1))])
  have LH' := LH.write n05 gH e5' (ob := .cells [.v (.string ⟨tab.toArray⟩), .v (.bool cnt), .v (.int .i64 v), .sl aw ow, .v (.string ⟨#[]⟩), .v (.bool false), .sl [] .nil, .v (.int .i64 (-1))])
  have qH : lH.length ≤ lG.length := by
    revert eH; unfold whereF
    cases hw : isF [w_where] lG with
    | none => intro h'; simp only [Option.some.injEq, Prod.mk.injEq] at h'; rw [← h'.2]; exact Nat.le_refl _
    | some l1 => intro h'; have := listF_less condF_less _ _ _ h'; have := isF_le hw; omega
  cases cnt with
  | true =>
    simp (dsimp := false) (implicitDefEqProofs := false) (disch := first | omega | assumption | (simp only [rL, Nat.reduceAdd]; try omega)) only [↓rA, rZ, List.drop_succ_cons, ne_eq, not_true_eq_false, not_false_eq_true, List.getElem?_cons_zero, List.getElem?_cons_succ, ev, ofConst, ofCell, simprocAttr, f0, f1, f5, Hp.stA_of gH, putAt_z1, putAt_sc]
    exact ⟨_, Hp.sub_refl, ⟨tab, true, v, wh, ⟨[], false, []⟩, -1⟩, ys, lH, by simp [selF, eA, eC, eD, eG, eH], ⟨_, _, ⟨aw, ow, hAw, rfl⟩, slR_nil, rfl⟩, tH', LH'⟩
  | false =>
    simp (dsimp := false) (implicitDefEqProofs := false) (disch := first | omega | assumption | (simp only [rL, Nat.reduceAdd]; try omega)) only [↓rA, rZ, List.drop_succ_cons, ne_eq, not_true_eq_false, not_false_eq_true, List.getElem?_cons_zero, List.getElem?_cons_succ, ev, ofConst, ofCell, simprocAttr, f0, f1, f5, Hp.stA_of gH, putAt_z1, putAt_sc]
    refine callp_intro (sorting_spec lt lH _ _ (by omega) tH'.all) ?_ ?_
    rotate_left
    · rintro r s5 ⟨e6, h6⟩
      exact ⟨by simp [selF, eA, eC, eD, eG, eH, e6], tH'.stop h6⟩
    rintro _ sI ⟨srt, lI, eI, ⟨_, ⟨ap, op, hAp, rfl⟩, rfl⟩, hI⟩
    have tI := tH'.back hI
    have LI := LH'.step tH' dl hI
    have gI := hI.keep d5 (Hp.set_same _ _ _)
    simp (dsimp := false) (implicitDefEqProofs := false) (disch := first | omega | assumption | (simp only [rL, Nat.reduceAdd]; try omega)) only [↓rA, rZ, List.drop_succ_cons, ne_eq, not_true_eq_false, not_false_eq_true, List.getElem?_cons_zero, List.getElem?_cons_succ, ev, ofConst, ofCell, simprocAttr, f0, f1, f5, Hp.stA_of gI, putAt_z1, putAt_sc, putAt_z3]
    have tI' := tI.write n05 d5 (ob := .cells [.v (.string ⟨tab.toArray⟩), .v (.bool false), .v (.int .i64 v), .sl aw ow, strV srt.col, .v (.bool srt.down), .sl ap op, .v (.int .i64 (-1))])
    have LI' := LI.write n05 gI e5' (ob := .cells [.v (.string ⟨tab.toArray⟩), .v (.bool false), .v (.int .i64 v), .sl aw ow, strV srt.col, .v (.bool srt.down), .sl ap op, .v (.int .i64 (-1))])
    refine bsl_own (s0 := _) Hp.sub_refl (allLen_strs (ws := [w_limit])) fun oE sE hE => ?_
    simp (dsimp := false) (implicitDefEqProofs := false) (disch := first | omega | assumption | (simp only [rL, Nat.reduceAdd]; try omega)) only [↓rA, rZ, List.drop_succ_cons, ne_eq, not_true_eq_false, not_false_eq_true, List.getElem?_cons_zero, List.getElem?_cons_succ, ev, ofConst, ofCell, simprocAttr, f0, f1, f5]
    have tE := tI'.mono hE.sub
    have LE := LI'.mono hE.sub
    have gE := hE.sub _ _ (Hp.set_same _ _ _)
    refine call_intro (is_spec lt [w_limit] oE lI _ sE tE.all (by simp)) ?_
    rintro _ sF ⟨rfl, hF⟩
    have tF := tE.back hF
    have LF := LE.step tE dl hF
    have gF := hF.keep d5 gE
    cases hc1 : isF [w_limit] lI with
    | none =>
      rw [hc1] at tF
      simp only [Option.getD_none] at tF
      simp (dsimp := false) (implicitDefEqProofs := false) (disch := first | omega | assumption | (simp only [rL, Nat.reduceAdd]; try omega)) only [↓rA, rZ, List.drop_succ_cons, ne_eq, not_true_eq_false, not_false_eq_true, List.getElem?_cons_zero, List.getElem?_cons_succ, ev, ofConst, ofCell, simprocAttr, f0, f1, f5, Option.isSome_none, Hp.read_of gF]
      exact ⟨_, Hp.sub_refl, ⟨tab, false, v, wh, srt, -1⟩, ys, lI, by
        have eM : numOr [w_limit] lI = some ((-1, []), lI) := by simp [numOr, hc1]
        simp [selF, eA, eC, eD, eG, eH, eI, eM], ⟨_, _, ⟨aw, ow, hAw, rfl⟩, ⟨ap, op, hAp, rfl⟩, rfl⟩, tF, LF⟩
    | some l1 =>
      rw [hc1] at tF
      simp only [Option.getD_some] at tF
      simp (dsimp := false) (implicitDefEqProofs := false) (disch := first | omega | assumption | (simp only [rL, Nat.reduceAdd]; try omega)) only [↓rA, rZ, List.drop_succ_cons, ne_eq, not_true_eq_false, not_false_eq_true, List.getElem?_cons_zero, List.getElem?_cons_succ, ev, ofConst, ofCell, simprocAttr, f0, f1, f5, Option.isSome_some]
      refine callp_intro (pnumber_spec lt l1 _ sF tF.all) ?_ ?_
      rotate_left
      · rintro r s5 ⟨e6, h6⟩
        exact ⟨by
          have eM : numOr [w_limit] lI = none := by simp [numOr, hc1, e6]
          simp [selF, eA, eC, eD, eG, eH, eI, eM], tF.stop h6⟩
      rintro _ sJ ⟨w, lJ, eJ, rfl, hJ⟩
      have tJ := tF.back hJ
      have LJ := LF.step tF dl hJ
      have gJ := hJ.keep d5 gF
      have tJ' := tJ.write n05 d5 (ob := .cells [.v (.string ⟨tab.toArray⟩), .v (.bool false), .v (.int .i64 v), .sl aw ow, strV srt.col, .v (.bool srt.down), .sl ap op, .v (.int .i64 w)])
      have LJ' := LJ.write n05 gJ e5' (ob := .cells [.v (.string ⟨tab.toArray⟩), .v (.bool false), .v (.int .i64 v), .sl aw ow, strV srt.col, .v (.bool srt.down), .sl ap op, .v (.int .i64 w)])
      obtain ⟨m1, av, o, hA, hO, hlG⟩ := LJ'
      have hlG2 : sJ ll = some (.cells [.sl av o]) := by rw [Hp.set_ne _ _ e5'] at hlG; exact hlG
      simp (dsimp := false) (implicitDefEqProofs := false) (disch := first | omega | assumption | (simp only [rL, Nat.reduceAdd]; try omega)) only [↓rA, rZ, List.drop_succ_cons, ne_eq, not_true_eq_false, not_false_eq_true, List.getElem?_cons_zero, List.getElem?_cons_succ, ev, ofConst, ofCell, simprocAttr, f0, f1, f5, Hp.stA_of gJ, putAt_z1, putAt_sc, Hp.set_ne, e5, e5', hlG2, Hp.read_of hlG]
      refine bsl_own (s0 := _) Hp.sub_refl (show allLen 1 [AV.v (.int .i64 w)] from fun e he => by simp at he; subst he; rfl) fun oK sK hK => ?_
      simp (dsimp := false) (implicitDefEqProofs := false) (disch := first | omega | assumption | (simp only [rL, Nat.reduceAdd]; try omega)) only [↓rA, rZ, List.drop_succ_cons, ne_eq, not_true_eq_false, not_false_eq_true, List.getElem?_cons_zero, List.getElem?_cons_succ, ev, ofConst, ofCell, simprocAttr]
      refine LK_app hA (hO.mono hK.sub) (hK.sub _ _ hlG) (tJ'.mono hK.sub) (hK.sub _ _ (Hp.set_same _ _ _)) dl d5 e5 m1 n05 (by omega) fun oL sL tL OL lL gL => ?_
      have gL2 : (sL.set ll (.cells [.sl (av ++ [.v (.int .i64 w)]) oL])) l5 = some (.cells [.v (.string ⟨tab.toArray⟩), .v (.bool false), .v (.int .i64 v), .sl aw ow, strV srt.col, .v (.bool srt.down), .sl ap op, .v (.int .i64 w)]) := by rw [Hp.set_ne _ _ e5]; exact gL
      simp (dsimp := false) (implicitDefEqProofs := false) (disch := first | omega | assumption | (simp only [rL, Nat.reduceAdd]; try omega)) only [↓rA, rZ, List.drop_succ_cons, ne_eq, not_true_eq_false, not_false_eq_true, List.getElem?_cons_zero, List.getElem?_cons_succ, ev, ofConst, ofCell, simprocAttr, f0, f1, f5, Hp.stA_of lL, putAt_z1, putAt_sc, Hp.set_ne, e5, Hp.read_of gL2]
      exact ⟨_, Hp.sub_refl, ⟨tab, false, v, wh, srt, w⟩, ys ++ [w], lJ, by
        have eM : numOr [w_limit] lI = some ((w, [w]), lJ) := by simp [numOr, hc1, eJ]
        simp [selF, eA, eC, eD, eG, eH, eI, eM], ⟨_, _, ⟨aw, ow, hAw, rfl⟩, ⟨ap, op, hAp, rfl⟩, rfl⟩, tL.write m1 dl, ⟨m1, _, oL, AllV.snoc (V := intR) (x := w) rfl hA, own_write OL m1 lL, Hp.set_same _ _ _⟩⟩
end Go.Proofs.YtgfbealjkdhdbaaGreatDoor
set_option maxRecDepth 100000
namespace Go.Proofs.YtgfbealjkdhdbaaGreatDoor
open Go Go.Av
def txG : List (List UInt8) → Nat → List Tok → Option (Stm × List Tok)
  | [], _, _ => none
  | w :: r, j, l => match (if 0 < j then isF [w] l else none) with
    | some l1 => some (.tx j, l1)
    | none => txG r (j + 1) l
def words4 : List (List UInt8) := [[], w_begin, w_commit, w_rollback]
def plain {α : Type} (p : Stm × α) : (Stm × List Int) × α := ((p.1, []), p.2)
def stm7 (l : List Tok) : Option ((Stm × List Int) × List Tok) := (txG words4 0 l).map plain
def stm6 (l : List Tok) : Option ((Stm × List Int) × List Tok) :=
  match isF [w_select] l with
  | some l1 => (selF l1).map fun p => ((.sel p.1.1, p.1.2), p.2)
  | none => stm7 l
def stm5 (l : List Tok) : Option ((Stm × List Int) × List Tok) :=
  match isF [w_update] l with
  | some l1 => (updateF l1).map plain
  | none => stm6 l
def stm4 (l : List Tok) : Option ((Stm × List Int) × List Tok) :=
  match isF [w_delete, w_from] l with
  | some l1 => (nameF l1).bind fun p => (whereF p.2).map fun q => ((.delete p.1 q.1, []), q.2)
  | none => stm5 l
def stm3 (l : List Tok) : Option ((Stm × List Int) × List Tok) :=
  match isF [w_insert, w_into] l with
  | some l1 => (insertionF l1).map plain
  | none => stm4 l
def stm2 (l : List Tok) : Option ((Stm × List Int) × List Tok) :=
  match isF [w_drop, w_table] l with
  | some l1 => (nameF l1).map fun p => ((.drop p.1, []), p.2)
  | none => stm3 l
def stmF (l : List Tok) : Option ((Stm × List Int) × List Tok) :=
  match isF [w_create, w_table] l with
  | some l1 => (creationF l1).map plain
  | none => stm2 l
theorem rep4 {x : AV} : List.replicate 4 x = [x, x, x, x] := rfl
theorem words_agg : (AV.agg [.v (.string ⟨#[]⟩), .v (.string ⟨#[98, 101, 103, 105, 110]⟩), .v (.string ⟨#[99, 111, 109, 109, 105, 116]⟩), .v (.string ⟨#[114, 111, 108, 108, 98, 97, 99, 107]⟩)]) = .agg (words4.map strV) := rfl
theorem statement_spec (lt ll : Nat) (l : List Tok) (xs0 : List Int) (s0 s : Hp) (hl : l.length ≤ 100000) (hx0 : xs0 = []) (h : TK lt l s0 s) (hL : LK ll xs0 s0 s) (dl : ll ≠ lt) :
    ACp Tryz.prog 31 [.ptr lt 0, .ptr ll 0] s (fun r s' => ∃ x ys l', stmF l = some ((x, ys), l') ∧ stmR x r ∧ TK lt l' s0 s' ∧ LK ll ys s0 s') (up (fun r s' => stmF l = none ∧ Stop s0 2 r s')) := by
  refine ACp_run hm prep31 (by simp) ?_
  simp (dsimp := false) (implicitDefEqProofs := false) (disch := first | omega | assumption | (simp only [rL, Nat.reduceAdd]; try omega)) only [↓rA, rZ, List.drop_succ_cons, ne_eq, not_true_eq_false, not_false_eq_true, List.getElem?_cons_zero, List.getElem?_cons_succ, ev, ofConst, ofCell, simprocAttr]
  refine bsl_own (s0 := _) Hp.sub_refl (allLen_strs (ws := [w_create, w_table])) fun o1 s1 h1 => ?_
  simp (dsimp := false) (implicitDefEqProofs := false) (disch := first | omega | assumption | (simp only [rL, Nat.reduceAdd]; try omega)) only [↓rA, rZ, List.drop_succ_cons, ne_eq, not_true_eq_false, not_false_eq_true, List.getElem?_cons_zero, List.getElem?_cons_succ, ev, ofConst, ofCell, simprocAttr]
  have t1 := h.mono h1.sub
  have L1 := hL.mono h1.sub
  refine call_intro (is_spec lt [w_create, w_table] o1 l _ s1 t1.all (by simp)) ?_
  rintro _ s2 ⟨rfl, h2⟩
  have t2 := t1.back h2
  have L2 := L1.step t1 dl h2
  cases e1 : isF [w_create, w_table] l with
  | some m1 =>
    rw [e1] at t2
    simp only [Option.getD_some] at t2
    have q1 := isF_le e1
    have hF : stmF l = (creationF m1).map plain := by simp [stmF,  e1]
    rw [hF]
    simp (dsimp := false) (implicitDefEqProofs := false) (disch := first | omega | assumption | (simp only [rL, Nat.reduceAdd]; try omega)) only [↓rA, rZ, List.drop_succ_cons, ne_eq, not_true_eq_false, not_false_eq_true, List.getElem?_cons_zero, List.getElem?_cons_succ, ev, ofConst, ofCell, simprocAttr, Option.isSome_some]
    refine callp_intro (creation_spec lt m1 _ s2 (by omega) t2.all) ?_ ?_
    · rintro _ sR ⟨x, lR, eR, hR, kR⟩
      simp (dsimp := false) (implicitDefEqProofs := false) (disch := first | omega | assumption | (simp only [rL, Nat.reduceAdd]; try omega)) only [↓rA, rZ, List.drop_succ_cons, ne_eq, not_true_eq_false, not_false_eq_true, List.getElem?_cons_zero, List.getElem?_cons_succ, ev, ofConst, ofCell, simprocAttr]
      exact ⟨_, Hp.sub_refl, x, [], lR, by simp [eR, plain], hR, t2.back kR, by rw [← hx0]; exact L2.step t2 dl kR⟩
    · rintro r sR ⟨eR, kR⟩
      exact ⟨by simp [eR], t2.stop kR⟩
  | none =>
  rw [e1] at t2
  simp only [Option.getD_none] at t2
  simp (dsimp := false) (implicitDefEqProofs := false) (disch := first | omega | assumption | (simp only [rL, Nat.reduceAdd]; try omega)) only [↓rA, rZ, List.drop_succ_cons, ne_eq, not_true_eq_false, not_false_eq_true, List.getElem?_cons_zero, List.getElem?_cons_succ, ev, ofConst, ofCell, simprocAttr, Option.isSome_none]
  refine bsl_own (s0 := _) Hp.sub_refl (allLen_strs (ws := [w_drop, w_table])) fun o3 s3 h3 => ?_
  simp (dsimp := false) (implicitDefEqProofs := false) (disch := first | omega | assumption | (simp only [rL, Nat.reduceAdd]; try omega)) only [↓rA, rZ, List.drop_succ_cons, ne_eq, not_true_eq_false, not_false_eq_true, List.getElem?_cons_zero, List.getElem?_cons_succ, ev, ofConst, ofCell, simprocAttr]
  have t3 := t2.mono h3.sub
  have L3 := L2.mono h3.sub
  refine call_intro (is_spec lt [w_drop, w_table] o3 l _ s3 t3.all (by simp)) ?_
  rintro _ s4 ⟨rfl, h4⟩
  have t4 := t3.back h4
  have L4 := L3.step t3 dl h4
  cases e3 : isF [w_drop, w_table] l with
  | some m3 =>
    rw [e3] at t4
    simp only [Option.getD_some] at t4
    have q3 := isF_le e3
    have hF : stmF l = (nameF m3).map fun p => ((.drop p.1, []), p.2) := by simp [stmF, e1, stm2, e3]
    rw [hF]
    simp (dsimp := false) (implicitDefEqProofs := false) (disch := first | omega | assumption | (simp only [rL, Nat.reduceAdd]; try omega)) only [↓rA, rZ, List.drop_succ_cons, ne_eq, not_true_eq_false, not_false_eq_true, List.getElem?_cons_zero, List.getElem?_cons_succ, ev, ofConst, ofCell, simprocAttr, Option.isSome_some]
    refine callp_intro (name_spec lt m3 _ s4 t4.all) ?_ ?_
    · rintro _ sR ⟨c, lR, eR, rfl, kR⟩
      simp (dsimp := false) (implicitDefEqProofs := false) (disch := first | omega | assumption | (simp only [rL, Nat.reduceAdd]; try omega)) only [↓rA, rZ, List.drop_succ_cons, ne_eq, not_true_eq_false, not_false_eq_true, List.getElem?_cons_zero, List.getElem?_cons_succ, ev, ofConst, ofCell, simprocAttr, strV, putAt_z1]
      exact ⟨_, Hp.sub_refl, .drop c, [], lR, by simp [eR], rfl, t4.back kR, by rw [← hx0]; exact L4.step t4 dl kR⟩
    · rintro r sR ⟨eR, kR⟩
      exact ⟨by simp [eR], t4.stop kR⟩
  | none =>
  rw [e3] at t4
  simp only [Option.getD_none] at t4
  simp (dsimp := false) (implicitDefEqProofs := false) (disch := first | omega | assumption | (simp only [rL, Nat.reduceAdd]; try omega)) only [↓rA, rZ, List.drop_succ_cons, ne_eq, not_true_eq_false, not_false_eq_true, List.getElem?_cons_zero, List.getElem?_cons_succ, ev, ofConst, ofCell, simprocAttr, Option.isSome_none]
  refine bsl_own (s0 := _) Hp.sub_refl (allLen_strs (ws := [w_insert, w_into])) fun o5 s5 h5 => ?_
  simp (dsimp := false) (implicitDefEqProofs := false) (disch := first | omega | assumption | (simp only [rL, Nat.reduceAdd]; try omega)) only [↓rA, rZ, List.drop_succ_cons, ne_eq, not_true_eq_false, not_false_eq_true, List.getElem?_cons_zero, List.getElem?_cons_succ, ev, ofConst, ofCell, simprocAttr]
  have t5 := t4.mono h5.sub
  have L5 := L4.mono h5.sub
  refine call_intro (is_spec lt [w_insert, w_into] o5 l _ s5 t5.all (by simp)) ?_
  rintro _ s6 ⟨rfl, h6⟩
  have t6 := t5.back h6
  have L6 := L5.step t5 dl h6
  cases e5 : isF [w_insert, w_into] l with
  | some m5 =>
    rw [e5] at t6
    simp only [Option.getD_some] at t6
    have q5 := isF_le e5
    have hF : stmF l = (insertionF m5).map plain := by simp [stmF, e1, stm2, e3, stm3, e5]
    rw [hF]
    simp (dsimp := false) (implicitDefEqProofs := false) (disch := first | omega | assumption | (simp only [rL, Nat.reduceAdd]; try omega)) only [↓rA, rZ, List.drop_succ_cons, ne_eq, not_true_eq_false, not_false_eq_true, List.getElem?_cons_zero, List.getElem?_cons_succ, ev, ofConst, ofCell, simprocAttr, Option.isSome_some]
    refine callp_intro (insertion_spec lt m5 _ s6 (by omega) t6.all) ?_ ?_
    · rintro _ sR ⟨x, lR, eR, hR, kR⟩
      simp (dsimp := false) (implicitDefEqProofs := false) (disch := first | omega | assumption | (simp only [rL, Nat.reduceAdd]; try omega)) only [↓rA, rZ, List.drop_succ_cons, ne_eq, not_true_eq_false, not_false_eq_true, List.getElem?_cons_zero, List.getElem?_cons_succ, ev, ofConst, ofCell, simprocAttr]
      exact ⟨_, Hp.sub_refl, x, [], lR, by simp [eR, plain], hR, t6.back kR, by rw [← hx0]; exact L6.step t6 dl kR⟩
    · rintro r sR ⟨eR, kR⟩
      exact ⟨by simp [eR], t6.stop kR⟩
  | none =>
  rw [e5] at t6
  simp only [Option.getD_none] at t6
  simp (dsimp := false) (implicitDefEqProofs := false) (disch := first | omega | assumption | (simp only [rL, Nat.reduceAdd]; try omega)) only [↓rA, rZ, List.drop_succ_cons, ne_eq, not_true_eq_false, not_false_eq_true, List.getElem?_cons_zero, List.getElem?_cons_succ, ev, ofConst, ofCell, simprocAttr, Option.isSome_none]
  refine bsl_own (s0 := _) Hp.sub_refl (allLen_strs (ws := [w_delete, w_from])) fun o7 s7 h7 => ?_
  simp (dsimp := false) (implicitDefEqProofs := false) (disch := first | omega | assumption | (simp only [rL, Nat.reduceAdd]; try omega)) only [↓rA, rZ, List.drop_succ_cons, ne_eq, not_true_eq_false, not_false_eq_true, List.getElem?_cons_zero, List.getElem?_cons_succ, ev, ofConst, ofCell, simprocAttr]
  have t7 := t6.mono h7.sub
  have L7 := L6.mono h7.sub
  refine call_intro (is_spec lt [w_delete, w_from] o7 l _ s7 t7.all (by simp)) ?_
  rintro _ s8 ⟨rfl, h8⟩
  have t8 := t7.back h8
  have L8 := L7.step t7 dl h8
  cases e7 : isF [w_delete, w_from] l with
  | some m7 =>
    rw [e7] at t8
    simp only [Option.getD_some] at t8
    have q7 := isF_le e7
    have hF : stmF l = (nameF m7).bind fun p => (whereF p.2).map fun q => ((.delete p.1 q.1, []), q.2) := by simp [stmF, e1, stm2, e3, stm3, e5, stm4, e7]
    rw [hF]
    simp (dsimp := false) (implicitDefEqProofs := false) (disch := first | omega | assumption | (simp only [rL, Nat.reduceAdd]; try omega)) only [↓rA, rZ, List.drop_succ_cons, ne_eq, not_true_eq_false, not_false_eq_true, List.getElem?_cons_zero, List.getElem?_cons_succ, ev, ofConst, ofCell, simprocAttr, Option.isSome_some]
    refine callp_intro (name_spec lt m7 _ s8 t8.all) ?_ ?_
    · rintro _ sQ ⟨c, lQ, eQ, rfl, kQ⟩
      have qQ := nameF_less _ _ _ eQ
      have tQ := t8.back kQ
      have LQ := L8.step t8 dl kQ
      simp (dsimp := false) (implicitDefEqProofs := false) (disch := first | omega | assumption | (simp only [rL, Nat.reduceAdd]; try omega)) only [↓rA, rZ, List.drop_succ_cons, ne_eq, not_true_eq_false, not_false_eq_true, List.getElem?_cons_zero, List.getElem?_cons_succ, ev, ofConst, ofCell, simprocAttr, strV, putAt_z1]
      refine newK_intro fun x5 n5 => ?_
      have d5 := tQ.ne n5
      have b5 := LQ.ne n5
      have n05 := Hp.sub_none tQ.1 n5
      simp (dsimp := false) (implicitDefEqProofs := false) (disch := first | omega | assumption | (simp only [rL, Nat.reduceAdd]; try omega)) only [↓rA, rZ, List.drop_succ_cons, ne_eq, not_true_eq_false, not_false_eq_true, List.getElem?_cons_zero, List.getElem?_cons_succ, ev, ofConst, ofCell, simprocAttr, strV, putAt_z1]
      have tQ' := tQ.add n5 (ob := .cells [.v (.string ⟨c.toArray⟩), .sl [] .nil])
      have LQ' := LQ.add n5 (ob := .cells [.v (.string ⟨c.toArray⟩), .sl [] .nil])
      refine callp_intro (where_spec lt lQ _ _ (by omega) tQ'.all) ?_ ?_
      · rintro _ sR ⟨wh, lR, eR, ⟨aw, ow, hAw, rfl⟩, kR⟩
        have tR := tQ'.back kR
        have LR := LQ'.step tQ' dl kR
        have gR := kR.keep d5 (Hp.set_same _ _ _)
        simp (dsimp := false) (implicitDefEqProofs := false) (disch := first | omega | assumption | (simp only [rL, Nat.reduceAdd]; try omega)) only [↓rA, rZ, List.drop_succ_cons, ne_eq, not_true_eq_false, not_false_eq_true, List.getElem?_cons_zero, List.getElem?_cons_succ, ev, ofConst, ofCell, simprocAttr, Hp.stA_of gR, putAt_z1, putAt_sc]
        exact ⟨_, Hp.sub_refl, .delete c wh, [], lR, by simp [eQ, eR], ⟨_, ⟨aw, ow, hAw, rfl⟩, rfl⟩, tR.write n05 d5, by rw [← hx0]; exact LR.write n05 gR (Ne.symm b5)⟩
      · rintro r sR ⟨eR, kR⟩
        exact ⟨by simp [eQ, eR], tQ'.stop kR⟩
    · rintro r sR ⟨eR, kR⟩
      exact ⟨by simp [eR], t8.stop kR⟩
  | none =>
  rw [e7] at t8
  simp only [Option.getD_none] at t8
  simp (dsimp := false) (implicitDefEqProofs := false) (disch := first | omega | assumption | (simp only [rL, Nat.reduceAdd]; try omega)) only [↓rA, rZ, List.drop_succ_cons, ne_eq, not_true_eq_false, not_false_eq_true, List.getElem?_cons_zero, List.getElem?_cons_succ, ev, ofConst, ofCell, simprocAttr, Option.isSome_none]
  refine bsl_own (s0 := _) Hp.sub_refl (allLen_strs (ws := [w_update])) fun o9 s9 h9 => ?_
  simp (dsimp := false) (implicitDefEqProofs := false) (disch := first | omega | assumption | (simp only [rL, Nat.reduceAdd]; try omega)) only [↓rA, rZ, List.drop_succ_cons, ne_eq, not_true_eq_false, not_false_eq_true, List.getElem?_cons_zero, List.getElem?_cons_succ, ev, ofConst, ofCell, simprocAttr]
  have t9 := t8.mono h9.sub
  have L9 := L8.mono h9.sub
  refine call_intro (is_spec lt [w_update] o9 l _ s9 t9.all (by simp)) ?_
  rintro _ s10 ⟨rfl, h10⟩
  have t10 := t9.back h10
  have L10 := L9.step t9 dl h10
  cases e9 : isF [w_update] l with
  | some m9 =>
    rw [e9] at t10
    simp only [Option.getD_some] at t10
    have q9 := isF_le e9
    have hF : stmF l = (updateF m9).map plain := by simp [stmF, e1, stm2, e3, stm3, e5, stm4, e7, stm5, e9]
    rw [hF]
    simp (dsimp := false) (implicitDefEqProofs := false) (disch := first | omega | assumption | (simp only [rL, Nat.reduceAdd]; try omega)) only [↓rA, rZ, List.drop_succ_cons, ne_eq, not_true_eq_false, not_false_eq_true, List.getElem?_cons_zero, List.getElem?_cons_succ, ev, ofConst, ofCell, simprocAttr, Option.isSome_some]
    refine callp_intro (update_spec lt m9 _ s10 (by omega) t10.all) ?_ ?_
    · rintro _ sR ⟨x, lR, eR, hR, kR⟩
      simp (dsimp := false) (implicitDefEqProofs := false) (disch := first | omega | assumption | (simp only [rL, Nat.reduceAdd]; try omega)) only [↓rA, rZ, List.drop_succ_cons, ne_eq, not_true_eq_false, not_false_eq_true, List.getElem?_cons_zero, List.getElem?_cons_succ, ev, ofConst, ofCell, simprocAttr]
      exact ⟨_, Hp.sub_refl, x, [], lR, by simp [eR, plain], hR, t10.back kR, by rw [← hx0]; exact L10.step t10 dl kR⟩
    · rintro r sR ⟨eR, kR⟩
      exact ⟨by simp [eR], t10.stop kR⟩
  | none =>
  rw [e9] at t10
  simp only [Option.getD_none] at t10
  simp (dsimp := false) (implicitDefEqProofs := false) (disch := first | omega | assumption | (simp only [rL, Nat.reduceAdd]; try omega)) only [↓rA, rZ, List.drop_succ_cons, ne_eq, not_true_eq_false, not_false_eq_true, List.getElem?_cons_zero, List.getElem?_cons_succ, ev, ofConst, ofCell, simprocAttr, Option.isSome_none]
  refine bsl_own (s0 := _) Hp.sub_refl (allLen_strs (ws := [w_select])) fun oA s11 h11 => ?_
  simp (dsimp := false) (implicitDefEqProofs := false) (disch := first | omega | assumption | (simp only [rL, Nat.reduceAdd]; try omega)) only [↓rA, rZ, List.drop_succ_cons, ne_eq, not_true_eq_false, not_false_eq_true, List.getElem?_cons_zero, List.getElem?_cons_succ, ev, ofConst, ofCell, simprocAttr]
  have t11 := t10.mono h11.sub
  have L11 := L10.mono h11.sub
  refine call_intro (is_spec lt [w_select] oA l _ s11 t11.all (by simp)) ?_
  rintro _ s12 ⟨rfl, h12⟩
  have t12 := t11.back h12
  have L12 := L11.step t11 dl h12
  cases e11 : isF [w_select] l with
  | some m11 =>
    rw [e11] at t12
    simp only [Option.getD_some] at t12
    have q11 := isF_le e11
    have hF : stmF l = (selF m11).map fun p => ((.sel p.1.1, p.1.2), p.2) := by simp [stmF, e1, stm2, e3, stm3, e5, stm4, e7, stm5, e9, stm6, e11]
    rw [hF]
    simp (dsimp := false) (implicitDefEqProofs := false) (disch := first | omega | assumption | (simp only [rL, Nat.reduceAdd]; try omega)) only [↓rA, rZ, List.drop_succ_cons, ne_eq, not_true_eq_false, not_false_eq_true, List.getElem?_cons_zero, List.getElem?_cons_succ, ev, ofConst, ofCell, simprocAttr, Option.isSome_some]
    refine callp_intro (selection_spec lt ll m11 xs0 _ s12 (by omega) hx0 t12 L12 dl) ?_ ?_
    · rintro _ sR ⟨x, ys, lR, eR, hR, kR, LR⟩
      simp (dsimp := false) (implicitDefEqProofs := false) (disch := first | omega | assumption | (simp only [rL, Nat.reduceAdd]; try omega)) only [↓rA, rZ, List.drop_succ_cons, ne_eq, not_true_eq_false, not_false_eq_true, List.getElem?_cons_zero, List.getElem?_cons_succ, ev, ofConst, ofCell, simprocAttr]
      exact ⟨_, Hp.sub_refl, .sel x, ys, lR, by simp [eR], hR, kR, LR⟩
    · rintro r sR ⟨eR, kR⟩
      exact ⟨by simp [eR], kR⟩
  | none =>
  rw [e11] at t12
  simp only [Option.getD_none] at t12
  simp (dsimp := false) (implicitDefEqProofs := false) (disch := first | omega | assumption | (simp only [rL, Nat.reduceAdd]; try omega)) only [↓rA, rZ, List.drop_succ_cons, ne_eq, not_true_eq_false, not_false_eq_true, List.getElem?_cons_zero, List.getElem?_cons_succ, ev, ofConst, ofCell, simprocAttr, Option.isSome_none]
  have hF : stmF l = stm7 l := by simp [stmF, e1, stm2, e3, stm3, e5, stm4, e7, stm5, e9, stm6, e11]
  rw [hF]
  simp (dsimp := false) (implicitDefEqProofs := false) (disch := first | omega | assumption | (simp only [rL, Nat.reduceAdd]; try omega)) only [↓rA, rZ, List.drop_succ_cons, ne_eq, not_true_eq_false, not_false_eq_true, List.getElem?_cons_zero, List.getElem?_cons_succ, ev, ofConst, ofCell, simprocAttr, rep4, putAt_z1, putAt_sc, words_agg]
  refine loop_intro (fun f s' => ∃ j : Nat, j ≤ 4 ∧ TK lt l s0 s' ∧ LK ll xs0 s0 s' ∧ f 0 = .ptr lt 0 ∧ f 53 = .agg (words4.map strV) ∧ f 54 = .v (.int .i64 j) ∧ txG words4 0 l = txG (words4.drop j) j l)
    (fun f _ => match f 54 with | .v (.int _ n) => (4 - n).toNat | _ => 0) ⟨0, by omega, t12, L12, ?_⟩ ?_
  · simp (dsimp := false) (implicitDefEqProofs := false) (disch := first | omega | assumption | (simp only [rL, Nat.reduceAdd]; try omega)) only [↓rA, rZ, List.drop_succ_cons, ne_eq, not_true_eq_false, not_false_eq_true, List.getElem?_cons_zero, List.getElem?_cons_succ, ev, ofConst, ofCell, simprocAttr]
    rfl
  · rintro f s' ⟨j, hj, tj, Lj, f0, f53, f54, hops⟩
    have n5 : words4.length = 4 := rfl
    by_cases hlt : (j : Int) < 4
    · have hj5 : j < 4 := by omega
      have hat := str_at (ws := words4) hj5 n5
      have hdrop : words4.drop j = words4.getD j [] :: words4.drop (j + 1) := by
        rw [List.drop_eq_getElem_cons (by omega)]; simp [List.getD, show j < words4.length by omega]
      generalize words4.getD j [] = op at hat hdrop
      rw [hdrop] at hops
      simp only [txG] at hops
      by_cases hj0 : 0 < j
      · have hj0' : (0 : Int) < (j : Int) := by omega
        rw [if_pos hj0] at hops
        simp (dsimp := false) (implicitDefEqProofs := false) (disch := first | omega | assumption | (simp only [rL, Nat.reduceAdd]; try omega)) only [↓rA, rZ, List.drop_succ_cons, ne_eq, not_true_eq_false, not_false_eq_true, List.getElem?_cons_zero, List.getElem?_cons_succ, ev, ofConst, ofCell, simprocAttr, f0, f53, f54, hlt, hat, hj0', strV]
        refine bsl_own (s0 := _) Hp.sub_refl (allLen_strs (ws := [op])) fun o8 s8' h8' => ?_
        simp (dsimp := false) (implicitDefEqProofs := false) (disch := first | omega | assumption | (simp only [rL, Nat.reduceAdd]; try omega)) only [↓rA, rZ, List.drop_succ_cons, ne_eq, not_true_eq_false, not_false_eq_true, List.getElem?_cons_zero, List.getElem?_cons_succ, ev, ofConst, ofCell, simprocAttr, f0, f53, f54]
        have t8' := tj.mono h8'.sub
        have L8' := Lj.mono h8'.sub
        refine call_intro (is_spec lt [op] o8 l _ s8' t8'.all (by simp)) ?_
        rintro _ s9' ⟨rfl, h9'⟩
        have t9' := t8'.back h9'
        have L9' := L8'.step t8' dl h9'
        cases hq : isF [op] l with
        | some l9 =>
          rw [hq] at t9' hops
          simp only [Option.getD_some] at t9'
          simp only at hops
          have w8 : IntKind.u8.wrap (j : Int) = (j : Int) := wrap_u8 (by omega) (by omega)
          simp (dsimp := false) (implicitDefEqProofs := false) (disch := first | omega | assumption | (simp only [rL, Nat.reduceAdd]; try omega)) only [↓rA, rZ, List.drop_succ_cons, ne_eq, not_true_eq_false, not_false_eq_true, List.getElem?_cons_zero, List.getElem?_cons_succ, ev, ofConst, ofCell, simprocAttr, f0, f53, f54, Option.isSome_some, w8, putAt_z1]
          exact ⟨_, Hp.sub_refl, .tx j, [], l9, by simp [stm7, hops, plain], rfl, t9', by rw [← hx0]; exact L9'⟩
        | none =>
          rw [hq] at t9' hops
          simp only [Option.getD_none] at t9'
          simp only at hops
          simp (dsimp := false) (implicitDefEqProofs := false) (disch := first | omega | assumption | (simp only [rL, Nat.reduceAdd]; try omega)) only [↓rA, rZ, List.drop_succ_cons, ne_eq, not_true_eq_false, not_false_eq_true, List.getElem?_cons_zero, List.getElem?_cons_succ, ev, ofConst, ofCell, simprocAttr, f0, f53, f54, Option.isSome_none]
          exact ⟨⟨j + 1, by omega, t9', L9', by simp, hops⟩, by omega⟩
      · have hj0' : ¬ (0 : Int) < (j : Int) := by omega
        rw [if_neg hj0] at hops
        simp (dsimp := false) (implicitDefEqProofs := false) (disch := first | omega | assumption | (simp only [rL, Nat.reduceAdd]; try omega)) only [↓rA, rZ, List.drop_succ_cons, ne_eq, not_true_eq_false, not_false_eq_true, List.getElem?_cons_zero, List.getElem?_cons_succ, ev, ofConst, ofCell, simprocAttr, f0, f53, f54, hlt, hat, hj0', strV]
        exact ⟨⟨j + 1, by omega, tj, Lj, by simp, hops⟩, by omega⟩
    · obtain rfl : j = 4 := by omega
      simp (dsimp := false) (implicitDefEqProofs := false) (disch := first | omega | assumption | (simp only [rL, Nat.reduceAdd]; try omega)) only [↓rA, rZ, List.drop_succ_cons, ne_eq, not_true_eq_false, not_false_eq_true, List.getElem?_cons_zero, List.getElem?_cons_succ, ev, ofConst, ofCell, simprocAttr, f0, f53, f54, hlt]
      refine callp_intro (fail_spec _) (fun _ _ h => h.elim) ?_
      rintro r s' ⟨rfl, hs⟩
      exact ⟨by rw [stm7, hops]; rfl, rfl, Hp.sub_trans tj.1 hs⟩
end Go.Proofs.YtgfbealjkdhdbaaGreatDoor
