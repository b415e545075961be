/-
  Proved: for every input the Go function indenturelaw23.LexTexts returns true, and each argument reads behind the call as it read before.
  Conditions: none beyond those of the given row (what it lists of package-level variables).
-/
import Derived.Test.YtpbicmjkjihhnaaDoorCards
import Derived.Test.YtpbicmjkjihhnaaDoorTie
import Derived.Test.YtpbicmjkjihhnaaDoorME
set_option linter.all false
set_option maxRecDepth 100000
namespace Go.Proofs.YtpbicmjkjihhnaaDoor.lexTexts
open Go Go.Av Go.ChangeShapes Go.WideShapes Go.ChangeAt Go.RowKit

theorem reads : ∀ t ∈ Tryd.f3.params.toList, Tryd.prog.readableRec t = true ∧ t < Tryd.prog.types.size := by
  rw [Tryd.params3]
  intro t ht
  simp only [List.mem_cons, List.not_mem_nil, or_false] at ht
  subst ht; exact ⟨by kernel_rfl, by decide +kernel⟩
abbrev As : List (AV → Prop) := [ACell SStr]
theorem ras : RAs Tryd.prog Tryd.f3.params.toList As := by
  rw [Tryd.params3]
  exact ⟨RA.cell (by kernel_rfl) ro_str, trivial⟩
theorem spec {H : Type} (ds : List (DataW H)) (h : ds.length = Tryd.f3.params.toList.length) : Rows.lexTextsSpec.fn H ds = { results := [.lit (.bool true)], args := ds, vars := [] } := by
  rw [Tryd.params3] at h
  match ds, h with
  | [_], _ => rfl
theorem ac (s0 : Hp) (hT : Tabs s0) (avs : List AV) (h : InAll As avs) : AC Tryd.prog 3 avs s0 fun r _ => r = .v (.bool true) := by
  obtain ⟨a0, _, rfl, ⟨bs, hbs, h1⟩, rfl⟩ := h
  cases h1
  exact (LexTexts_spec bs s0 hT).mono fun r s' h => h.2

def args0 : Array Value := #[.string ⟨#[]⟩]
theorem readsAt (os : Os) {H : Type} (enc : TypeId × Value → H) : ∃ places, DataW.whole enc Tryd.prog (wW os args0) Tryd.f3.params.toList Rows.lexTextsSpec.vars false args0.toList 8 = some ([.lit (.string [])], [], places) :=
  ⟨[], by kernel_rfl⟩

theorem lifted (os : Os) (started : os.Started) (H : Type) (enc : TypeId × Value → H) (F : Stop.Interp) :
    ReturnsInHanded {} Tryd.checked os 3 .any ((OpenSpec.ofChange Rows.lexTextsSpec).preRow enc Tryd.prog Tryd.f3 Rows.lexTextsRow.domain false Rows.lexTextsRow.laid) (((OpenSpec.ofChange Rows.lexTextsSpec).at F).post enc Tryd.prog Tryd.f3 false true false false) := by
  obtain ⟨places, hx⟩ := readsAt os enc
  refine returnsInHanded_of_row (C := Tryd.checked) (s := OpenSpec.ofChange Rows.lexTextsSpec) own started (by kernel_rfl) Tryd.func3
    (witness_row_atRef (enc := enc) (C := Tryd.checked) false (laidWorld os) args0 rfl (by kernel_rfl) (by kernel_rfl) (by kernel_rfl)
      (OpenSpec.preRow_of_cond 8 hx (by kernel_rfl) (fun k hk => by cases hk) (by kernel_rfl) (laid_met os args0))) ?_
  intro W base args ds gs before hval hW _ _ _ hL _ _
  obtain ⟨s0, h1, h2, h3⟩ := tabs_laid hL
  exact law_contract_at (tb := 4) laidOut reads rfl (by kernel_rfl) (by kernel_rfl) ras spec s0 W h1 h2 (ac s0 h3) base args ds gs before hval hW

theorem said : Rows.LexTextsSaid :=
  OpenClaim.holds_of_cond 3 Tryd.f3 rfl rfl rfl rfl rfl rfl rfl ⟨rfl, rfl, rfl, rfl, rfl⟩ rfl rfl rfl rfl rfl (by kernel_rfl) Tryd.func3 (by kernel_rfl)
    (of_decide_eq_true (by kernel_rfl)) (by unfold Func.isWrapper; first | (rw [if_pos (by decide +kernel)]; kernel_rfl) | (rw [if_neg (by decide +kernel)]; exact ⟨rfl, rfl⟩))
    (fun os started H enc _ F => by rw [OpenClaim.pre_eq_preRow]; exact lifted os started H enc F)

theorem plain (f : FuncId) (fn : Func) (hf : Tryd.pinned.checked.prog.funcNamed "indenture/indenturelaw23.LexTexts" = some f) (hfn : Tryd.pinned.checked.prog.funcs[f]? = some fn) :
    true = Tryd.pinned.checked.prog.looks [] ∧ ∀ (j : Nat) t, fn.params[j]? = some t → Tryd.pinned.checked.prog.wantsStandIn t = false := by
  obtain rfl : f = 3 := Option.some.inj ((show Tryd.prog.funcNamed "indenture/indenturelaw23.LexTexts" = some 3 by kernel_rfl).symm.trans hf) |>.symm
  obtain rfl : fn = Tryd.f3 := (Option.some.inj (Tryd.func3.symm.trans hfn)).symm
  refine ⟨by kernel_rfl, fun j t ht => ?_⟩
  rw [Tryd.params3] at ht
  have hm := Array.mem_of_getElem? ht
  simp only [List.mem_toArray, List.mem_cons, List.not_mem_nil, or_false] at hm
  subst hm
  · exact (show Tryd.prog.wantsStandIn 9 = false by kernel_rfl)

theorem card : Rows.LexTextsCardSaid :=
  Claim7.holds_tied_plain_at .later [] _ _ _ _ said (fun _ h => by cases h) (by kernel_rfl) (fun _ h => by cases h) lexTexts_row_tie rfl ⟨rfl, rfl⟩ (by kernel_rfl) rfl plain (by kernel_rfl)
end Go.Proofs.YtpbicmjkjihhnaaDoor.lexTexts
