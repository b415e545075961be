/-
  Proved: for every input the Go function indenturelaw24.ParseSmall returns true, and each argument reads behind the call as it read before.
  Conditions: none beyond those of the given row (what it lists of package-level variables).
-/
import Derived.Test.YtgfbealjkdhdbaaGreatDoorCards
import Derived.Test.YtgfbealjkdhdbaaGreatDoorTie
import Derived.Test.YtgfbealjkdhdbaaGreatDoorMD
import Derived.Test.YtgfbealjkdhdbaaGreatDoorMG
set_option linter.all false
set_option maxRecDepth 100000
namespace Go.Proofs.YtgfbealjkdhdbaaGreatDoor.parseSmall
open Go Go.Av Go.ChangeShapes Go.WideShapes Go.ChangeAt Go.RowKit

theorem reads : ∀ t ∈ Tryz.f4.params.toList, Tryz.prog.readableRec t = true ∧ t < Tryz.prog.types.size := by
  rw [Tryz.params4]
  intro t ht
  simp only [List.mem_cons, List.not_mem_nil, or_false] at ht
  subst ht; exact ⟨by kernel_rfl, by decide +kernel⟩
abbrev As : List (AV → Prop) := [ACell SStr]
theorem ras : RAs Tryz.prog Tryz.f4.params.toList As := by
  rw [Tryz.params4]
  exact ⟨RA.cell (by kernel_rfl) ro_str, trivial⟩
theorem spec {H : Type} (ds : List (DataW H)) (h : ds.length = Tryz.f4.params.toList.length) : Rows.parseSmallSpec.fn H ds = { results := [.lit (.bool true)], args := ds, vars := [] } := by
  rw [Tryz.params4] at h
  match ds, h with
  | [_], _ => rfl
theorem ac (s0 : Hp) (hT : Tabs s0) (avs : List AV) (h : InAll As avs) : AC Tryz.prog 4 avs s0 fun r _ => r = .v (.bool true) := by
  obtain ⟨a0, _, rfl, ⟨bs, _, h1⟩, rfl⟩ := h
  cases h1
  exact ParseSmall_spec bs s0 hT

def args0 : Array Value := #[.string ⟨#[]⟩]
theorem readsAt (os : Os) {H : Type} (enc : TypeId × Value → H) : ∃ places, DataW.whole enc Tryz.prog (wW os args0) Tryz.f4.params.toList Rows.parseSmallSpec.vars false args0.toList 8 = some ([.lit (.string [])], [], places) :=
  ⟨[], by kernel_rfl⟩

theorem lifted (os : Os) (started : os.Started) (H : Type) (enc : TypeId × Value → H) (F : Stop.Interp) :
    ReturnsInHanded {} Tryz.checked os 4 .any ((OpenSpec.ofChange Rows.parseSmallSpec).preRow enc Tryz.prog Tryz.f4 Rows.parseSmallRow.domain false Rows.parseSmallRow.laid) (((OpenSpec.ofChange Rows.parseSmallSpec).at F).post enc Tryz.prog Tryz.f4 false true false false) := by
  obtain ⟨places, hx⟩ := readsAt os enc
  refine returnsInHanded_of_row (C := Tryz.checked) (s := OpenSpec.ofChange Rows.parseSmallSpec) own started (by kernel_rfl) Tryz.func4
    (witness_row_atRef (enc := enc) (C := Tryz.checked) false (laidWorld os) args0 rfl (by kernel_rfl) (by kernel_rfl) (by kernel_rfl)
      (OpenSpec.preRow_of_cond 8 hx (by kernel_rfl) (fun k hk => by cases hk) (by kernel_rfl) (laid_met os args0))) ?_
  intro W base args ds gs before hval hW _ _ _ hL _ _
  obtain ⟨s0, h1, h2, h3⟩ := tabs_laid hL
  exact law_contract_at (tb := 4) laidOut reads rfl (by kernel_rfl) (by kernel_rfl) ras spec s0 W h1 h2 (ac s0 h3) base args ds gs before hval hW

theorem said : Rows.ParseSmallSaid :=
  OpenClaim.holds_of_cond 4 Tryz.f4 rfl rfl rfl rfl rfl rfl rfl ⟨rfl, rfl, rfl, rfl, rfl⟩ rfl rfl rfl rfl rfl (by kernel_rfl) Tryz.func4 (by kernel_rfl)
    (of_decide_eq_true (by kernel_rfl)) (by unfold Func.isWrapper; first | (rw [if_pos (by decide +kernel)]; kernel_rfl) | (rw [if_neg (by decide +kernel)]; exact ⟨rfl, rfl⟩))
    (fun os started H enc _ F => by rw [OpenClaim.pre_eq_preRow]; exact lifted os started H enc F)

theorem plain (f : FuncId) (fn : Func) (hf : Tryz.pinned.checked.prog.funcNamed "indenture/indenturelaw24.ParseSmall" = some f) (hfn : Tryz.pinned.checked.prog.funcs[f]? = some fn) :
    true = Tryz.pinned.checked.prog.looks [] ∧ ∀ (j : Nat) t, fn.params[j]? = some t → Tryz.pinned.checked.prog.wantsStandIn t = false := by
  obtain rfl : f = 4 := Option.some.inj ((show Tryz.prog.funcNamed "indenture/indenturelaw24.ParseSmall" = some 4 by kernel_rfl).symm.trans hf) |>.symm
  obtain rfl : fn = Tryz.f4 := (Option.some.inj (Tryz.func4.symm.trans hfn)).symm
  refine ⟨by kernel_rfl, fun j t ht => ?_⟩
  rw [Tryz.params4] at ht
  have hm := Array.mem_of_getElem? ht
  simp only [List.mem_toArray, List.mem_cons, List.not_mem_nil, or_false] at hm
  subst hm
  · exact (show Tryz.prog.wantsStandIn 9 = false by kernel_rfl)

theorem card : Rows.ParseSmallCardSaid :=
  Claim7.holds_tied_plain_at .later [] _ _ _ _ said (fun _ h => by cases h) (by kernel_rfl) (fun _ h => by cases h) parseSmall_row_tie rfl ⟨rfl, rfl⟩ (by kernel_rfl) rfl plain (by kernel_rfl)
end Go.Proofs.YtgfbealjkdhdbaaGreatDoor.parseSmall
