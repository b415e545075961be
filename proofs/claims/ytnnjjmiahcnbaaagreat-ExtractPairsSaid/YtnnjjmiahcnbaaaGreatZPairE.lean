/-
  Proved: for every input the Go function indenturelaw29.ExtractPairs returns true, and each argument reads behind the call as it read before.
  Conditions: none beyond those of the given row.
-/
import Derived.Test.YtnnjjmiahcnbaaaGreatRows
import Derived.Test.YtnnjjmiahcnbaaaGreatMF
import Derived.JoinedOf
set_option linter.all false
set_option maxRecDepth 100000
namespace Go.Proofs.YtnnjjmiahcnbaaaGreat.extractPairs
open Go Go.Av

theorem own : ownKnob Tryz.prog.godebug = none := by kernel_rfl
theorem laid : laidOutB Tryz.prog = true := by kernel_rfl
theorem reads : ∀ t ∈ Tryz.f3.params.toList, Tryz.prog.readableRec t = true ∧ t < Tryz.prog.types.size := by
  rw [Tryz.params3]
  intro t ht
  simp only [List.mem_cons, List.not_mem_nil, or_false] at ht
  rcases ht with rfl | rfl <;> exact ⟨by kernel_rfl, by decide +kernel⟩
abbrev As : List (AV → Prop) := [ACell (SSlice pk1 SBytes), ACell (SSlice pk1 SBytes)]
theorem ras : RAs Tryz.prog Tryz.f3.params.toList As := by
  rw [Tryz.params3]
  exact ⟨RA.cell (by kernel_rfl) ro_texts, RA.cell (by kernel_rfl) ro_texts, trivial⟩
theorem spec {H : Type} (ds : List (DataW H)) (h : ds.length = Tryz.f3.params.toList.length) : Rows.extractPairsSpec.fn H ds = { results := [.lit (.bool true)], args := ds, vars := [] } := by
  rw [Tryz.params3] at h
  match ds, h with
  | [_, _], _ => rfl
theorem ac (avs : List AV) (h : InAll As avs) : AC Tryz.prog 3 avs Hp.emp fun r _ => r = .v (.bool true) := by
  obtain ⟨a0, _, rfl, h0, a1, _, rfl, h1, rfl⟩ := h
  obtain ⟨l, l1, rfl⟩ := a_texts h0
  obtain ⟨m, m1, rfl⟩ := a_texts h1
  exact Pairs_spec l m .any .any (fun t ht h => by rw [l1 t ht] at h; cases h) (fun t ht h => by rw [m1 t ht] at h; cases h) Hp.emp

theorem lifted (os : Os) (started : os.Started) (H : Type) (enc : TypeId × Value → H) :
    ReturnsInHanded {} Tryz.checked os 3 .any (Rows.extractPairsSpec.pre6 enc Tryz.prog Tryz.f3 [] false) (Rows.extractPairsSpec.post enc Tryz.prog Tryz.f3 false true false false) := by
  refine returnsInHanded_of_change (C := Tryz.checked) (s := Rows.extractPairsSpec) own started (by kernel_rfl) Tryz.func3
    (ChangeSpec.witness6 (enc := enc) (C := Tryz.checked) (s := Rows.extractPairsSpec) false ⟨#[], #[.slice none 0 0, .slice none 0 0], []⟩ 8 (by kernel_rfl) (by kernel_rfl) (by kernel_rfl) (by kernel_rfl) (by kernel_rfl)) ?_
  intro W base args ds gs before hval hW _ _
  exact law_contract (tb := 4) laid reads rfl (by kernel_rfl) (by kernel_rfl) ras spec ac W base args ds gs before hval hW

theorem proved : Rows.ExtractPairsSaid :=
  OpenClaim.holds_of_wide 3 Tryz.f3 rfl rfl rfl rfl rfl rfl rfl ⟨rfl, rfl, rfl, rfl, rfl⟩ rfl rfl rfl rfl rfl (by kernel_rfl) Tryz.func3 (by kernel_rfl)
    (of_decide_eq_true (by kernel_rfl)) (by unfold Func.isWrapper; first | (rw [if_pos (by decide +kernel)]; kernel_rfl) | (rw [if_neg (by decide +kernel)]; exact ⟨rfl, rfl⟩))
    (fun os started H enc _ => lifted os started H enc)
end Go.Proofs.YtnnjjmiahcnbaaaGreat.extractPairs
