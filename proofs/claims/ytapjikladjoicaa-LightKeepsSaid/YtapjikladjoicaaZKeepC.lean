/-
  Proved: for every input the Go function indenturelaw34.LightKeeps returns true, and each argument reads behind the call as it read before.
  Conditions: none beyond those of the given row.
-/
import Derived.Test.YtapjikladjoicaaRows
import Derived.Test.YtapjikladjoicaaME
import Derived.JoinedOf
set_option linter.all false
set_option maxRecDepth 100000
namespace Go.Proofs.Ytapjikladjoicaa.lightKeeps
open Go Go.Av

theorem own : ownKnob Try.prog.godebug = none := by kernel_rfl
theorem laid : laidOutB Try.prog = true := by kernel_rfl
theorem reads : ∀ t ∈ Try.f3.params.toList, Try.prog.readableRec t = true ∧ t < Try.prog.types.size := by
  rw [Try.params3]
  intro t ht
  simp only [List.mem_cons, List.not_mem_nil, or_false] at ht
  rcases ht with rfl | rfl | rfl | rfl | rfl | rfl | rfl <;> exact ⟨by kernel_rfl, by decide +kernel⟩
abbrev As : List (AV → Prop) := [ACell (SSlice AV.agg SDig), ACell SByte, AAgg SOpn, ACell (SSlice AV.agg SDig), ACell SByte, AAgg SDig, ACell (SSlice AV.agg SDig)]
theorem ras : RAs Try.prog Try.f3.params.toList As := by
  rw [Try.params3]
  exact ⟨RA.cell (by kernel_rfl) ro_digs, RA.cell (by kernel_rfl) ro_byte, RA.agg (by kernel_rfl) ro_opn, RA.cell (by kernel_rfl) ro_digs, RA.cell (by kernel_rfl) ro_byte, RA.agg (by kernel_rfl) ro_dig, RA.cell (by kernel_rfl) ro_digs, trivial⟩
theorem spec {H : Type} (ds : List (DataW H)) (h : ds.length = Try.f3.params.toList.length) : Rows.lightKeepsSpec.fn H ds = { results := [.lit (.bool true)], args := ds, vars := [] } := by
  rw [Try.params3] at h
  match ds, h with
  | [_, _, _, _, _, _, _], _ => rfl
theorem ac (avs : List AV) (h : InAll As avs) : AC Try.prog 3 avs Hp.emp fun r _ => r = .v (.bool true) := by
  obtain ⟨a0, _, rfl, h0, a1, _, rfl, h1, a2, _, rfl, h2, a3, _, rfl, h3, a4, _, rfl, h4, a5, _, rfl, h5, a6, _, rfl, h6, rfl⟩ := h
  obtain ⟨l, l1, l2, rfl⟩ := SDigs_dgs h0
  obtain ⟨F, rfl⟩ := a_byte h1
  obtain ⟨o, ho, rfl⟩ := a_opn h2
  obtain ⟨g, g1, g2, rfl⟩ := SDigs_dgs h3
  obtain ⟨I, rfl⟩ := a_byte h4
  obtain ⟨y, hy, rfl⟩ := a_dig h5
  obtain ⟨q, q1, q2, rfl⟩ := SDigs_dgs h6
  exact Keeps_spec l g q .any .any .any F.toNat I.toNat F.toNat_lt I.toNat_lt o y l1 g1 q1 ho hy Hp.emp

theorem lifted (os : Os) (started : os.Started) (H : Type) (enc : TypeId × Value → H) :
    ReturnsInHanded {} Try.checked os 3 .any (Rows.lightKeepsSpec.pre6 enc Try.prog Try.f3 [] false) (Rows.lightKeepsSpec.post enc Try.prog Try.f3 false true false false) := by
  refine returnsInHanded_of_change (C := Try.checked) (s := Rows.lightKeepsSpec) own started (by kernel_rfl) Try.func3
    (ChangeSpec.witness6 (enc := enc) (C := Try.checked) (s := Rows.lightKeepsSpec) false ⟨#[], #[.slice none 0 0, .int .u8 0, .agg (#[.int .i64 0] ++ Array.replicate 64 (.int .u8 0)), .slice none 0 0, .int .u8 0, .agg (Array.replicate 32 (.int .u8 0)), .slice none 0 0], []⟩ 8 (by kernel_rfl) (by kernel_rfl) (by kernel_rfl) (by kernel_rfl) (by kernel_rfl)) ?_
  intro W base args ds gs before hval hW _ _
  exact law_contract (tb := 4) laid reads rfl (by kernel_rfl) (by kernel_rfl) ras spec ac W base args ds gs before hval hW

theorem proved : Rows.LightKeepsSaid :=
  OpenClaim.holds_of_wide 3 Try.f3 rfl rfl rfl rfl rfl rfl rfl ⟨rfl, rfl, rfl, rfl, rfl⟩ rfl rfl rfl rfl rfl (by kernel_rfl) Try.func3 (by kernel_rfl)
    (of_decide_eq_true (by kernel_rfl)) (by unfold Func.isWrapper; first | (rw [if_pos (by decide +kernel)]; kernel_rfl) | (rw [if_neg (by decide +kernel)]; exact ⟨rfl, rfl⟩))
    (fun os started H enc _ => lifted os started H enc)
end Go.Proofs.Ytapjikladjoicaa.lightKeeps
