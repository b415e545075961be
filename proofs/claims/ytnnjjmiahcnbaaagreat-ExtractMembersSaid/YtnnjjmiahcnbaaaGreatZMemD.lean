/-
  Proved: for every input the Go function indenturelaw29.ExtractMembers returns true, and each argument reads behind the call as it read before.
  Conditions: none beyond those of the given row.
-/
import Derived.Test.YtnnjjmiahcnbaaaGreatRows
import Derived.Test.YtnnjjmiahcnbaaaGreatMG
import Derived.JoinedOf
set_option linter.all false
set_option maxRecDepth 100000
namespace Go.Proofs.YtnnjjmiahcnbaaaGreat.extractMembers
open Go Go.Av

theorem own : ownKnob Tryz.prog.godebug = none := by kernel_rfl
theorem laid : laidOutB Tryz.prog = true := by kernel_rfl
theorem reads : ∀ t ∈ Tryz.f4.params.toList, Tryz.prog.readableRec t = true ∧ t < Tryz.prog.types.size := by
  rw [Tryz.params4]
  intro t ht
  simp only [List.mem_cons, List.not_mem_nil, or_false] at ht
  rcases ht with rfl | rfl | rfl | rfl | rfl | rfl | rfl | rfl | rfl <;> exact ⟨by kernel_rfl, by decide +kernel⟩
abbrev As : List (AV → Prop) := [AAgg SDig, AAgg SDig, AAgg SOpn, AAgg SOpn, ACell SDigs, AAgg SPf, AAgg SPf, ACell SBytes, ACell SBytes]
theorem ras : RAs Tryz.prog Tryz.f4.params.toList As := by
  rw [Tryz.params4]
  exact ⟨RA.agg (by kernel_rfl) ro_dig, RA.agg (by kernel_rfl) ro_dig, RA.agg (by kernel_rfl) ro_opn, RA.agg (by kernel_rfl) ro_opn, RA.cell (by kernel_rfl) ro_digs, RA.agg (by kernel_rfl) ro_pf, RA.agg (by kernel_rfl) ro_pf, RA.cell (by kernel_rfl) ro_bytes, RA.cell (by kernel_rfl) ro_bytes, trivial⟩
theorem spec {H : Type} (ds : List (DataW H)) (h : ds.length = Tryz.f4.params.toList.length) : Rows.extractMembersSpec.fn H ds = { results := [.lit (.bool true)], args := ds, vars := [] } := by
  rw [Tryz.params4] at h
  match ds, h with
  | [_, _, _, _, _, _, _, _, _], _ => rfl
theorem ac (avs : List AV) (h : InAll As avs) : AC Tryz.prog 4 avs Hp.emp fun r _ => r = .v (.bool true) := by
  obtain ⟨a0, _, rfl, h0, a1, _, rfl, h1, a2, _, rfl, h2, a3, _, rfl, h3, a4, _, rfl, h4, a5, _, rfl, h5, a6, _, rfl, h6, a7, _, rfl, h7, a8, _, rfl, h8, rfl⟩ := h
  obtain ⟨d, hd, rfl⟩ := a_dig h0
  obtain ⟨e, he, rfl⟩ := a_dig h1
  obtain ⟨o, ho, rfl⟩ := a_opn h2
  obtain ⟨q, hq, rfl⟩ := a_opn h3
  obtain ⟨l, hl, rfl⟩ := a_digs h4
  obtain ⟨x, hx, rfl⟩ := a_pf h5
  obtain ⟨y, hy, rfl⟩ := a_pf h6
  obtain ⟨a, _, rfl⟩ := a_bytes h7
  obtain ⟨b, _, rfl⟩ := a_bytes h8
  exact Members_law_spec d e o q l .any x y a b .any .any hd he ho hq hl hx hy (fun h => by cases h) (fun h => by cases h) Hp.emp

theorem lifted (os : Os) (started : os.Started) (H : Type) (enc : TypeId × Value → H) :
    ReturnsInHanded {} Tryz.checked os 4 .any (Rows.extractMembersSpec.pre6 enc Tryz.prog Tryz.f4 [] false) (Rows.extractMembersSpec.post enc Tryz.prog Tryz.f4 false true false false) := by
  refine returnsInHanded_of_change (C := Tryz.checked) (s := Rows.extractMembersSpec) own started (by kernel_rfl) Tryz.func4
    (ChangeSpec.witness6 (enc := enc) (C := Tryz.checked) (s := Rows.extractMembersSpec) false ⟨#[], #[.agg (Array.replicate 32 (.int .u8 0)), .agg (Array.replicate 32 (.int .u8 0)), .agg (#[.int .i64 0] ++ Array.replicate 64 (.int .u8 0)), .agg (#[.int .i64 0] ++ Array.replicate 64 (.int .u8 0)), .slice none 0 0, .agg (#[.int .i64 0] ++ Array.replicate 64 (.int .u8 0) ++ Array.replicate 32 (.int .u8 0) ++ #[.int .i64 0] ++ Array.replicate 64 (.int .u8 0) ++ #[.slice none 0 0, .slice none 0 0, .bool false, .slice none 0 0]), .agg (#[.int .i64 0] ++ Array.replicate 64 (.int .u8 0) ++ Array.replicate 32 (.int .u8 0) ++ #[.int .i64 0] ++ Array.replicate 64 (.int .u8 0) ++ #[.slice none 0 0, .slice none 0 0, .bool false, .slice none 0 0]), .slice none 0 0, .slice none 0 0], []⟩ 12 (by kernel_rfl) (by kernel_rfl) (by kernel_rfl) (by kernel_rfl) (by kernel_rfl)) ?_
  intro W base args ds gs before hval hW _ _
  exact law_contract (tb := 4) laid reads rfl (by kernel_rfl) (by kernel_rfl) ras spec ac W base args ds gs before hval hW

theorem proved : Rows.ExtractMembersSaid :=
  OpenClaim.holds_of_wide 4 Tryz.f4 rfl rfl rfl rfl rfl rfl rfl ⟨rfl, rfl, rfl, rfl, rfl⟩ rfl rfl rfl rfl rfl (by kernel_rfl) Tryz.func4 (by kernel_rfl)
    (of_decide_eq_true (by kernel_rfl)) (by unfold Func.isWrapper; first | (rw [if_pos (by decide +kernel)]; kernel_rfl) | (rw [if_neg (by decide +kernel)]; exact ⟨rfl, rfl⟩))
    (fun os started H enc _ => lifted os started H enc)
end Go.Proofs.YtnnjjmiahcnbaaaGreat.extractMembers
