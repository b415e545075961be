/-
  Proved: for every input the Go function indenturelaw34.LightFollows returns true, and each argument reads behind the call as it read before.
  Conditions: none beyond those of the given row.
-/
import Derived.Test.YtapjikladjoicaaRows
import Derived.Test.YtapjikladjoicaaMG
import Derived.JoinedOf
set_option linter.all false
set_option maxRecDepth 100000
namespace Go.Proofs.Ytapjikladjoicaa
open Go Go.Av
theorem ro_boolW : RO Try.prog 4 SBool := RO.bool (by kernel_rfl)
abbrev SWd : List AV → Prop := SParts [SByte, SBool, SOpn, SBool, SDig, SBool, SSlice AV.agg SDig]
theorem ro_wd : RO Try.prog 50 SWd := RO.struct (Ss := [SByte, SBool, SOpn, SBool, SDig, SBool, SSlice AV.agg SDig]) Try.underlying50 (by
  refine ⟨by kernel_rfl, ro_byte, by kernel_rfl, ro_boolW, by kernel_rfl, ro_opn, by kernel_rfl, ro_boolW, by kernel_rfl, ro_dig, by kernel_rfl, ro_boolW, by kernel_rfl, ro_digs, (by show _ = _; kernel_rfl)⟩)
theorem SWd_wd {us : List AV} (h : SWd us) : ∃ w : Wd, w.ok ∧ us = wdC w := by
  obtain ⟨a, x1, ⟨N, rfl⟩, ⟨b, x2, ⟨oth, rfl⟩, ⟨c, x3, hc, ⟨d, x4, ⟨lie, rfl⟩, ⟨e, x5, he, ⟨g, x6, ⟨raw, rfl⟩, ⟨i, x7, hi, h7, rfl⟩, rfl⟩, rfl⟩, rfl⟩, rfl⟩, rfl⟩, rfl⟩ := h
  cases h7
  obtain ⟨q, hq, rfl⟩ := SOpn_op hc
  obtain ⟨dd, hdd, rfl⟩ := SDig_dg he
  have hi2 := hi
  obtain ⟨l, _, _, rfl⟩ := hi
  obtain ⟨gs, g1, _, g3⟩ := SDigs_dgs (av := .sl (l.map AV.agg) .any) hi2
  rw [g3]
  exact ⟨⟨N, oth, q, lie, dd, raw, gs⟩, ⟨hq, hdd, g1⟩, by simp [wdC, byteAV]⟩
theorem SWd_pk : Pk AV.agg SWd 102 := ⟨fun us h => by obtain ⟨w, hw, rfl⟩ := SWd_wd h; exact wdC_length hw, fun us h => rfl⟩
theorem ro_wds : RO Try.prog 45 (SSlice AV.agg SWd) := RO.slice (k := 102) (by kernel_rfl : Try.prog.underlying 45 = some (.slice 50)) (by kernel_rfl) (by omega) SWd_pk ro_wd
theorem a_wds {av : AV} (h : ACell (SSlice AV.agg SWd) av) : ∃ ws : List Wd, (∀ w ∈ ws, w.ok) ∧ av = .sl (ws.map fun w => .agg (wdC w)) .any := by
  obtain ⟨l, h1, h2, h3⟩ := h
  have : ∃ ws : List Wd, (∀ w ∈ ws, w.ok) ∧ l.map AV.agg = ws.map fun w => .agg (wdC w) := by
    clear h2 h3
    induction l with
    | nil => exact ⟨[], by simp, rfl⟩
    | cons e l ih =>
      obtain ⟨ws, m1, m2⟩ := ih fun e he => h1 e (by simp [he])
      obtain ⟨w, hw, rfl⟩ := SWd_wd (h1 e (by simp))
      refine ⟨w :: ws, ?_, by simp [m2]⟩
      intro x hx
      rcases List.mem_cons.1 hx with rfl | hx
      · exact hw
      · exact m1 x hx
  obtain ⟨ws, m1, m2⟩ := this
  exact ⟨ws, m1, by rw [← m2]; exact (List.cons.inj h3).1⟩
end Go.Proofs.Ytapjikladjoicaa
namespace Go.Proofs.Ytapjikladjoicaa.lightFollows
open Go Go.Av

theorem own : ownKnob Try.prog.godebug = none := by kernel_rfl
theorem laid : laidOutB Try.prog = true := by kernel_rfl
theorem reads : ∀ t ∈ Try.f4.params.toList, Try.prog.readableRec t = true ∧ t < Try.prog.types.size := by
  rw [Try.params4]
  intro t ht
  simp only [List.mem_cons, List.not_mem_nil, or_false] at ht
  rcases ht with rfl | rfl | rfl <;> exact ⟨by kernel_rfl, by decide +kernel⟩
abbrev As : List (AV → Prop) := [ACell (SSlice AV.agg SDig), ACell SByte, ACell (SSlice AV.agg SWd)]
theorem ras : RAs Try.prog Try.f4.params.toList As := by
  rw [Try.params4]
  exact ⟨RA.cell (by kernel_rfl) ro_digs, RA.cell (by kernel_rfl) ro_byte, RA.cell (by kernel_rfl) ro_wds, trivial⟩
theorem spec {H : Type} (ds : List (DataW H)) (h : ds.length = Try.f4.params.toList.length) : Rows.lightFollowsSpec.fn H ds = { results := [.lit (.bool true)], args := ds, vars := [] } := by
  rw [Try.params4] at h
  match ds, h with
  | [_, _, _], _ => rfl
theorem ac (avs : List AV) (h : InAll As avs) : AC Try.prog 4 avs Hp.emp fun r _ => r = .v (.bool true) := by
  obtain ⟨a0, _, rfl, h0, a1, _, rfl, h1, a2, _, rfl, h2, rfl⟩ := h
  obtain ⟨l, l1, l2, rfl⟩ := SDigs_dgs h0
  obtain ⟨b, rfl⟩ := a_byte h1
  obtain ⟨ws, w1, rfl⟩ := a_wds h2
  exact Follows_spec l .any b ws .any l1 w1 Hp.emp

theorem lifted (os : Os) (started : os.Started) (H : Type) (enc : TypeId × Value → H) :
    ReturnsInHanded {} Try.checked os 4 .any (Rows.lightFollowsSpec.pre6 enc Try.prog Try.f4 [] false) (Rows.lightFollowsSpec.post enc Try.prog Try.f4 false true false false) := by
  refine returnsInHanded_of_change (C := Try.checked) (s := Rows.lightFollowsSpec) own started (by kernel_rfl) Try.func4
    (ChangeSpec.witness6 (enc := enc) (C := Try.checked) (s := Rows.lightFollowsSpec) false ⟨#[], #[.slice none 0 0, .int .u8 0, .slice none 0 0], []⟩ 8 (by kernel_rfl) (by kernel_rfl) (by kernel_rfl) (by kernel_rfl) (by kernel_rfl)) ?_
  intro W base args ds gs before hval hW _ _
  exact law_contract (tb := 4) laid reads rfl (by kernel_rfl) (by kernel_rfl) ras spec ac W base args ds gs before hval hW

theorem proved : Rows.LightFollowsSaid :=
  OpenClaim.holds_of_wide 4 Try.f4 rfl rfl rfl rfl rfl rfl rfl ⟨rfl, rfl, rfl, rfl, rfl⟩ rfl rfl rfl rfl rfl (by kernel_rfl) Try.func4 (by kernel_rfl)
    (of_decide_eq_true (by kernel_rfl)) (by unfold Func.isWrapper; first | (rw [if_pos (by decide +kernel)]; kernel_rfl) | (rw [if_neg (by decide +kernel)]; exact ⟨rfl, rfl⟩))
    (fun os started H enc _ => lifted os started H enc)
end Go.Proofs.Ytapjikladjoicaa.lightFollows
