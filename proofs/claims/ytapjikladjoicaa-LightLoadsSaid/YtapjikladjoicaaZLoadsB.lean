/-
  Proved: for every input the Go function indenturelaw34.LightLoads returns true, and each argument reads behind the call as it read before.
  Conditions: none beyond those of the given row.
-/
import Derived.Test.YtapjikladjoicaaRows
import Derived.Test.YtapjikladjoicaaMF
import Derived.JoinedOf
set_option linter.all false
set_option maxRecDepth 100000
namespace Go.Proofs.Ytapjikladjoicaa
open Go Go.Av
/-- a byte in its own place -/
def pk1 (us : List AV) : AV := us.headD (.tup [])
theorem SByte_pk : Pk pk1 SByte 1 := ⟨by rintro us ⟨b, rfl⟩; rfl, by rintro us ⟨b, rfl⟩; rfl⟩
theorem ro_bool : RO Try.prog 4 SBool := RO.bool (by kernel_rfl)
theorem ro_bytes : RO Try.prog 54 (SSlice pk1 SByte) := RO.slice (k := 1) (by kernel_rfl : Try.prog.underlying 54 = some (.slice 5)) (by kernel_rfl) (by omega) SByte_pk ro_byte
theorem a_bytes {av : AV} (h : ACell (SSlice pk1 SByte) av) : ∃ bs : List UInt8, bs.length ≤ maxLen ∧ av = .sl (bs.map byteAV) .any := by
  obtain ⟨l, h1, h2, h3⟩ := h
  have : ∃ m : List UInt8, m.length = l.length ∧ l.map pk1 = m.map byteAV := by
    clear h2 h3
    induction l with
    | nil => exact ⟨[], rfl, rfl⟩
    | cons e l ih =>
      obtain ⟨m, m1, m2⟩ := ih fun e he => h1 e (by simp [he])
      obtain ⟨b, rfl⟩ := h1 e (by simp)
      exact ⟨b :: m, by simp [m1], by simp [m2, pk1]⟩
  obtain ⟨m, m1, m2⟩ := this
  exact ⟨m, by omega, by rw [← m2]; exact (List.cons.inj h3).1⟩
theorem a_int {av : AV} (h : ACell (SInt .i64) av) : ∃ n : Int, (Lit.int .i64 n).wf = true ∧ av = .v (.int .i64 n) := by
  obtain ⟨n, hn, h⟩ := h
  exact ⟨n, hn, (List.cons.inj h).1⟩
abbrev SRFw : List AV → Prop := SParts [SOpn, SInt .i64, SBool, SOpn, SOpn]
theorem ro_rfw : RO Try.prog 48 SRFw := RO.struct (Ss := [SOpn, SInt .i64, SBool, SOpn, SOpn]) Try.underlying48 (by
  refine ⟨by kernel_rfl, ro_opn, by kernel_rfl, ro_int, by kernel_rfl, ro_bool, by kernel_rfl, ro_opn, by kernel_rfl, ro_opn, (by show _ = _; kernel_rfl)⟩)
theorem a_rfw {av : AV} (h : AAgg SRFw av) : ∃ F : RFw, F.ok ∧ av = .agg (rfC F) := by
  obtain ⟨us, ⟨a, x1, ha, ⟨b, x2, ⟨st, _, rfl⟩, ⟨c, x3, ⟨fk, rfl⟩, ⟨d, x4, hd, ⟨e, x5, he, h5, rfl⟩, rfl⟩, rfl⟩, rfl⟩, rfl⟩, rfl⟩ := h
  cases h5
  obtain ⟨o, ho, rfl⟩ := SOpn_op ha
  obtain ⟨p, hp, rfl⟩ := SOpn_op hd
  obtain ⟨q, hq, rfl⟩ := SOpn_op he
  exact ⟨⟨o, st, fk, p, q⟩, ⟨ho, hp, hq⟩, by simp [rfC]⟩
end Go.Proofs.Ytapjikladjoicaa
namespace Go.Proofs.Ytapjikladjoicaa.lightLoads
open Go Go.Av

theorem own : ownKnob Try.prog.godebug = none := by kernel_rfl
theorem laid : laidOutB Try.prog = true := by kernel_rfl
theorem reads : ∀ t ∈ Try.f5.params.toList, Try.prog.readableRec t = true ∧ t < Try.prog.types.size := by
  rw [Try.params5]
  intro t ht
  simp only [List.mem_cons, List.not_mem_nil, or_false] at ht
  rcases ht with rfl | rfl | rfl | rfl | rfl <;> exact ⟨by kernel_rfl, by decide +kernel⟩
abbrev As : List (AV → Prop) := [AAgg SRFw, ACell (SInt .i64), ACell SByte, ACell (SInt .i64), ACell (SSlice pk1 SByte)]
theorem ras : RAs Try.prog Try.f5.params.toList As := by
  rw [Try.params5]
  exact ⟨RA.agg (by kernel_rfl) ro_rfw, RA.cell (by kernel_rfl) ro_int, RA.cell (by kernel_rfl) ro_byte, RA.cell (by kernel_rfl) ro_int, RA.cell (by kernel_rfl) ro_bytes, trivial⟩
theorem spec {H : Type} (ds : List (DataW H)) (h : ds.length = Try.f5.params.toList.length) : Rows.lightLoadsSpec.fn H ds = { results := [.lit (.bool true)], args := ds, vars := [] } := by
  rw [Try.params5] at h
  match ds, h with
  | [_, _, _, _, _], _ => rfl
theorem ac (avs : List AV) (h : InAll As avs) : AC Try.prog 5 avs Hp.emp fun r _ => r = .v (.bool true) := by
  obtain ⟨a0, _, rfl, h0, a1, _, rfl, h1, a2, _, rfl, h2, a3, _, rfl, h3, a4, _, rfl, h4, rfl⟩ := h
  obtain ⟨F, hF, rfl⟩ := a_rfw h0
  obtain ⟨p, _, rfl⟩ := a_int h1
  obtain ⟨b, rfl⟩ := a_byte h2
  obtain ⟨c, _, rfl⟩ := a_int h3
  obtain ⟨m, _, rfl⟩ := a_bytes h4
  exact Loads_spec F hF p c b m .any Hp.emp

theorem lifted (os : Os) (started : os.Started) (H : Type) (enc : TypeId × Value → H) :
    ReturnsInHanded {} Try.checked os 5 .any (Rows.lightLoadsSpec.pre6 enc Try.prog Try.f5 [] false) (Rows.lightLoadsSpec.post enc Try.prog Try.f5 false true false false) := by
  refine returnsInHanded_of_change (C := Try.checked) (s := Rows.lightLoadsSpec) own started (by kernel_rfl) Try.func5
    (ChangeSpec.witness6 (enc := enc) (C := Try.checked) (s := Rows.lightLoadsSpec) false ⟨#[], #[.agg (#[.int .i64 0] ++ Array.replicate 64 (.int .u8 0) ++ #[.int .i64 0, .bool false, .int .i64 0] ++ Array.replicate 64 (.int .u8 0) ++ #[.int .i64 0] ++ Array.replicate 64 (.int .u8 0)), .int .i64 0, .int .u8 0, .int .i64 0, .slice none 0 0], []⟩ 8 (by kernel_rfl) (by kernel_rfl) (by kernel_rfl) (by kernel_rfl) (by kernel_rfl)) ?_
  intro W base args ds gs before hval hW _ _
  exact law_contract (tb := 4) laid reads rfl (by kernel_rfl) (by kernel_rfl) ras spec ac W base args ds gs before hval hW

theorem proved : Rows.LightLoadsSaid :=
  OpenClaim.holds_of_wide 5 Try.f5 rfl rfl rfl rfl rfl rfl rfl ⟨rfl, rfl, rfl, rfl, rfl⟩ rfl rfl rfl rfl rfl (by kernel_rfl) Try.func5 (by kernel_rfl)
    (of_decide_eq_true (by kernel_rfl)) (by unfold Func.isWrapper; first | (rw [if_pos (by decide +kernel)]; kernel_rfl) | (rw [if_neg (by decide +kernel)]; exact ⟨rfl, rfl⟩))
    (fun os started H enc _ => lifted os started H enc)
end Go.Proofs.Ytapjikladjoicaa.lightLoads
