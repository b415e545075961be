/-
  Proved: for every input the Go function indenturelaw23.LexBlanks returns true, and each argument reads behind the call as it read before.
  Conditions: none beyond those of the given row (what it lists of package-level variables).
-/
import Derived.Test.YtpbicmjkjihhnaaDoorCards
import Derived.Test.YtpbicmjkjihhnaaDoorTie
import Derived.Test.YtpbicmjkjihhnaaDoorME
import Derived.Test.YtpbicmjkjihhnaaDoorMF
set_option linter.all false
set_option maxRecDepth 100000
namespace Go.Proofs.YtpbicmjkjihhnaaDoor.lexBlanks
open Go Go.Av Go.ChangeShapes Go.WideShapes Go.ChangeAt Go.RowKit

/-- a byte in its own place -/
def pk1 (us : List AV) : AV := us.headD (.tup [])
theorem SByte_pk : Pk pk1 SByte 1 := ⟨by rintro us ⟨b, rfl⟩; rfl, by rintro us ⟨b, rfl⟩; rfl⟩
theorem ro_bytes : RO Tryd.prog 30 (SSlice pk1 SByte) := RO.slice (k := 1) (by kernel_rfl : Tryd.prog.underlying 30 = some (.slice 5)) (by kernel_rfl) (by omega) SByte_pk ro_byte
theorem a_bytes {av : AV} (h : ACell (SSlice pk1 SByte) av) : ∃ bs : List UInt8, bs.length ≤ maxLen ∧ av = .sl (bs.map byteAV) .any := by
  obtain ⟨l, h1, h2, h3⟩ := h
  have : ∃ m : List UInt8, m.length = l.length ∧ l.map pk1 = m.map byteAV := by
    clear h2 h3
    induction l with
    | nil => exact ⟨[], rfl, rfl⟩
    | cons e l ih =>
      obtain ⟨m, m1, m2⟩ := ih fun e he => h1 e (by simp [he])
      obtain ⟨b, rfl⟩ := h1 e (by simp)
      exact ⟨b :: m, by simp [m1], by simp [m2, pk1]⟩
  obtain ⟨m, m1, m2⟩ := this
  exact ⟨m, by omega, by rw [← m2]; exact (List.cons.inj h3).1⟩
theorem reads : ∀ t ∈ Tryd.f4.params.toList, Tryd.prog.readableRec t = true ∧ t < Tryd.prog.types.size := by
  rw [Tryd.params4]
  intro t ht
  simp only [List.mem_cons, List.not_mem_nil, or_false] at ht
  rcases ht with rfl | rfl | rfl | rfl <;> exact ⟨by kernel_rfl, by decide +kernel⟩
abbrev As : List (AV → Prop) := [ACell SStr, ACell SStr, ACell (SSlice pk1 SByte), ACell SBool]
theorem ras : RAs Tryd.prog Tryd.f4.params.toList As := by
  rw [Tryd.params4]
  exact ⟨RA.cell (by kernel_rfl) ro_str, RA.cell (by kernel_rfl) ro_str, RA.cell (by kernel_rfl) ro_bytes, RA.cell (by kernel_rfl) ro_bool, trivial⟩
theorem spec {H : Type} (ds : List (DataW H)) (h : ds.length = Tryd.f4.params.toList.length) : Rows.lexBlanksSpec.fn H ds = { results := [.lit (.bool true)], args := ds, vars := [] } := by
  rw [Tryd.params4] at h
  match ds, h with
  | [_, _, _, _], _ => rfl
theorem ac (s0 : Hp) (hT : Tabs s0) (avs : List AV) (h : InAll As avs) : AC Tryd.prog 4 avs s0 fun r _ => r = .v (.bool true) := by
  obtain ⟨a0, _, rfl, ⟨bs, _, h1⟩, a1, _, rfl, ⟨cs, _, h2⟩, a2, _, rfl, h3, a3, _, rfl, ⟨b, h4⟩, rfl⟩ := h
  cases h1; cases h2; cases h4
  obtain ⟨g, _, rfl⟩ := a_bytes h3
  exact (LexBlanks_spec bs cs g .any b s0 hT).mono fun r s' h => h.2

def args0 : Array Value := #[.string ⟨#[]⟩, .string ⟨#[]⟩, .slice none 0 0, .bool false]
theorem readsAt (os : Os) {H : Type} (enc : TypeId × Value → H) : ∃ places, DataW.whole enc Tryd.prog (wW os args0) Tryd.f4.params.toList Rows.lexBlanksSpec.vars false args0.toList 8 = some ([.lit (.string []), .lit (.string []), .nil, .lit (.bool false)], [], places) :=
  ⟨[], by kernel_rfl⟩

theorem lifted (os : Os) (started : os.Started) (H : Type) (enc : TypeId × Value → H) (F : Stop.Interp) :
    ReturnsInHanded {} Tryd.checked os 4 .any ((OpenSpec.ofChange Rows.lexBlanksSpec).preRow enc Tryd.prog Tryd.f4 Rows.lexBlanksRow.domain false Rows.lexBlanksRow.laid) (((OpenSpec.ofChange Rows.lexBlanksSpec).at F).post enc Tryd.prog Tryd.f4 false true false false) := by
  obtain ⟨places, hx⟩ := readsAt os enc
  refine returnsInHanded_of_row (C := Tryd.checked) (s := OpenSpec.ofChange Rows.lexBlanksSpec) own started (by kernel_rfl) Tryd.func4
    (witness_row_atRef (enc := enc) (C := Tryd.checked) false (laidWorld os) args0 rfl (by kernel_rfl) (by kernel_rfl) (by kernel_rfl)
      (OpenSpec.preRow_of_cond 8 hx (by kernel_rfl) (fun k hk => by cases hk) (by kernel_rfl) (laid_met os args0))) ?_
  intro W base args ds gs before hval hW _ _ _ hL _ _
  obtain ⟨s0, h1, h2, h3⟩ := tabs_laid hL
  exact law_contract_at (tb := 4) laidOut reads rfl (by kernel_rfl) (by kernel_rfl) ras spec s0 W h1 h2 (ac s0 h3) base args ds gs before hval hW

theorem said : Rows.LexBlanksSaid :=
  OpenClaim.holds_of_cond 4 Tryd.f4 rfl rfl rfl rfl rfl rfl rfl ⟨rfl, rfl, rfl, rfl, rfl⟩ rfl rfl rfl rfl rfl (by kernel_rfl) Tryd.func4 (by kernel_rfl)
    (of_decide_eq_true (by kernel_rfl)) (by unfold Func.isWrapper; first | (rw [if_pos (by decide +kernel)]; kernel_rfl) | (rw [if_neg (by decide +kernel)]; exact ⟨rfl, rfl⟩))
    (fun os started H enc _ F => by rw [OpenClaim.pre_eq_preRow]; exact lifted os started H enc F)

theorem plain (f : FuncId) (fn : Func) (hf : Tryd.pinned.checked.prog.funcNamed "indenture/indenturelaw23.LexBlanks" = some f) (hfn : Tryd.pinned.checked.prog.funcs[f]? = some fn) :
    true = Tryd.pinned.checked.prog.looks [] ∧ ∀ (j : Nat) t, fn.params[j]? = some t → Tryd.pinned.checked.prog.wantsStandIn t = false := by
  obtain rfl : f = 4 := Option.some.inj ((show Tryd.prog.funcNamed "indenture/indenturelaw23.LexBlanks" = some 4 by kernel_rfl).symm.trans hf) |>.symm
  obtain rfl : fn = Tryd.f4 := (Option.some.inj (Tryd.func4.symm.trans hfn)).symm
  refine ⟨by kernel_rfl, fun j t ht => ?_⟩
  rw [Tryd.params4] at ht
  have hm := Array.mem_of_getElem? ht
  simp only [List.mem_toArray, List.mem_cons, List.not_mem_nil, or_false] at hm
  rcases hm with rfl | rfl | rfl | rfl
  · exact (show Tryd.prog.wantsStandIn 9 = false by kernel_rfl)
  · exact (show Tryd.prog.wantsStandIn 9 = false by kernel_rfl)
  · exact (show Tryd.prog.wantsStandIn 30 = false by kernel_rfl)
  · exact (show Tryd.prog.wantsStandIn 4 = false by kernel_rfl)

theorem card : Rows.LexBlanksCardSaid :=
  Claim7.holds_tied_plain_at .later [] _ _ _ _ said (fun _ h => by cases h) (by kernel_rfl) (fun _ h => by cases h) lexBlanks_row_tie rfl ⟨rfl, rfl⟩ (by kernel_rfl) rfl plain (by kernel_rfl)
end Go.Proofs.YtpbicmjkjihhnaaDoor.lexBlanks
