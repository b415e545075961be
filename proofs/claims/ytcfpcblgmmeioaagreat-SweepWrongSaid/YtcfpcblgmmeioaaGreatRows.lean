/-
  No cell of these rows narrows 'for every input' (looked for: loops, veiled, ifaces, maps, wideKeys, modest, calm, conditions, laid).
  DERIVED. THE GIVEN ROWS OF THIS SEAT. 3 by the template 'for every input the law returns true; each argument reads behind the call as it read before'; 0 by the template 'total and deterministic' (their statements: YtcfpcblgmmeioaaGreatTotals.lean).
  GIVEN WITH THE SEED: the statements are not yours to turn. If you find one false, say at which input.
  Laid BY PROGRAM, IN A SANDBOX (cutbox-rows.mjs): the forced cells as the released guide's own fill.sh prints them over the translation d6bf24aef6ef49c8… (all of the seat's roots in one cut). By AI agents, Wed Nov 11 2026. No macro, syntax, notation, axiom, sorry.
-/
import Derived.Test.YtcfpcblgmmeioaaGreatChecked
import GoSem.Claim
import GoSem.ClaimJoined
import GoSem.ClaimMapViews
import Derived.JoinedTies
import Derived.KernelRfl
namespace Go.Proofs.YtcfpcblgmmeioaaGreat
/- THE CELL 'sum', in the pinned program and in every row, IS THE sha256 OF THE DUMP (.gsa) THAT YtcfpcblgmmeioaaGreatProg.lean LOADS. Nothing in Lean hashes anything: it is a label: what it is worth is what the hold of that sum in a sandbox is worth. -/
noncomputable def Tryz.pinned : Pinned := { name := "ytcfpcblgmmeioaagreat", sum := "d6bf24aef6ef49c8d2cf8e4014881832832af4209831ba9ac6b0b0cd8298f21b", checked := Tryz.checked }
namespace Rows
def none {H : Type} : Left H := { results := [], args := [] }

/-- 'indenturelaw31.SweepPages': WHATEVER THE INPUT: true; the input reads as it did. -/
def sweepPagesSpec : ChangeSpec := { name := "sweepPages", fn := fun _ => fun
  | [d] => { results := [.lit (.bool true)], args := [d] }
  | _ => none }
def sweepPagesRow : OpenClaim := { program := "ytcfpcblgmmeioaagreat", sum := "d6bf24aef6ef49c8d2cf8e4014881832832af4209831ba9ac6b0b0cd8298f21b", func := "indenture/indenturelaw31.SweepPages", spec := "sweepPages", inPlace := ["slices.overlaps[indenture/api.Table]", "math/bits.Add64", "slices.overlaps[indenture/api.Row]", "slices.overlaps[indenture/api.Kid]"], unfollowed := true, recurses := true, plainKeys := false, apart := false }
def SweepPagesSaid : Prop := sweepPagesRow.holds Tryz.pinned (OpenSpec.ofChange sweepPagesSpec)

/-- ITS FALSE NEIGHBOUR: 'it returns false'. Refute it at one input. -/
def sweepPagesWrong : ChangeSpec := { name := "sweepPages", fn := fun _ => fun
  | [d] => { results := [.lit (.bool false)], args := [d] }
  | _ => none }
def SweepPagesWrongFalsely : Prop := sweepPagesRow.holds Tryz.pinned (OpenSpec.ofChange sweepPagesWrong)

/-- 'indenturelaw31.SweepLacks': WHATEVER THE INPUT: true; the input reads as it did. -/
def sweepLacksSpec : ChangeSpec := { name := "sweepLacks", fn := fun _ => fun
  | [d1, d2] => { results := [.lit (.bool true)], args := [d1, d2] }
  | _ => none }
def sweepLacksRow : OpenClaim := { program := "ytcfpcblgmmeioaagreat", sum := "d6bf24aef6ef49c8d2cf8e4014881832832af4209831ba9ac6b0b0cd8298f21b", func := "indenture/indenturelaw31.SweepLacks", spec := "sweepLacks", inPlace := ["slices.overlaps[indenture/api.Table]", "math/bits.Add64", "slices.overlaps[indenture/api.Row]", "slices.overlaps[indenture/api.Kid]"], unfollowed := true, recurses := true, plainKeys := false, apart := false }
def SweepLacksSaid : Prop := sweepLacksRow.holds Tryz.pinned (OpenSpec.ofChange sweepLacksSpec)

/-- ITS FALSE NEIGHBOUR: 'it returns false'. Refute it at one input. -/
def sweepLacksWrong : ChangeSpec := { name := "sweepLacks", fn := fun _ => fun
  | [d1, d2] => { results := [.lit (.bool false)], args := [d1, d2] }
  | _ => none }
def SweepLacksWrongFalsely : Prop := sweepLacksRow.holds Tryz.pinned (OpenSpec.ofChange sweepLacksWrong)

/-- 'indenturelaw31.SweepWrong': WHATEVER THE INPUT: true; the input reads as it did. -/
def sweepWrongSpec : ChangeSpec := { name := "sweepWrong", fn := fun _ => fun
  | [d1, d2, d3] => { results := [.lit (.bool true)], args := [d1, d2, d3] }
  | _ => none }
def sweepWrongRow : OpenClaim := { program := "ytcfpcblgmmeioaagreat", sum := "d6bf24aef6ef49c8d2cf8e4014881832832af4209831ba9ac6b0b0cd8298f21b", func := "indenture/indenturelaw31.SweepWrong", spec := "sweepWrong", inPlace := ["slices.overlaps[indenture/api.Table]", "math/bits.Add64", "slices.overlaps[indenture/api.Row]", "slices.overlaps[indenture/api.Kid]"], unfollowed := true, recurses := true, plainKeys := false, apart := false }
def SweepWrongSaid : Prop := sweepWrongRow.holds Tryz.pinned (OpenSpec.ofChange sweepWrongSpec)

/-- ITS FALSE NEIGHBOUR: 'it returns false'. Refute it at one input. -/
def sweepWrongWrong : ChangeSpec := { name := "sweepWrong", fn := fun _ => fun
  | [d1, d2, d3] => { results := [.lit (.bool false)], args := [d1, d2, d3] }
  | _ => none }
def SweepWrongWrongFalsely : Prop := sweepWrongRow.holds Tryz.pinned (OpenSpec.ofChange sweepWrongWrong)

/- THE SECOND FORM. 'bulk': how many values and letters a reading holds, each counted each time it is reached (what is shared counts as often as it is met; a slice's spare places count too). A statement '..UptoSaid' is the law's where the arguments, and the package variables that the reading takes, are together of bulk at most 1048576: NARROWER than '..Said'. Prove '..Said' where nothing that the law and all that it calls make is longer than what came in: it says more and counts as full. Else prove '..UptoSaid'. A law counts once. -/
mutual
def uptoBulk {H : Type} : DataW H → Nat
  | .lit (.string bytes) => bytes.length + 1
  | .lit _ => 1
  | .nil => 1
  | .ptr d => uptoBulk d + 1
  | .slice elems spare => uptoBulkAll elems + uptoBulkAll spare + 1
  | .agg parts => uptoBulkAll parts + 1
  | .iface _ d => uptoBulk d + 1
  | .map entries => uptoBulkEntries entries + 1
  | .held _ => 1
def uptoBulkAll {H : Type} : List (DataW H) → Nat
  | [] => 0
  | d :: r => uptoBulk d + uptoBulkAll r
def uptoBulkEntries {H : Type} : List (Lit × DataW H) → Nat
  | [] => 0
  | x :: r => uptoBulkEntry x + uptoBulkEntries r
def uptoBulkEntry {H : Type} : Lit × DataW H → Nat
  | (.string bytes, d) => bytes.length + uptoBulk d + 1
  | (_, d) => uptoBulk d + 1
 end
def uptoSmall : (H : Type) → List (DataW H) → Bool := fun _ ds => decide (uptoBulkAll ds ≤ 1048576)
def OpenSpec.upto (s : _root_.Go.ChangeSpec) : _root_.Go.OpenSpec := { _root_.Go.OpenSpec.ofChange s with cond := some uptoSmall }

/-- 'indenturelaw31.SweepPages', WHERE WHAT IT READS IS OF BULK AT MOST 1048576: true; the input reads as it did. -/
def sweepPagesUptoRow : OpenClaim := { program := "ytcfpcblgmmeioaagreat", sum := "d6bf24aef6ef49c8d2cf8e4014881832832af4209831ba9ac6b0b0cd8298f21b", func := "indenture/indenturelaw31.SweepPages", spec := "sweepPages", inPlace := ["slices.overlaps[indenture/api.Table]", "math/bits.Add64", "slices.overlaps[indenture/api.Row]", "slices.overlaps[indenture/api.Kid]"], unfollowed := true, recurses := true, plainKeys := false, apart := false, narrowed := true }
def SweepPagesUptoSaid : Prop := sweepPagesUptoRow.holds Tryz.pinned (OpenSpec.upto sweepPagesSpec)

/-- 'indenturelaw31.SweepLacks', WHERE WHAT IT READS IS OF BULK AT MOST 1048576: true; the input reads as it did. -/
def sweepLacksUptoRow : OpenClaim := { program := "ytcfpcblgmmeioaagreat", sum := "d6bf24aef6ef49c8d2cf8e4014881832832af4209831ba9ac6b0b0cd8298f21b", func := "indenture/indenturelaw31.SweepLacks", spec := "sweepLacks", inPlace := ["slices.overlaps[indenture/api.Table]", "math/bits.Add64", "slices.overlaps[indenture/api.Row]", "slices.overlaps[indenture/api.Kid]"], unfollowed := true, recurses := true, plainKeys := false, apart := false, narrowed := true }
def SweepLacksUptoSaid : Prop := sweepLacksUptoRow.holds Tryz.pinned (OpenSpec.upto sweepLacksSpec)

/-- 'indenturelaw31.SweepWrong', WHERE WHAT IT READS IS OF BULK AT MOST 1048576: true; the input reads as it did. -/
def sweepWrongUptoRow : OpenClaim := { program := "ytcfpcblgmmeioaagreat", sum := "d6bf24aef6ef49c8d2cf8e4014881832832af4209831ba9ac6b0b0cd8298f21b", func := "indenture/indenturelaw31.SweepWrong", spec := "sweepWrong", inPlace := ["slices.overlaps[indenture/api.Table]", "math/bits.Add64", "slices.overlaps[indenture/api.Row]", "slices.overlaps[indenture/api.Kid]"], unfollowed := true, recurses := true, plainKeys := false, apart := false, narrowed := true }
def SweepWrongUptoSaid : Prop := sweepWrongUptoRow.holds Tryz.pinned (OpenSpec.upto sweepWrongSpec)

end Rows
end Go.Proofs.YtcfpcblgmmeioaaGreat
