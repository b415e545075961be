/-
  No cell of these rows narrows 'for every input' (looked for: loops, veiled, ifaces, maps, wideKeys, modest, calm, conditions, laid).
  DERIVED. THE GIVEN ROWS OF THIS SEAT. 3 by the template 'for every input the law returns true; each argument reads behind the call as it read before'; 0 by the template 'total and deterministic' (their statements: YtkafjfkjahgihaaGreatTotals.lean).
  GIVEN WITH THE SEED: the statements are not yours to turn. If you find one false, say at which input.
  Laid BY PROGRAM, IN A SANDBOX (cutbox-rows.mjs): the forced cells as the released guide's own fill.sh prints them over the translation e80c15eb6d90a299… (all of the seat's roots in one cut). By AI agents, Wed Nov 11 2026. No macro, syntax, notation, axiom, sorry.
-/
import Derived.Test.YtkafjfkjahgihaaGreatChecked
import GoSem.Claim
import GoSem.ClaimJoined
import GoSem.ClaimMapViews
import Derived.JoinedTies
import Derived.KernelRfl
namespace Go.Proofs.YtkafjfkjahgihaaGreat
/- THE CELL 'sum', in the pinned program and in every row, IS THE sha256 OF THE DUMP (.gsa) THAT YtkafjfkjahgihaaGreatProg.lean LOADS. Nothing in Lean hashes anything: it is a label: what it is worth is what the hold of that sum in a sandbox is worth. -/
noncomputable def Tryz.pinned : Pinned := { name := "ytkafjfkjahgihaagreat", sum := "e80c15eb6d90a2991921719bebcb05a99f9eee7fbb936b1ef3731d906f68b590", checked := Tryz.checked }
namespace Rows
def none {H : Type} : Left H := { results := [], args := [] }

/-- 'indenturelaw32.SyncBegins': WHATEVER THE INPUT: true; the input reads as it did. -/
def syncBeginsSpec : ChangeSpec := { name := "syncBegins", fn := fun _ => fun
  | [d1, d2, d3, d4, d5] => { results := [.lit (.bool true)], args := [d1, d2, d3, d4, d5] }
  | _ => none }
def syncBeginsRow : OpenClaim := { program := "ytkafjfkjahgihaagreat", sum := "e80c15eb6d90a2991921719bebcb05a99f9eee7fbb936b1ef3731d906f68b590", func := "indenture/indenturelaw32.SyncBegins", spec := "syncBegins", inPlace := ["slices.overlaps[indenture/api.Table]", "math/bits.Add64", "slices.overlaps[indenture/api.Row]", "slices.overlaps[indenture/api.Kid]"], unfollowed := true, recurses := true, plainKeys := false, apart := false }
def SyncBeginsSaid : Prop := syncBeginsRow.holds Tryz.pinned (OpenSpec.ofChange syncBeginsSpec)

/-- ITS FALSE NEIGHBOUR: 'it returns false'. Refute it at one input. -/
def syncBeginsWrong : ChangeSpec := { name := "syncBegins", fn := fun _ => fun
  | [d1, d2, d3, d4, d5] => { results := [.lit (.bool false)], args := [d1, d2, d3, d4, d5] }
  | _ => none }
def SyncBeginsWrongFalsely : Prop := syncBeginsRow.holds Tryz.pinned (OpenSpec.ofChange syncBeginsWrong)

/-- 'indenturelaw32.SyncStops': WHATEVER THE INPUT: true; the input reads as it did. -/
def syncStopsSpec : ChangeSpec := { name := "syncStops", fn := fun _ => fun
  | [d1, d2] => { results := [.lit (.bool true)], args := [d1, d2] }
  | _ => none }
def syncStopsRow : OpenClaim := { program := "ytkafjfkjahgihaagreat", sum := "e80c15eb6d90a2991921719bebcb05a99f9eee7fbb936b1ef3731d906f68b590", func := "indenture/indenturelaw32.SyncStops", spec := "syncStops", inPlace := ["slices.overlaps[indenture/api.Table]", "math/bits.Add64", "slices.overlaps[indenture/api.Row]", "slices.overlaps[indenture/api.Kid]"], unfollowed := true, recurses := true, plainKeys := false, apart := false }
def SyncStopsSaid : Prop := syncStopsRow.holds Tryz.pinned (OpenSpec.ofChange syncStopsSpec)

/-- ITS FALSE NEIGHBOUR: 'it returns false'. Refute it at one input. -/
def syncStopsWrong : ChangeSpec := { name := "syncStops", fn := fun _ => fun
  | [d1, d2] => { results := [.lit (.bool false)], args := [d1, d2] }
  | _ => none }
def SyncStopsWrongFalsely : Prop := syncStopsRow.holds Tryz.pinned (OpenSpec.ofChange syncStopsWrong)

/-- 'indenturelaw31.SweepOnly': WHATEVER THE INPUT: true; the input reads as it did. -/
def sweepOnlySpec : ChangeSpec := { name := "sweepOnly", fn := fun _ => fun
  | [d1, d2, d3, d4] => { results := [.lit (.bool true)], args := [d1, d2, d3, d4] }
  | _ => none }
def sweepOnlyRow : OpenClaim := { program := "ytkafjfkjahgihaagreat", sum := "e80c15eb6d90a2991921719bebcb05a99f9eee7fbb936b1ef3731d906f68b590", func := "indenture/indenturelaw31.SweepOnly", spec := "sweepOnly", inPlace := ["slices.overlaps[indenture/api.Table]", "math/bits.Add64", "slices.overlaps[indenture/api.Row]", "slices.overlaps[indenture/api.Kid]"], unfollowed := true, recurses := true, plainKeys := false, apart := false }
def SweepOnlySaid : Prop := sweepOnlyRow.holds Tryz.pinned (OpenSpec.ofChange sweepOnlySpec)

/-- ITS FALSE NEIGHBOUR: 'it returns false'. Refute it at one input. -/
def sweepOnlyWrong : ChangeSpec := { name := "sweepOnly", fn := fun _ => fun
  | [d1, d2, d3, d4] => { results := [.lit (.bool false)], args := [d1, d2, d3, d4] }
  | _ => none }
def SweepOnlyWrongFalsely : Prop := sweepOnlyRow.holds Tryz.pinned (OpenSpec.ofChange sweepOnlyWrong)

/- THE SECOND FORM. 'bulk': how many values and letters a reading holds, each counted each time it is reached (what is shared counts as often as it is met; a slice's spare places count too). A statement '..UptoSaid' is the law's where the arguments, and the package variables that the reading takes, are together of bulk at most 1048576: NARROWER than '..Said'. Prove '..Said' where nothing that the law and all that it calls make is longer than what came in: it says more and counts as full. Else prove '..UptoSaid'. A law counts once. -/
mutual
def uptoBulk {H : Type} : DataW H → Nat
  | .lit (.string bytes) => bytes.length + 1
  | .lit _ => 1
  | .nil => 1
  | .ptr d => uptoBulk d + 1
  | .slice elems spare => uptoBulkAll elems + uptoBulkAll spare + 1
  | .agg parts => uptoBulkAll parts + 1
  | .iface _ d => uptoBulk d + 1
  | .map entries => uptoBulkEntries entries + 1
  | .held _ => 1
def uptoBulkAll {H : Type} : List (DataW H) → Nat
  | [] => 0
  | d :: r => uptoBulk d + uptoBulkAll r
def uptoBulkEntries {H : Type} : List (Lit × DataW H) → Nat
  | [] => 0
  | x :: r => uptoBulkEntry x + uptoBulkEntries r
def uptoBulkEntry {H : Type} : Lit × DataW H → Nat
  | (.string bytes, d) => bytes.length + uptoBulk d + 1
  | (_, d) => uptoBulk d + 1
 end
def uptoSmall : (H : Type) → List (DataW H) → Bool := fun _ ds => decide (uptoBulkAll ds ≤ 1048576)
def OpenSpec.upto (s : _root_.Go.ChangeSpec) : _root_.Go.OpenSpec := { _root_.Go.OpenSpec.ofChange s with cond := some uptoSmall }

/-- 'indenturelaw32.SyncBegins', WHERE WHAT IT READS IS OF BULK AT MOST 1048576: true; the input reads as it did. -/
def syncBeginsUptoRow : OpenClaim := { program := "ytkafjfkjahgihaagreat", sum := "e80c15eb6d90a2991921719bebcb05a99f9eee7fbb936b1ef3731d906f68b590", func := "indenture/indenturelaw32.SyncBegins", spec := "syncBegins", inPlace := ["slices.overlaps[indenture/api.Table]", "math/bits.Add64", "slices.overlaps[indenture/api.Row]", "slices.overlaps[indenture/api.Kid]"], unfollowed := true, recurses := true, plainKeys := false, apart := false, narrowed := true }
def SyncBeginsUptoSaid : Prop := syncBeginsUptoRow.holds Tryz.pinned (OpenSpec.upto syncBeginsSpec)

/-- 'indenturelaw32.SyncStops', WHERE WHAT IT READS IS OF BULK AT MOST 1048576: true; the input reads as it did. -/
def syncStopsUptoRow : OpenClaim := { program := "ytkafjfkjahgihaagreat", sum := "e80c15eb6d90a2991921719bebcb05a99f9eee7fbb936b1ef3731d906f68b590", func := "indenture/indenturelaw32.SyncStops", spec := "syncStops", inPlace := ["slices.overlaps[indenture/api.Table]", "math/bits.Add64", "slices.overlaps[indenture/api.Row]", "slices.overlaps[indenture/api.Kid]"], unfollowed := true, recurses := true, plainKeys := false, apart := false, narrowed := true }
def SyncStopsUptoSaid : Prop := syncStopsUptoRow.holds Tryz.pinned (OpenSpec.upto syncStopsSpec)

/-- 'indenturelaw31.SweepOnly', WHERE WHAT IT READS IS OF BULK AT MOST 1048576: true; the input reads as it did. -/
def sweepOnlyUptoRow : OpenClaim := { program := "ytkafjfkjahgihaagreat", sum := "e80c15eb6d90a2991921719bebcb05a99f9eee7fbb936b1ef3731d906f68b590", func := "indenture/indenturelaw31.SweepOnly", spec := "sweepOnly", inPlace := ["slices.overlaps[indenture/api.Table]", "math/bits.Add64", "slices.overlaps[indenture/api.Row]", "slices.overlaps[indenture/api.Kid]"], unfollowed := true, recurses := true, plainKeys := false, apart := false, narrowed := true }
def SweepOnlyUptoSaid : Prop := sweepOnlyUptoRow.holds Tryz.pinned (OpenSpec.upto sweepOnlySpec)

end Rows
end Go.Proofs.YtkafjfkjahgihaaGreat
