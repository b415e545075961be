/-
  No cell of these rows narrows 'for every input' (looked for: loops, veiled, ifaces, maps, wideKeys, modest, calm, conditions, laid).
  DERIVED. THE GIVEN ROWS OF THIS SEAT. 3 by the template 'for every input the law returns true; each argument reads behind the call as it read before'; 0 by the template 'total and deterministic' (their statements: YtapjikladjoicaaTotals.lean).
  GIVEN WITH THE SEED: the statements are not yours to turn. If you find one false, say at which input.
  Laid BY PROGRAM, IN A SANDBOX (cutbox-rows.mjs): the forced cells as the released guide's own fill.sh prints them over the translation 13103b6d7062e0e4… (all of the seat's roots in one cut). By AI agents, Wed Nov 11 2026. No macro, syntax, notation, axiom, sorry.
-/
import Derived.Test.YtapjikladjoicaaChecked
import GoSem.Claim
import GoSem.ClaimJoined
import GoSem.ClaimMapViews
import Derived.JoinedTies
import Derived.KernelRfl
namespace Go.Proofs.Ytapjikladjoicaa
/- THE CELL 'sum', in the pinned program and in every row, IS THE sha256 OF THE DUMP (.gsa) THAT YtapjikladjoicaaProg.lean LOADS. Nothing in Lean hashes anything: it is a label: what it is worth is what the hold of that sum in a sandbox is worth. -/
noncomputable def Try.pinned : Pinned := { name := "ytapjikladjoicaa", sum := "13103b6d7062e0e4c91aaf4421ba0ae6cc3b46756736e502e5bfd0aca0b5eecd", checked := Try.checked }
namespace Rows
def none {H : Type} : Left H := { results := [], args := [] }

/-- 'indenturelaw34.LightKeeps': WHATEVER THE INPUT: true; the input reads as it did. -/
def lightKeepsSpec : ChangeSpec := { name := "lightKeeps", fn := fun _ => fun
  | [d1, d2, d3, d4, d5, d6, d7] => { results := [.lit (.bool true)], args := [d1, d2, d3, d4, d5, d6, d7] }
  | _ => none }
def lightKeepsRow : OpenClaim := { program := "ytapjikladjoicaa", sum := "13103b6d7062e0e4c91aaf4421ba0ae6cc3b46756736e502e5bfd0aca0b5eecd", func := "indenture/indenturelaw34.LightKeeps", spec := "lightKeeps", recurses := true, apart := false }
def LightKeepsSaid : Prop := lightKeepsRow.holds Try.pinned (OpenSpec.ofChange lightKeepsSpec)

/-- ITS FALSE NEIGHBOUR: 'it returns false'. Refute it at one input. -/
def lightKeepsWrong : ChangeSpec := { name := "lightKeeps", fn := fun _ => fun
  | [d1, d2, d3, d4, d5, d6, d7] => { results := [.lit (.bool false)], args := [d1, d2, d3, d4, d5, d6, d7] }
  | _ => none }
def LightKeepsWrongFalsely : Prop := lightKeepsRow.holds Try.pinned (OpenSpec.ofChange lightKeepsWrong)

/-- 'indenturelaw34.LightFollows': WHATEVER THE INPUT: true; the input reads as it did. -/
def lightFollowsSpec : ChangeSpec := { name := "lightFollows", fn := fun _ => fun
  | [d1, d2, d3] => { results := [.lit (.bool true)], args := [d1, d2, d3] }
  | _ => none }
def lightFollowsRow : OpenClaim := { program := "ytapjikladjoicaa", sum := "13103b6d7062e0e4c91aaf4421ba0ae6cc3b46756736e502e5bfd0aca0b5eecd", func := "indenture/indenturelaw34.LightFollows", spec := "lightFollows", recurses := true, apart := false }
def LightFollowsSaid : Prop := lightFollowsRow.holds Try.pinned (OpenSpec.ofChange lightFollowsSpec)

/-- ITS FALSE NEIGHBOUR: 'it returns false'. Refute it at one input. -/
def lightFollowsWrong : ChangeSpec := { name := "lightFollows", fn := fun _ => fun
  | [d1, d2, d3] => { results := [.lit (.bool false)], args := [d1, d2, d3] }
  | _ => none }
def LightFollowsWrongFalsely : Prop := lightFollowsRow.holds Try.pinned (OpenSpec.ofChange lightFollowsWrong)

/-- 'indenturelaw34.LightLoads': WHATEVER THE INPUT: true; the input reads as it did. -/
def lightLoadsSpec : ChangeSpec := { name := "lightLoads", fn := fun _ => fun
  | [d1, d2, d3, d4, d5] => { results := [.lit (.bool true)], args := [d1, d2, d3, d4, d5] }
  | _ => none }
def lightLoadsRow : OpenClaim := { program := "ytapjikladjoicaa", sum := "13103b6d7062e0e4c91aaf4421ba0ae6cc3b46756736e502e5bfd0aca0b5eecd", func := "indenture/indenturelaw34.LightLoads", spec := "lightLoads", recurses := true, apart := false }
def LightLoadsSaid : Prop := lightLoadsRow.holds Try.pinned (OpenSpec.ofChange lightLoadsSpec)

/-- ITS FALSE NEIGHBOUR: 'it returns false'. Refute it at one input. -/
def lightLoadsWrong : ChangeSpec := { name := "lightLoads", fn := fun _ => fun
  | [d1, d2, d3, d4, d5] => { results := [.lit (.bool false)], args := [d1, d2, d3, d4, d5] }
  | _ => none }
def LightLoadsWrongFalsely : Prop := lightLoadsRow.holds Try.pinned (OpenSpec.ofChange lightLoadsWrong)

/- THE SECOND FORM. 'bulk': how many values and letters a reading holds, each counted each time it is reached (what is shared counts as often as it is met; a slice's spare places count too). A statement '..UptoSaid' is the law's where the arguments, and the package variables that the reading takes, are together of bulk at most 1048576: NARROWER than '..Said'. Prove '..Said' where nothing that the law and all that it calls make is longer than what came in: it says more and counts as full. Else prove '..UptoSaid'. A law counts once. -/
mutual
def uptoBulk {H : Type} : DataW H → Nat
  | .lit (.string bytes) => bytes.length + 1
  | .lit _ => 1
  | .nil => 1
  | .ptr d => uptoBulk d + 1
  | .slice elems spare => uptoBulkAll elems + uptoBulkAll spare + 1
  | .agg parts => uptoBulkAll parts + 1
  | .iface _ d => uptoBulk d + 1
  | .map entries => uptoBulkEntries entries + 1
  | .held _ => 1
def uptoBulkAll {H : Type} : List (DataW H) → Nat
  | [] => 0
  | d :: r => uptoBulk d + uptoBulkAll r
def uptoBulkEntries {H : Type} : List (Lit × DataW H) → Nat
  | [] => 0
  | x :: r => uptoBulkEntry x + uptoBulkEntries r
def uptoBulkEntry {H : Type} : Lit × DataW H → Nat
  | (.string bytes, d) => bytes.length + uptoBulk d + 1
  | (_, d) => uptoBulk d + 1
 end
def uptoSmall : (H : Type) → List (DataW H) → Bool := fun _ ds => decide (uptoBulkAll ds ≤ 1048576)
def OpenSpec.upto (s : _root_.Go.ChangeSpec) : _root_.Go.OpenSpec := { _root_.Go.OpenSpec.ofChange s with cond := some uptoSmall }

/-- 'indenturelaw34.LightKeeps', WHERE WHAT IT READS IS OF BULK AT MOST 1048576: true; the input reads as it did. -/
def lightKeepsUptoRow : OpenClaim := { program := "ytapjikladjoicaa", sum := "13103b6d7062e0e4c91aaf4421ba0ae6cc3b46756736e502e5bfd0aca0b5eecd", func := "indenture/indenturelaw34.LightKeeps", spec := "lightKeeps", recurses := true, apart := false, narrowed := true }
def LightKeepsUptoSaid : Prop := lightKeepsUptoRow.holds Try.pinned (OpenSpec.upto lightKeepsSpec)

/-- 'indenturelaw34.LightFollows', WHERE WHAT IT READS IS OF BULK AT MOST 1048576: true; the input reads as it did. -/
def lightFollowsUptoRow : OpenClaim := { program := "ytapjikladjoicaa", sum := "13103b6d7062e0e4c91aaf4421ba0ae6cc3b46756736e502e5bfd0aca0b5eecd", func := "indenture/indenturelaw34.LightFollows", spec := "lightFollows", recurses := true, apart := false, narrowed := true }
def LightFollowsUptoSaid : Prop := lightFollowsUptoRow.holds Try.pinned (OpenSpec.upto lightFollowsSpec)

/-- 'indenturelaw34.LightLoads', WHERE WHAT IT READS IS OF BULK AT MOST 1048576: true; the input reads as it did. -/
def lightLoadsUptoRow : OpenClaim := { program := "ytapjikladjoicaa", sum := "13103b6d7062e0e4c91aaf4421ba0ae6cc3b46756736e502e5bfd0aca0b5eecd", func := "indenture/indenturelaw34.LightLoads", spec := "lightLoads", recurses := true, apart := false, narrowed := true }
def LightLoadsUptoSaid : Prop := lightLoadsUptoRow.holds Try.pinned (OpenSpec.upto lightLoadsSpec)

end Rows
end Go.Proofs.Ytapjikladjoicaa
