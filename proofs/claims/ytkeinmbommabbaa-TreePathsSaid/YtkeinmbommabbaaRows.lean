/-
  No cell of these rows narrows 'for every input' (looked for: loops, veiled, ifaces, maps, wideKeys, modest, calm, conditions, laid).
  DERIVED. THE GIVEN ROWS OF THIS SEAT. 5 by the template 'for every input the law returns true; each argument reads behind the call as it read before'; 0 by the template 'total and deterministic' (their statements: YtkeinmbommabbaaTotals.lean).
  GIVEN WITH THE SEED: the statements are not yours to turn. If you find one false, say at which input.
  Laid BY PROGRAM, IN A SANDBOX (cutbox-rows.mjs): the forced cells as the released guide's own fill.sh prints them over the translation 693aacdbe9a5b2f9… (all of the seat's roots in one cut). By AI agents, Wed Nov 11 2026. No macro, syntax, notation, axiom, sorry.
-/
import Derived.Test.YtkeinmbommabbaaChecked
import GoSem.Claim
import GoSem.ClaimJoined
import GoSem.ClaimMapViews
import Derived.JoinedTies
import Derived.KernelRfl
namespace Go.Proofs.Ytkeinmbommabbaa
/- THE CELL 'sum', in the pinned program and in every row, IS THE sha256 OF THE DUMP (.gsa) THAT YtkeinmbommabbaaProg.lean LOADS. Nothing in Lean hashes anything: it is a label: what it is worth is what the hold of that sum in a sandbox is worth. -/
noncomputable def Try.pinned : Pinned := { name := "ytkeinmbommabbaa", sum := "693aacdbe9a5b2f908c881ab337831b704ea8f1cb921f26b3630cc1c62f4ac5b", checked := Try.checked }
namespace Rows
def none {H : Type} : Left H := { results := [], args := [] }

/-- 'oublaw7.TreeTells': WHATEVER THE INPUT: true; the input reads as it did. -/
def treeTellsSpec : ChangeSpec := { name := "treeTells", fn := fun _ => fun
  | [d1, d2, d3, d4] => { results := [.lit (.bool true)], args := [d1, d2, d3, d4] }
  | _ => none }
def treeTellsRow : OpenClaim := { program := "ytkeinmbommabbaa", sum := "693aacdbe9a5b2f908c881ab337831b704ea8f1cb921f26b3630cc1c62f4ac5b", func := "oubliette/oublaw7.TreeTells", spec := "treeTells", apart := false }
def TreeTellsSaid : Prop := treeTellsRow.holds Try.pinned (OpenSpec.ofChange treeTellsSpec)

/-- ITS FALSE NEIGHBOUR: 'it returns false'. Refute it at one input. -/
def treeTellsWrong : ChangeSpec := { name := "treeTells", fn := fun _ => fun
  | [d1, d2, d3, d4] => { results := [.lit (.bool false)], args := [d1, d2, d3, d4] }
  | _ => none }
def TreeTellsWrongFalsely : Prop := treeTellsRow.holds Try.pinned (OpenSpec.ofChange treeTellsWrong)

/-- 'oublaw7.TreeNear': WHATEVER THE INPUT: true; the input reads as it did. -/
def treeNearSpec : ChangeSpec := { name := "treeNear", fn := fun _ => fun
  | [d1, d2, d3, d4] => { results := [.lit (.bool true)], args := [d1, d2, d3, d4] }
  | _ => none }
def treeNearRow : OpenClaim := { program := "ytkeinmbommabbaa", sum := "693aacdbe9a5b2f908c881ab337831b704ea8f1cb921f26b3630cc1c62f4ac5b", func := "oubliette/oublaw7.TreeNear", spec := "treeNear", apart := false }
def TreeNearSaid : Prop := treeNearRow.holds Try.pinned (OpenSpec.ofChange treeNearSpec)

/-- ITS FALSE NEIGHBOUR: 'it returns false'. Refute it at one input. -/
def treeNearWrong : ChangeSpec := { name := "treeNear", fn := fun _ => fun
  | [d1, d2, d3, d4] => { results := [.lit (.bool false)], args := [d1, d2, d3, d4] }
  | _ => none }
def TreeNearWrongFalsely : Prop := treeNearRow.holds Try.pinned (OpenSpec.ofChange treeNearWrong)

/-- 'oublaw7.TreeUnions': WHATEVER THE INPUT: true; the input reads as it did. -/
def treeUnionsSpec : ChangeSpec := { name := "treeUnions", fn := fun _ => fun
  | [d1, d2] => { results := [.lit (.bool true)], args := [d1, d2] }
  | _ => none }
def treeUnionsRow : OpenClaim := { program := "ytkeinmbommabbaa", sum := "693aacdbe9a5b2f908c881ab337831b704ea8f1cb921f26b3630cc1c62f4ac5b", func := "oubliette/oublaw7.TreeUnions", spec := "treeUnions", recurses := true, apart := false }
def TreeUnionsSaid : Prop := treeUnionsRow.holds Try.pinned (OpenSpec.ofChange treeUnionsSpec)

/-- ITS FALSE NEIGHBOUR: 'it returns false'. Refute it at one input. -/
def treeUnionsWrong : ChangeSpec := { name := "treeUnions", fn := fun _ => fun
  | [d1, d2] => { results := [.lit (.bool false)], args := [d1, d2] }
  | _ => none }
def TreeUnionsWrongFalsely : Prop := treeUnionsRow.holds Try.pinned (OpenSpec.ofChange treeUnionsWrong)

/-- 'oublaw7.TreePaths': WHATEVER THE INPUT: true; the input reads as it did. -/
def treePathsSpec : ChangeSpec := { name := "treePaths", fn := fun _ => fun
  | [d1, d2, d3, d4] => { results := [.lit (.bool true)], args := [d1, d2, d3, d4] }
  | _ => none }
def treePathsRow : OpenClaim := { program := "ytkeinmbommabbaa", sum := "693aacdbe9a5b2f908c881ab337831b704ea8f1cb921f26b3630cc1c62f4ac5b", func := "oubliette/oublaw7.TreePaths", spec := "treePaths", recurses := true, apart := false }
def TreePathsSaid : Prop := treePathsRow.holds Try.pinned (OpenSpec.ofChange treePathsSpec)

/-- ITS FALSE NEIGHBOUR: 'it returns false'. Refute it at one input. -/
def treePathsWrong : ChangeSpec := { name := "treePaths", fn := fun _ => fun
  | [d1, d2, d3, d4] => { results := [.lit (.bool false)], args := [d1, d2, d3, d4] }
  | _ => none }
def TreePathsWrongFalsely : Prop := treePathsRow.holds Try.pinned (OpenSpec.ofChange treePathsWrong)

/-- 'oublaw7.TreeCounts': WHATEVER THE INPUT: true; the input reads as it did. -/
def treeCountsSpec : ChangeSpec := { name := "treeCounts", fn := fun _ => fun
  | [d] => { results := [.lit (.bool true)], args := [d] }
  | _ => none }
def treeCountsRow : OpenClaim := { program := "ytkeinmbommabbaa", sum := "693aacdbe9a5b2f908c881ab337831b704ea8f1cb921f26b3630cc1c62f4ac5b", func := "oubliette/oublaw7.TreeCounts", spec := "treeCounts", recurses := true, apart := false }
def TreeCountsSaid : Prop := treeCountsRow.holds Try.pinned (OpenSpec.ofChange treeCountsSpec)

/-- ITS FALSE NEIGHBOUR: 'it returns false'. Refute it at one input. -/
def treeCountsWrong : ChangeSpec := { name := "treeCounts", fn := fun _ => fun
  | [d] => { results := [.lit (.bool false)], args := [d] }
  | _ => none }
def TreeCountsWrongFalsely : Prop := treeCountsRow.holds Try.pinned (OpenSpec.ofChange treeCountsWrong)

/- THE SECOND FORM. 'bulk': how many values and letters a reading holds, each counted each time it is reached (what is shared counts as often as it is met; a slice's spare places count too). A statement '..UptoSaid' is the law's where the arguments, and the package variables that the reading takes, are together of bulk at most 1048576: NARROWER than '..Said'. Prove '..Said' where nothing that the law and all that it calls make is longer than what came in: it says more and counts as full. Else prove '..UptoSaid'. A law counts once. -/
mutual
def uptoBulk {H : Type} : DataW H → Nat
  | .lit (.string bytes) => bytes.length + 1
  | .lit _ => 1
  | .nil => 1
  | .ptr d => uptoBulk d + 1
  | .slice elems spare => uptoBulkAll elems + uptoBulkAll spare + 1
  | .agg parts => uptoBulkAll parts + 1
  | .iface _ d => uptoBulk d + 1
  | .map entries => uptoBulkEntries entries + 1
  | .held _ => 1
def uptoBulkAll {H : Type} : List (DataW H) → Nat
  | [] => 0
  | d :: r => uptoBulk d + uptoBulkAll r
def uptoBulkEntries {H : Type} : List (Lit × DataW H) → Nat
  | [] => 0
  | x :: r => uptoBulkEntry x + uptoBulkEntries r
def uptoBulkEntry {H : Type} : Lit × DataW H → Nat
  | (.string bytes, d) => bytes.length + uptoBulk d + 1
  | (_, d) => uptoBulk d + 1
 end
def uptoSmall : (H : Type) → List (DataW H) → Bool := fun _ ds => decide (uptoBulkAll ds ≤ 1048576)
def OpenSpec.upto (s : _root_.Go.ChangeSpec) : _root_.Go.OpenSpec := { _root_.Go.OpenSpec.ofChange s with cond := some uptoSmall }

/-- 'oublaw7.TreeTells', WHERE WHAT IT READS IS OF BULK AT MOST 1048576: true; the input reads as it did. -/
def treeTellsUptoRow : OpenClaim := { program := "ytkeinmbommabbaa", sum := "693aacdbe9a5b2f908c881ab337831b704ea8f1cb921f26b3630cc1c62f4ac5b", func := "oubliette/oublaw7.TreeTells", spec := "treeTells", apart := false, narrowed := true }
def TreeTellsUptoSaid : Prop := treeTellsUptoRow.holds Try.pinned (OpenSpec.upto treeTellsSpec)

/-- 'oublaw7.TreeNear', WHERE WHAT IT READS IS OF BULK AT MOST 1048576: true; the input reads as it did. -/
def treeNearUptoRow : OpenClaim := { program := "ytkeinmbommabbaa", sum := "693aacdbe9a5b2f908c881ab337831b704ea8f1cb921f26b3630cc1c62f4ac5b", func := "oubliette/oublaw7.TreeNear", spec := "treeNear", apart := false, narrowed := true }
def TreeNearUptoSaid : Prop := treeNearUptoRow.holds Try.pinned (OpenSpec.upto treeNearSpec)

/-- 'oublaw7.TreeUnions', WHERE WHAT IT READS IS OF BULK AT MOST 1048576: true; the input reads as it did. -/
def treeUnionsUptoRow : OpenClaim := { program := "ytkeinmbommabbaa", sum := "693aacdbe9a5b2f908c881ab337831b704ea8f1cb921f26b3630cc1c62f4ac5b", func := "oubliette/oublaw7.TreeUnions", spec := "treeUnions", recurses := true, apart := false, narrowed := true }
def TreeUnionsUptoSaid : Prop := treeUnionsUptoRow.holds Try.pinned (OpenSpec.upto treeUnionsSpec)

/-- 'oublaw7.TreePaths', WHERE WHAT IT READS IS OF BULK AT MOST 1048576: true; the input reads as it did. -/
def treePathsUptoRow : OpenClaim := { program := "ytkeinmbommabbaa", sum := "693aacdbe9a5b2f908c881ab337831b704ea8f1cb921f26b3630cc1c62f4ac5b", func := "oubliette/oublaw7.TreePaths", spec := "treePaths", recurses := true, apart := false, narrowed := true }
def TreePathsUptoSaid : Prop := treePathsUptoRow.holds Try.pinned (OpenSpec.upto treePathsSpec)

/-- 'oublaw7.TreeCounts', WHERE WHAT IT READS IS OF BULK AT MOST 1048576: true; the input reads as it did. -/
def treeCountsUptoRow : OpenClaim := { program := "ytkeinmbommabbaa", sum := "693aacdbe9a5b2f908c881ab337831b704ea8f1cb921f26b3630cc1c62f4ac5b", func := "oubliette/oublaw7.TreeCounts", spec := "treeCounts", recurses := true, apart := false, narrowed := true }
def TreeCountsUptoSaid : Prop := treeCountsUptoRow.holds Try.pinned (OpenSpec.upto treeCountsSpec)

end Rows
end Go.Proofs.Ytkeinmbommabbaa
