/-
  No cell of these rows narrows 'for every input' (looked for: loops, veiled, ifaces, maps, wideKeys, modest, calm, conditions, laid).
  DERIVED. THE GIVEN ROWS OF THIS SEAT. 4 by the template 'for every input the law returns true; each argument reads behind the call as it read before'; 0 by the template 'total and deterministic' (their statements: YtfliapankgdeeaaTotals.lean).
  GIVEN WITH THE SEED: the statements are not yours to turn. If you find one false, say at which input.
  Laid BY PROGRAM, IN A SANDBOX (cutbox-rows.mjs): the forced cells as the released guide's own fill.sh prints them over the translation 18319627139a1ab6… (all of the seat's roots in one cut). By AI agents, Wed Nov 11 2026. No macro, syntax, notation, axiom, sorry.
-/
import Derived.Test.YtfliapankgdeeaaChecked
import GoSem.Claim
import GoSem.ClaimJoined
import GoSem.ClaimMapViews
import Derived.JoinedTies
import Derived.KernelRfl
namespace Go.Proofs.Ytfliapankgdeeaa
/- THE CELL 'sum', in the pinned program and in every row, IS THE sha256 OF THE DUMP (.gsa) THAT YtfliapankgdeeaaProg.lean LOADS. Nothing in Lean hashes anything: it is a label: what it is worth is what the hold of that sum in a sandbox is worth. -/
noncomputable def Try.pinned : Pinned := { name := "ytfliapankgdeeaa", sum := "18319627139a1ab6be838beb6107d2f4a1b7037221477a8a350a18213f965662", checked := Try.checked }
namespace Rows
def none {H : Type} : Left H := { results := [], args := [] }

/-- 'oublaw11.EvictOnce': WHATEVER THE INPUT: true; the input reads as it did. -/
def evictOnceSpec : ChangeSpec := { name := "evictOnce", fn := fun _ => fun
  | [d1, d2, d3, d4] => { results := [.lit (.bool true)], args := [d1, d2, d3, d4] }
  | _ => none }
def evictOnceRow : OpenClaim := { program := "ytfliapankgdeeaa", sum := "18319627139a1ab6be838beb6107d2f4a1b7037221477a8a350a18213f965662", func := "oubliette/oublaw11.EvictOnce", spec := "evictOnce", unfollowed := true, recurses := true, apart := false }
def EvictOnceSaid : Prop := evictOnceRow.holds Try.pinned (OpenSpec.ofChange evictOnceSpec)

/-- ITS FALSE NEIGHBOUR: 'it returns false'. Refute it at one input. -/
def evictOnceWrong : ChangeSpec := { name := "evictOnce", fn := fun _ => fun
  | [d1, d2, d3, d4] => { results := [.lit (.bool false)], args := [d1, d2, d3, d4] }
  | _ => none }
def EvictOnceWrongFalsely : Prop := evictOnceRow.holds Try.pinned (OpenSpec.ofChange evictOnceWrong)

/-- 'oublaw11.EvictDeep': WHATEVER THE INPUT: true; the input reads as it did. -/
def evictDeepSpec : ChangeSpec := { name := "evictDeep", fn := fun _ => fun
  | [d1, d2, d3, d4, d5] => { results := [.lit (.bool true)], args := [d1, d2, d3, d4, d5] }
  | _ => none }
def evictDeepRow : OpenClaim := { program := "ytfliapankgdeeaa", sum := "18319627139a1ab6be838beb6107d2f4a1b7037221477a8a350a18213f965662", func := "oubliette/oublaw11.EvictDeep", spec := "evictDeep", unfollowed := true, recurses := true, apart := false }
def EvictDeepSaid : Prop := evictDeepRow.holds Try.pinned (OpenSpec.ofChange evictDeepSpec)

/-- ITS FALSE NEIGHBOUR: 'it returns false'. Refute it at one input. -/
def evictDeepWrong : ChangeSpec := { name := "evictDeep", fn := fun _ => fun
  | [d1, d2, d3, d4, d5] => { results := [.lit (.bool false)], args := [d1, d2, d3, d4, d5] }
  | _ => none }
def EvictDeepWrongFalsely : Prop := evictDeepRow.holds Try.pinned (OpenSpec.ofChange evictDeepWrong)

/-- 'oublaw11.EvictMore': WHATEVER THE INPUT: true; the input reads as it did. -/
def evictMoreSpec : ChangeSpec := { name := "evictMore", fn := fun _ => fun
  | [d1, d2, d3, d4] => { results := [.lit (.bool true)], args := [d1, d2, d3, d4] }
  | _ => none }
def evictMoreRow : OpenClaim := { program := "ytfliapankgdeeaa", sum := "18319627139a1ab6be838beb6107d2f4a1b7037221477a8a350a18213f965662", func := "oubliette/oublaw11.EvictMore", spec := "evictMore", unfollowed := true, recurses := true, apart := false }
def EvictMoreSaid : Prop := evictMoreRow.holds Try.pinned (OpenSpec.ofChange evictMoreSpec)

/-- ITS FALSE NEIGHBOUR: 'it returns false'. Refute it at one input. -/
def evictMoreWrong : ChangeSpec := { name := "evictMore", fn := fun _ => fun
  | [d1, d2, d3, d4] => { results := [.lit (.bool false)], args := [d1, d2, d3, d4] }
  | _ => none }
def EvictMoreWrongFalsely : Prop := evictMoreRow.holds Try.pinned (OpenSpec.ofChange evictMoreWrong)

/-- 'oublaw11.EvictRoom': WHATEVER THE INPUT: true; the input reads as it did. -/
def evictRoomSpec : ChangeSpec := { name := "evictRoom", fn := fun _ => fun
  | [d1, d2, d3] => { results := [.lit (.bool true)], args := [d1, d2, d3] }
  | _ => none }
def evictRoomRow : OpenClaim := { program := "ytfliapankgdeeaa", sum := "18319627139a1ab6be838beb6107d2f4a1b7037221477a8a350a18213f965662", func := "oubliette/oublaw11.EvictRoom", spec := "evictRoom", unfollowed := true, recurses := true, apart := false }
def EvictRoomSaid : Prop := evictRoomRow.holds Try.pinned (OpenSpec.ofChange evictRoomSpec)

/-- ITS FALSE NEIGHBOUR: 'it returns false'. Refute it at one input. -/
def evictRoomWrong : ChangeSpec := { name := "evictRoom", fn := fun _ => fun
  | [d1, d2, d3] => { results := [.lit (.bool false)], args := [d1, d2, d3] }
  | _ => none }
def EvictRoomWrongFalsely : Prop := evictRoomRow.holds Try.pinned (OpenSpec.ofChange evictRoomWrong)

/- THE SECOND FORM. 'bulk': how many values and letters a reading holds, each counted each time it is reached (what is shared counts as often as it is met; a slice's spare places count too). A statement '..UptoSaid' is the law's where the arguments, and the package variables that the reading takes, are together of bulk at most 1048576: NARROWER than '..Said'. Prove '..Said' where nothing that the law and all that it calls make is longer than what came in: it says more and counts as full. Else prove '..UptoSaid'. A law counts once. -/
mutual
def uptoBulk {H : Type} : DataW H → Nat
  | .lit (.string bytes) => bytes.length + 1
  | .lit _ => 1
  | .nil => 1
  | .ptr d => uptoBulk d + 1
  | .slice elems spare => uptoBulkAll elems + uptoBulkAll spare + 1
  | .agg parts => uptoBulkAll parts + 1
  | .iface _ d => uptoBulk d + 1
  | .map entries => uptoBulkEntries entries + 1
  | .held _ => 1
def uptoBulkAll {H : Type} : List (DataW H) → Nat
  | [] => 0
  | d :: r => uptoBulk d + uptoBulkAll r
def uptoBulkEntries {H : Type} : List (Lit × DataW H) → Nat
  | [] => 0
  | x :: r => uptoBulkEntry x + uptoBulkEntries r
def uptoBulkEntry {H : Type} : Lit × DataW H → Nat
  | (.string bytes, d) => bytes.length + uptoBulk d + 1
  | (_, d) => uptoBulk d + 1
 end
def uptoSmall : (H : Type) → List (DataW H) → Bool := fun _ ds => decide (uptoBulkAll ds ≤ 1048576)
def OpenSpec.upto (s : _root_.Go.ChangeSpec) : _root_.Go.OpenSpec := { _root_.Go.OpenSpec.ofChange s with cond := some uptoSmall }

/-- 'oublaw11.EvictOnce', WHERE WHAT IT READS IS OF BULK AT MOST 1048576: true; the input reads as it did. -/
def evictOnceUptoRow : OpenClaim := { program := "ytfliapankgdeeaa", sum := "18319627139a1ab6be838beb6107d2f4a1b7037221477a8a350a18213f965662", func := "oubliette/oublaw11.EvictOnce", spec := "evictOnce", unfollowed := true, recurses := true, apart := false, narrowed := true }
def EvictOnceUptoSaid : Prop := evictOnceUptoRow.holds Try.pinned (OpenSpec.upto evictOnceSpec)

/-- 'oublaw11.EvictDeep', WHERE WHAT IT READS IS OF BULK AT MOST 1048576: true; the input reads as it did. -/
def evictDeepUptoRow : OpenClaim := { program := "ytfliapankgdeeaa", sum := "18319627139a1ab6be838beb6107d2f4a1b7037221477a8a350a18213f965662", func := "oubliette/oublaw11.EvictDeep", spec := "evictDeep", unfollowed := true, recurses := true, apart := false, narrowed := true }
def EvictDeepUptoSaid : Prop := evictDeepUptoRow.holds Try.pinned (OpenSpec.upto evictDeepSpec)

/-- 'oublaw11.EvictMore', WHERE WHAT IT READS IS OF BULK AT MOST 1048576: true; the input reads as it did. -/
def evictMoreUptoRow : OpenClaim := { program := "ytfliapankgdeeaa", sum := "18319627139a1ab6be838beb6107d2f4a1b7037221477a8a350a18213f965662", func := "oubliette/oublaw11.EvictMore", spec := "evictMore", unfollowed := true, recurses := true, apart := false, narrowed := true }
def EvictMoreUptoSaid : Prop := evictMoreUptoRow.holds Try.pinned (OpenSpec.upto evictMoreSpec)

/-- 'oublaw11.EvictRoom', WHERE WHAT IT READS IS OF BULK AT MOST 1048576: true; the input reads as it did. -/
def evictRoomUptoRow : OpenClaim := { program := "ytfliapankgdeeaa", sum := "18319627139a1ab6be838beb6107d2f4a1b7037221477a8a350a18213f965662", func := "oubliette/oublaw11.EvictRoom", spec := "evictRoom", unfollowed := true, recurses := true, apart := false, narrowed := true }
def EvictRoomUptoSaid : Prop := evictRoomUptoRow.holds Try.pinned (OpenSpec.upto evictRoomSpec)

end Rows
end Go.Proofs.Ytfliapankgdeeaa
