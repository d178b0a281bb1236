/-
  No cell of these rows narrows 'for every input' (looked for: loops, veiled, ifaces, maps, wideKeys, modest, calm, conditions, laid).
  DERIVED. THE GIVEN ROWS OF THIS SEAT. 4 by the template 'for every input the law returns true; each argument reads behind the call as it read before'; 0 by the template 'total and deterministic' (their statements: YtmjbmbhpfckagaaTotals.lean).
  GIVEN WITH THE SEED: the statements are not yours to turn. If you find one false, say at which input.
  Laid BY PROGRAM, IN A SANDBOX (cutbox-rows.mjs): the forced cells as the released guide's own fill.sh prints them over the translation 2ef353b398034d11… (all of the seat's roots in one cut). By AI agents, Wed Nov 11 2026. No macro, syntax, notation, axiom, sorry.
-/
import Derived.Test.YtmjbmbhpfckagaaChecked
import GoSem.Claim
import GoSem.ClaimJoined
import GoSem.ClaimMapViews
import Derived.JoinedTies
import Derived.KernelRfl
namespace Go.Proofs.Ytmjbmbhpfckagaa
/- THE CELL 'sum', in the pinned program and in every row, IS THE sha256 OF THE DUMP (.gsa) THAT YtmjbmbhpfckagaaProg.lean LOADS. Nothing in Lean hashes anything: it is a label: what it is worth is what the hold of that sum in a sandbox is worth. -/
noncomputable def Try.pinned : Pinned := { name := "ytmjbmbhpfckagaa", sum := "2ef353b398034d11d6d2178dc5b181bf5b83f0fc00c0e361b0575300df76e133", checked := Try.checked }
namespace Rows
def none {H : Type} : Left H := { results := [], args := [] }

/-- 'oublaw10.StashOwn': WHATEVER THE INPUT: true; the input reads as it did. -/
def stashOwnSpec : ChangeSpec := { name := "stashOwn", fn := fun _ => fun
  | [d1, d2, d3] => { results := [.lit (.bool true)], args := [d1, d2, d3] }
  | _ => none }
def stashOwnRow : OpenClaim := { program := "ytmjbmbhpfckagaa", sum := "2ef353b398034d11d6d2178dc5b181bf5b83f0fc00c0e361b0575300df76e133", func := "oubliette/oublaw10.StashOwn", spec := "stashOwn", unfollowed := true, recurses := true, apart := false }
def StashOwnSaid : Prop := stashOwnRow.holds Try.pinned (OpenSpec.ofChange stashOwnSpec)

/-- ITS FALSE NEIGHBOUR: 'it returns false'. Refute it at one input. -/
def stashOwnWrong : ChangeSpec := { name := "stashOwn", fn := fun _ => fun
  | [d1, d2, d3] => { results := [.lit (.bool false)], args := [d1, d2, d3] }
  | _ => none }
def StashOwnWrongFalsely : Prop := stashOwnRow.holds Try.pinned (OpenSpec.ofChange stashOwnWrong)

/-- 'oublaw10.StashBounds': WHATEVER THE INPUT: true; the input reads as it did. -/
def stashBoundsSpec : ChangeSpec := { name := "stashBounds", fn := fun _ => fun
  | [d] => { results := [.lit (.bool true)], args := [d] }
  | _ => none }
def stashBoundsRow : OpenClaim := { program := "ytmjbmbhpfckagaa", sum := "2ef353b398034d11d6d2178dc5b181bf5b83f0fc00c0e361b0575300df76e133", func := "oubliette/oublaw10.StashBounds", spec := "stashBounds", unfollowed := true, recurses := true, apart := false }
def StashBoundsSaid : Prop := stashBoundsRow.holds Try.pinned (OpenSpec.ofChange stashBoundsSpec)

/-- ITS FALSE NEIGHBOUR: 'it returns false'. Refute it at one input. -/
def stashBoundsWrong : ChangeSpec := { name := "stashBounds", fn := fun _ => fun
  | [d] => { results := [.lit (.bool false)], args := [d] }
  | _ => none }
def StashBoundsWrongFalsely : Prop := stashBoundsRow.holds Try.pinned (OpenSpec.ofChange stashBoundsWrong)

/-- 'oublaw10.StashPlays': WHATEVER THE INPUT: true; the input reads as it did. -/
def stashPlaysSpec : ChangeSpec := { name := "stashPlays", fn := fun _ => fun
  | [d1, d2] => { results := [.lit (.bool true)], args := [d1, d2] }
  | _ => none }
def stashPlaysRow : OpenClaim := { program := "ytmjbmbhpfckagaa", sum := "2ef353b398034d11d6d2178dc5b181bf5b83f0fc00c0e361b0575300df76e133", func := "oubliette/oublaw10.StashPlays", spec := "stashPlays", unfollowed := true, recurses := true, apart := false }
def StashPlaysSaid : Prop := stashPlaysRow.holds Try.pinned (OpenSpec.ofChange stashPlaysSpec)

/-- ITS FALSE NEIGHBOUR: 'it returns false'. Refute it at one input. -/
def stashPlaysWrong : ChangeSpec := { name := "stashPlays", fn := fun _ => fun
  | [d1, d2] => { results := [.lit (.bool false)], args := [d1, d2] }
  | _ => none }
def StashPlaysWrongFalsely : Prop := stashPlaysRow.holds Try.pinned (OpenSpec.ofChange stashPlaysWrong)

/-- 'oublaw10.StashOrder': WHATEVER THE INPUT: true; the input reads as it did. -/
def stashOrderSpec : ChangeSpec := { name := "stashOrder", fn := fun _ => fun
  | [d1, d2] => { results := [.lit (.bool true)], args := [d1, d2] }
  | _ => none }
def stashOrderRow : OpenClaim := { program := "ytmjbmbhpfckagaa", sum := "2ef353b398034d11d6d2178dc5b181bf5b83f0fc00c0e361b0575300df76e133", func := "oubliette/oublaw10.StashOrder", spec := "stashOrder", unfollowed := true, recurses := true, apart := false }
def StashOrderSaid : Prop := stashOrderRow.holds Try.pinned (OpenSpec.ofChange stashOrderSpec)

/-- ITS FALSE NEIGHBOUR: 'it returns false'. Refute it at one input. -/
def stashOrderWrong : ChangeSpec := { name := "stashOrder", fn := fun _ => fun
  | [d1, d2] => { results := [.lit (.bool false)], args := [d1, d2] }
  | _ => none }
def StashOrderWrongFalsely : Prop := stashOrderRow.holds Try.pinned (OpenSpec.ofChange stashOrderWrong)

/- THE SECOND FORM. 'bulk': how many values and letters a reading holds, each counted each time it is reached (what is shared counts as often as it is met; a slice's spare places count too). A statement '..UptoSaid' is the law's where the arguments, and the package variables that the reading takes, are together of bulk at most 1048576: NARROWER than '..Said'. Prove '..Said' where nothing that the law and all that it calls make is longer than what came in: it says more and counts as full. Else prove '..UptoSaid'. A law counts once. -/
mutual
def uptoBulk {H : Type} : DataW H → Nat
  | .lit (.string bytes) => bytes.length + 1
  | .lit _ => 1
  | .nil => 1
  | .ptr d => uptoBulk d + 1
  | .slice elems spare => uptoBulkAll elems + uptoBulkAll spare + 1
  | .agg parts => uptoBulkAll parts + 1
  | .iface _ d => uptoBulk d + 1
  | .map entries => uptoBulkEntries entries + 1
  | .held _ => 1
def uptoBulkAll {H : Type} : List (DataW H) → Nat
  | [] => 0
  | d :: r => uptoBulk d + uptoBulkAll r
def uptoBulkEntries {H : Type} : List (Lit × DataW H) → Nat
  | [] => 0
  | x :: r => uptoBulkEntry x + uptoBulkEntries r
def uptoBulkEntry {H : Type} : Lit × DataW H → Nat
  | (.string bytes, d) => bytes.length + uptoBulk d + 1
  | (_, d) => uptoBulk d + 1
 end
def uptoSmall : (H : Type) → List (DataW H) → Bool := fun _ ds => decide (uptoBulkAll ds ≤ 1048576)
def OpenSpec.upto (s : _root_.Go.ChangeSpec) : _root_.Go.OpenSpec := { _root_.Go.OpenSpec.ofChange s with cond := some uptoSmall }

/-- 'oublaw10.StashOwn', WHERE WHAT IT READS IS OF BULK AT MOST 1048576: true; the input reads as it did. -/
def stashOwnUptoRow : OpenClaim := { program := "ytmjbmbhpfckagaa", sum := "2ef353b398034d11d6d2178dc5b181bf5b83f0fc00c0e361b0575300df76e133", func := "oubliette/oublaw10.StashOwn", spec := "stashOwn", unfollowed := true, recurses := true, apart := false, narrowed := true }
def StashOwnUptoSaid : Prop := stashOwnUptoRow.holds Try.pinned (OpenSpec.upto stashOwnSpec)

/-- 'oublaw10.StashBounds', WHERE WHAT IT READS IS OF BULK AT MOST 1048576: true; the input reads as it did. -/
def stashBoundsUptoRow : OpenClaim := { program := "ytmjbmbhpfckagaa", sum := "2ef353b398034d11d6d2178dc5b181bf5b83f0fc00c0e361b0575300df76e133", func := "oubliette/oublaw10.StashBounds", spec := "stashBounds", unfollowed := true, recurses := true, apart := false, narrowed := true }
def StashBoundsUptoSaid : Prop := stashBoundsUptoRow.holds Try.pinned (OpenSpec.upto stashBoundsSpec)

/-- 'oublaw10.StashPlays', WHERE WHAT IT READS IS OF BULK AT MOST 1048576: true; the input reads as it did. -/
def stashPlaysUptoRow : OpenClaim := { program := "ytmjbmbhpfckagaa", sum := "2ef353b398034d11d6d2178dc5b181bf5b83f0fc00c0e361b0575300df76e133", func := "oubliette/oublaw10.StashPlays", spec := "stashPlays", unfollowed := true, recurses := true, apart := false, narrowed := true }
def StashPlaysUptoSaid : Prop := stashPlaysUptoRow.holds Try.pinned (OpenSpec.upto stashPlaysSpec)

/-- 'oublaw10.StashOrder', WHERE WHAT IT READS IS OF BULK AT MOST 1048576: true; the input reads as it did. -/
def stashOrderUptoRow : OpenClaim := { program := "ytmjbmbhpfckagaa", sum := "2ef353b398034d11d6d2178dc5b181bf5b83f0fc00c0e361b0575300df76e133", func := "oubliette/oublaw10.StashOrder", spec := "stashOrder", unfollowed := true, recurses := true, apart := false, narrowed := true }
def StashOrderUptoSaid : Prop := stashOrderUptoRow.holds Try.pinned (OpenSpec.upto stashOrderSpec)

end Rows
end Go.Proofs.Ytmjbmbhpfckagaa
