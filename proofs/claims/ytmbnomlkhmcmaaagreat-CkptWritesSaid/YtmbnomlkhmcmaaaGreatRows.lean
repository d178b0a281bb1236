/-
  No cell of these rows narrows 'for every input' (looked for: loops, veiled, ifaces, maps, wideKeys, modest, calm, conditions, laid).
  DERIVED. THE GIVEN ROWS OF THIS SEAT. 6 by the template 'for every input the law returns true; each argument reads behind the call as it read before'; 0 by the template 'total and deterministic' (their statements: YtmbnomlkhmcmaaaGreatTotals.lean).
  GIVEN WITH THE SEED: the statements are not yours to turn. If you find one false, say at which input.
  Laid BY PROGRAM, IN A SANDBOX (cutbox-rows.mjs): the forced cells as the released guide's own fill.sh prints them over the translation 6fc83115acd4928d… (all of the seat's roots in one cut). By AI agents, Wed Nov 11 2026. No macro, syntax, notation, axiom, sorry.
-/
import Derived.Test.YtmbnomlkhmcmaaaGreatChecked
import GoSem.Claim
import GoSem.ClaimJoined
import GoSem.ClaimMapViews
import Derived.JoinedTies
import Derived.KernelRfl
namespace Go.Proofs.YtmbnomlkhmcmaaaGreat
/- THE CELL 'sum', in the pinned program and in every row, IS THE sha256 OF THE DUMP (.gsa) THAT YtmbnomlkhmcmaaaGreatProg.lean LOADS. Nothing in Lean hashes anything: it is a label: what it is worth is what the hold of that sum in a sandbox is worth. -/
noncomputable def Tryz.pinned : Pinned := { name := "ytmbnomlkhmcmaaagreat", sum := "6fc83115acd4928d1cd47a24091d48a1fb20687e31a4525fb83f8a762eefe17c", checked := Tryz.checked }
namespace Rows
def none {H : Type} : Left H := { results := [], args := [] }

/-- 'oublaw23.CkptWrites': WHATEVER THE INPUT: true; the input reads as it did. -/
def ckptWritesSpec : ChangeSpec := { name := "ckptWrites", fn := fun _ => fun
  | [d1, d2, d3, d4] => { results := [.lit (.bool true)], args := [d1, d2, d3, d4] }
  | _ => none }
def ckptWritesRow : OpenClaim := { program := "ytmbnomlkhmcmaaagreat", sum := "6fc83115acd4928d1cd47a24091d48a1fb20687e31a4525fb83f8a762eefe17c", func := "oubliette/oublaw23.CkptWrites", spec := "ckptWrites", inPlace := ["internal/bytealg.MakeNoZero"], unfollowed := true, recurses := true, apart := false }
def CkptWritesSaid : Prop := ckptWritesRow.holds Tryz.pinned (OpenSpec.ofChange ckptWritesSpec)

/-- ITS FALSE NEIGHBOUR: 'it returns false'. Refute it at one input. -/
def ckptWritesWrong : ChangeSpec := { name := "ckptWrites", fn := fun _ => fun
  | [d1, d2, d3, d4] => { results := [.lit (.bool false)], args := [d1, d2, d3, d4] }
  | _ => none }
def CkptWritesWrongFalsely : Prop := ckptWritesRow.holds Tryz.pinned (OpenSpec.ofChange ckptWritesWrong)

/-- 'oublaw23.CkptApart': WHATEVER THE INPUT: true; the input reads as it did. -/
def ckptApartSpec : ChangeSpec := { name := "ckptApart", fn := fun _ => fun
  | [d1, d2, d3, d4, d5] => { results := [.lit (.bool true)], args := [d1, d2, d3, d4, d5] }
  | _ => none }
def ckptApartRow : OpenClaim := { program := "ytmbnomlkhmcmaaagreat", sum := "6fc83115acd4928d1cd47a24091d48a1fb20687e31a4525fb83f8a762eefe17c", func := "oubliette/oublaw23.CkptApart", spec := "ckptApart", inPlace := ["internal/bytealg.MakeNoZero"], unfollowed := true, recurses := true, apart := false }
def CkptApartSaid : Prop := ckptApartRow.holds Tryz.pinned (OpenSpec.ofChange ckptApartSpec)

/-- ITS FALSE NEIGHBOUR: 'it returns false'. Refute it at one input. -/
def ckptApartWrong : ChangeSpec := { name := "ckptApart", fn := fun _ => fun
  | [d1, d2, d3, d4, d5] => { results := [.lit (.bool false)], args := [d1, d2, d3, d4, d5] }
  | _ => none }
def CkptApartWrongFalsely : Prop := ckptApartRow.holds Tryz.pinned (OpenSpec.ofChange ckptApartWrong)

/-- 'oublaw23.CkptReads': WHATEVER THE INPUT: true; the input reads as it did. -/
def ckptReadsSpec : ChangeSpec := { name := "ckptReads", fn := fun _ => fun
  | [d1, d2] => { results := [.lit (.bool true)], args := [d1, d2] }
  | _ => none }
def ckptReadsRow : OpenClaim := { program := "ytmbnomlkhmcmaaagreat", sum := "6fc83115acd4928d1cd47a24091d48a1fb20687e31a4525fb83f8a762eefe17c", func := "oubliette/oublaw23.CkptReads", spec := "ckptReads", inPlace := ["internal/bytealg.MakeNoZero"], unfollowed := true, recurses := true, apart := false }
def CkptReadsSaid : Prop := ckptReadsRow.holds Tryz.pinned (OpenSpec.ofChange ckptReadsSpec)

/-- ITS FALSE NEIGHBOUR: 'it returns false'. Refute it at one input. -/
def ckptReadsWrong : ChangeSpec := { name := "ckptReads", fn := fun _ => fun
  | [d1, d2] => { results := [.lit (.bool false)], args := [d1, d2] }
  | _ => none }
def CkptReadsWrongFalsely : Prop := ckptReadsRow.holds Tryz.pinned (OpenSpec.ofChange ckptReadsWrong)

/-- 'oublaw23.CkptAfter': WHATEVER THE INPUT: true; the input reads as it did. -/
def ckptAfterSpec : ChangeSpec := { name := "ckptAfter", fn := fun _ => fun
  | [d1, d2, d3] => { results := [.lit (.bool true)], args := [d1, d2, d3] }
  | _ => none }
def ckptAfterRow : OpenClaim := { program := "ytmbnomlkhmcmaaagreat", sum := "6fc83115acd4928d1cd47a24091d48a1fb20687e31a4525fb83f8a762eefe17c", func := "oubliette/oublaw23.CkptAfter", spec := "ckptAfter", inPlace := ["internal/bytealg.abigen_runtime_cmpstring", "slices.overlaps[oubliette/dir.Entry]", "slices.overlaps[*oubliette/dir.node]"], unfollowed := true, recurses := true, apart := false }
def CkptAfterSaid : Prop := ckptAfterRow.holds Tryz.pinned (OpenSpec.ofChange ckptAfterSpec)

/-- ITS FALSE NEIGHBOUR: 'it returns false'. Refute it at one input. -/
def ckptAfterWrong : ChangeSpec := { name := "ckptAfter", fn := fun _ => fun
  | [d1, d2, d3] => { results := [.lit (.bool false)], args := [d1, d2, d3] }
  | _ => none }
def CkptAfterWrongFalsely : Prop := ckptAfterRow.holds Tryz.pinned (OpenSpec.ofChange ckptAfterWrong)

/-- 'oublaw23.CkptSteps': WHATEVER THE INPUT: true; the input reads as it did. -/
def ckptStepsSpec : ChangeSpec := { name := "ckptSteps", fn := fun _ => fun
  | [d1, d2, d3] => { results := [.lit (.bool true)], args := [d1, d2, d3] }
  | _ => none }
def ckptStepsRow : OpenClaim := { program := "ytmbnomlkhmcmaaagreat", sum := "6fc83115acd4928d1cd47a24091d48a1fb20687e31a4525fb83f8a762eefe17c", func := "oubliette/oublaw23.CkptSteps", spec := "ckptSteps", inPlace := ["internal/bytealg.abigen_runtime_cmpstring", "slices.overlaps[oubliette/dir.Entry]", "slices.overlaps[*oubliette/dir.node]"], unfollowed := true, recurses := true, apart := false }
def CkptStepsSaid : Prop := ckptStepsRow.holds Tryz.pinned (OpenSpec.ofChange ckptStepsSpec)

/-- ITS FALSE NEIGHBOUR: 'it returns false'. Refute it at one input. -/
def ckptStepsWrong : ChangeSpec := { name := "ckptSteps", fn := fun _ => fun
  | [d1, d2, d3] => { results := [.lit (.bool false)], args := [d1, d2, d3] }
  | _ => none }
def CkptStepsWrongFalsely : Prop := ckptStepsRow.holds Tryz.pinned (OpenSpec.ofChange ckptStepsWrong)

/-- 'oublaw23.CkptBack': WHATEVER THE INPUT: true; the input reads as it did. -/
def ckptBackSpec : ChangeSpec := { name := "ckptBack", fn := fun _ => fun
  | [d1, d2, d3, d4] => { results := [.lit (.bool true)], args := [d1, d2, d3, d4] }
  | _ => none }
def ckptBackRow : OpenClaim := { program := "ytmbnomlkhmcmaaagreat", sum := "6fc83115acd4928d1cd47a24091d48a1fb20687e31a4525fb83f8a762eefe17c", func := "oubliette/oublaw23.CkptBack", spec := "ckptBack", inPlace := ["internal/bytealg.MakeNoZero", "internal/bytealg.abigen_runtime_cmpstring", "slices.overlaps[oubliette/dir.Entry]", "slices.overlaps[*oubliette/dir.node]"], unfollowed := true, recurses := true, apart := false }
def CkptBackSaid : Prop := ckptBackRow.holds Tryz.pinned (OpenSpec.ofChange ckptBackSpec)

/-- ITS FALSE NEIGHBOUR: 'it returns false'. Refute it at one input. -/
def ckptBackWrong : ChangeSpec := { name := "ckptBack", fn := fun _ => fun
  | [d1, d2, d3, d4] => { results := [.lit (.bool false)], args := [d1, d2, d3, d4] }
  | _ => none }
def CkptBackWrongFalsely : Prop := ckptBackRow.holds Tryz.pinned (OpenSpec.ofChange ckptBackWrong)

/- THE SECOND FORM. 'bulk': how many values and letters a reading holds, each counted each time it is reached (what is shared counts as often as it is met; a slice's spare places count too). A statement '..UptoSaid' is the law's where the arguments, and the package variables that the reading takes, are together of bulk at most 1048576: NARROWER than '..Said'. Prove '..Said' where nothing that the law and all that it calls make is longer than what came in: it says more and counts as full. Else prove '..UptoSaid'. A law counts once. -/
mutual
def uptoBulk {H : Type} : DataW H → Nat
  | .lit (.string bytes) => bytes.length + 1
  | .lit _ => 1
  | .nil => 1
  | .ptr d => uptoBulk d + 1
  | .slice elems spare => uptoBulkAll elems + uptoBulkAll spare + 1
  | .agg parts => uptoBulkAll parts + 1
  | .iface _ d => uptoBulk d + 1
  | .map entries => uptoBulkEntries entries + 1
  | .held _ => 1
def uptoBulkAll {H : Type} : List (DataW H) → Nat
  | [] => 0
  | d :: r => uptoBulk d + uptoBulkAll r
def uptoBulkEntries {H : Type} : List (Lit × DataW H) → Nat
  | [] => 0
  | x :: r => uptoBulkEntry x + uptoBulkEntries r
def uptoBulkEntry {H : Type} : Lit × DataW H → Nat
  | (.string bytes, d) => bytes.length + uptoBulk d + 1
  | (_, d) => uptoBulk d + 1
 end
def uptoSmall : (H : Type) → List (DataW H) → Bool := fun _ ds => decide (uptoBulkAll ds ≤ 1048576)
def OpenSpec.upto (s : _root_.Go.ChangeSpec) : _root_.Go.OpenSpec := { _root_.Go.OpenSpec.ofChange s with cond := some uptoSmall }

/-- 'oublaw23.CkptWrites', WHERE WHAT IT READS IS OF BULK AT MOST 1048576: true; the input reads as it did. -/
def ckptWritesUptoRow : OpenClaim := { program := "ytmbnomlkhmcmaaagreat", sum := "6fc83115acd4928d1cd47a24091d48a1fb20687e31a4525fb83f8a762eefe17c", func := "oubliette/oublaw23.CkptWrites", spec := "ckptWrites", inPlace := ["internal/bytealg.MakeNoZero"], unfollowed := true, recurses := true, apart := false, narrowed := true }
def CkptWritesUptoSaid : Prop := ckptWritesUptoRow.holds Tryz.pinned (OpenSpec.upto ckptWritesSpec)

/-- 'oublaw23.CkptApart', WHERE WHAT IT READS IS OF BULK AT MOST 1048576: true; the input reads as it did. -/
def ckptApartUptoRow : OpenClaim := { program := "ytmbnomlkhmcmaaagreat", sum := "6fc83115acd4928d1cd47a24091d48a1fb20687e31a4525fb83f8a762eefe17c", func := "oubliette/oublaw23.CkptApart", spec := "ckptApart", inPlace := ["internal/bytealg.MakeNoZero"], unfollowed := true, recurses := true, apart := false, narrowed := true }
def CkptApartUptoSaid : Prop := ckptApartUptoRow.holds Tryz.pinned (OpenSpec.upto ckptApartSpec)

/-- 'oublaw23.CkptReads', WHERE WHAT IT READS IS OF BULK AT MOST 1048576: true; the input reads as it did. -/
def ckptReadsUptoRow : OpenClaim := { program := "ytmbnomlkhmcmaaagreat", sum := "6fc83115acd4928d1cd47a24091d48a1fb20687e31a4525fb83f8a762eefe17c", func := "oubliette/oublaw23.CkptReads", spec := "ckptReads", inPlace := ["internal/bytealg.MakeNoZero"], unfollowed := true, recurses := true, apart := false, narrowed := true }
def CkptReadsUptoSaid : Prop := ckptReadsUptoRow.holds Tryz.pinned (OpenSpec.upto ckptReadsSpec)

/-- 'oublaw23.CkptAfter', WHERE WHAT IT READS IS OF BULK AT MOST 1048576: true; the input reads as it did. -/
def ckptAfterUptoRow : OpenClaim := { program := "ytmbnomlkhmcmaaagreat", sum := "6fc83115acd4928d1cd47a24091d48a1fb20687e31a4525fb83f8a762eefe17c", func := "oubliette/oublaw23.CkptAfter", spec := "ckptAfter", inPlace := ["internal/bytealg.abigen_runtime_cmpstring", "slices.overlaps[oubliette/dir.Entry]", "slices.overlaps[*oubliette/dir.node]"], unfollowed := true, recurses := true, apart := false, narrowed := true }
def CkptAfterUptoSaid : Prop := ckptAfterUptoRow.holds Tryz.pinned (OpenSpec.upto ckptAfterSpec)

/-- 'oublaw23.CkptSteps', WHERE WHAT IT READS IS OF BULK AT MOST 1048576: true; the input reads as it did. -/
def ckptStepsUptoRow : OpenClaim := { program := "ytmbnomlkhmcmaaagreat", sum := "6fc83115acd4928d1cd47a24091d48a1fb20687e31a4525fb83f8a762eefe17c", func := "oubliette/oublaw23.CkptSteps", spec := "ckptSteps", inPlace := ["internal/bytealg.abigen_runtime_cmpstring", "slices.overlaps[oubliette/dir.Entry]", "slices.overlaps[*oubliette/dir.node]"], unfollowed := true, recurses := true, apart := false, narrowed := true }
def CkptStepsUptoSaid : Prop := ckptStepsUptoRow.holds Tryz.pinned (OpenSpec.upto ckptStepsSpec)

/-- 'oublaw23.CkptBack', WHERE WHAT IT READS IS OF BULK AT MOST 1048576: true; the input reads as it did. -/
def ckptBackUptoRow : OpenClaim := { program := "ytmbnomlkhmcmaaagreat", sum := "6fc83115acd4928d1cd47a24091d48a1fb20687e31a4525fb83f8a762eefe17c", func := "oubliette/oublaw23.CkptBack", spec := "ckptBack", inPlace := ["internal/bytealg.MakeNoZero", "internal/bytealg.abigen_runtime_cmpstring", "slices.overlaps[oubliette/dir.Entry]", "slices.overlaps[*oubliette/dir.node]"], unfollowed := true, recurses := true, apart := false, narrowed := true }
def CkptBackUptoSaid : Prop := ckptBackUptoRow.holds Tryz.pinned (OpenSpec.upto ckptBackSpec)

end Rows
end Go.Proofs.YtmbnomlkhmcmaaaGreat
