/- evict.Plan in the form in which the printer tells contracts; oubref.Sorted too. -/
import Derived.Test.YtfliapankgdeeaaGreatEvL
namespace Go.Proofs.YtfliapankgdeeaaGreat.G
set_option linter.unusedVariables false
open Go.RowKit Go.Proofs.YtfliapankgdeeaaGreatW.PrintWords Go.Proofs.YtfliapankgdeeaaGreatW.PrintLast Go.Proofs.YtfliapankgdeeaaGreatW.PrintMore

def evict_Plan.f (a0 a1 : Int) (l2 : List Int) (l3 : List S35) : Option (List S42 × List Int) := if l2.length < 1000 ∧ l3.length < 1000 then some (A.planP a0 a1 l2 l3) else none
theorem evict_Plan.calls (a0 a1 : Int) (A2 : Option Addr) (c2 : Nat) (l2 : List Int) (A3 : Option Addr) (c3 : Nat) (l3 : List S35) (r0 : List S42) (r1 : List Int) (w : World) (hr2 : Kd.C (Kd.int .i64) w A2 l2.length l2) (hc2 : l2.length ≤ c2) (hr3 : Kd.C k35 w A3 l3.length l3) (hc3 : l3.length ≤ c3) (h : evict_Plan.f a0 a1 l2 l3 = some (r0, r1)) :
    Calls Tryz.prog 6 #[.int .i64 a0, .int .i64 a1, .slice A2 l2.length c2, .slice A3 l3.length c3] w fun e w' => ∃ v0_ v1_ : Value, e = .returned (.tuple #[v0_, v1_]) ∧ Kd.S k42 42 w' w.heap.size (fun k => some k ≠ v1_.ownBlock) v0_ r0 ∧ Kd.R (Kd.int .i64) 3 w' w.heap.size (fun _ => True) v1_ r1 ∧ Below w.heap.size w w' := by
  unfold evict_Plan.f at h
  split at h
  · rename_i hl
    have e := Option.some.inj h
    have h1 := A.Plan_calls a0 a1 A2 c2 l2 A3 c3 l3 w hr2 hc2 hr3 hl.1 hl.2
    rw [e] at h1
    exact h1
  · cases h
end Go.Proofs.YtfliapankgdeeaaGreat.G
