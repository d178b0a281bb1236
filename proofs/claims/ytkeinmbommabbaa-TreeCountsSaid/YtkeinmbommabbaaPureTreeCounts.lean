/- TreeCounts: at every height, each bucket lies on as many paths as there are leaves below it, and all leaves' paths are all buckets. No condition. -/
import Derived.Test.YtkeinmbommabbaaBase7
namespace Go.Proofs.Ytkeinmbommabbaa.Pure
open Go.RowKit Go.Proofs.Ytkeinmbommabbaa.Q Go.Proofs.YtkeinmbommabbaaW.PrintWords Go.Proofs.YtkeinmbommabbaaW.PrintLast Go.Proofs.Ytkeinmbommabbaa.B7

theorem counts_all : ((List.range 7).all fun h => decide (oublaw7_TreeCounts.f 1200 (h : Int) = some true)) = true := by decide +kernel

theorem TreeCounts : oublaw7_TreeCounts.Pure := by
  intro h _
  by_cases hh : 0 ≤ h ∧ h ≤ 6
  · obtain ⟨m, rfl, hm⟩ : ∃ m : Nat, h = m ∧ m < 7 := ⟨h.toNat, by omega, by omega⟩
    have t := counts_all
    simp only [List.all_eq_true, List.mem_range, decide_eq_true_eq] at t
    exact ⟨1200, t m hm⟩
  · refine ⟨100, ?_⟩
    obtain ⟨k, hk⟩ : ∃ k : Nat, k = 100 := ⟨100, rfl⟩
    rw [← hk]
    unfold oublaw7_TreeCounts.f
    rw [first_any k (by omega)]
    simp only [Option.bind_some, if_true]
    have hm : tree_May.f h = some false := by
      unfold tree_May.f
      by_cases h0 : h ≥ 0
      · rw [if_pos h0, decide_eq_false (by omega)]
      · rw [if_neg h0]
    rw [hm]
    simp only [Option.bind_some]
    rw [if_neg (by simp), (buckets_any h).1, leaves_out hh, (paths_any h 0 k (by omega)).1]
    have e1 : bucketsOf h = 0 := by unfold bucketsOf; rw [if_neg hh]
    have e2 : path h 0 = [] := by unfold path okb; rw [decide_eq_false (by omega)]; rfl
    rw [e1, e2]
    rfl
end Go.Proofs.Ytkeinmbommabbaa.Pure
