/- TreeUnions: at every height and any leaves (up to 100 are compared), the program's union of paths is the document's, and the leaves stay as they were. No condition. -/
import Derived.Test.YtkeinmbommabbaaBase7
namespace Go.Proofs.Ytkeinmbommabbaa.Pure
open Go.RowKit Go.Proofs.Ytkeinmbommabbaa.Q Go.Proofs.YtkeinmbommabbaaW.PrintWords Go.Proofs.YtkeinmbommabbaaW.PrintLast Go.Proofs.Ytkeinmbommabbaa.B7

theorem TreeUnions : oublaw7_TreeUnions.Pure := by
  intro h l _ _ _ _
  obtain ⟨k, hk⟩ : ∃ k : Nat, 20000 ≤ k := ⟨20000, Nat.le_refl _⟩
  refine ⟨k, ?_⟩
  unfold oublaw7_TreeUnions.f
  rw [first_any k (by omega)]
  simp only [Option.bind_some, if_true]
  by_cases hl : (l.length : Int) > 100
  · rw [if_pos hl]
  · rw [if_neg hl]
    have hc : oubref_CopyInts.f l = some l := by
      unfold oubref_CopyInts.f
      simp only [Option.bind_some, List.length_nil, List.nil_append]
      rw [if_pos (by omega)]
    rw [hc]
    simp only [Option.bind_some]
    rw [union_any h l (by omega) k (by omega), refUnion_any h l (by omega) k (by omega)]
    simp only [Option.bind_some]
    have := union_length h l
    rw [ints_same _ (by omega) k (by omega), ints_same _ (by omega) k (by omega)]
    simp
end Go.Proofs.Ytkeinmbommabbaa.Pure
