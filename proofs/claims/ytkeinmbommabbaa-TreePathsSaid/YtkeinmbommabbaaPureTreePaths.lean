/- TreePaths: at every height, any two leaves of it and any further leaves: paths are whole, each bucket below the one ahead of it, alike up to what they share and apart below; a union is of all paths and of nothing else. No condition. -/
import Derived.Test.YtkeinmbommabbaaPaths1
namespace Go.Proofs.Ytkeinmbommabbaa.Pure
open Go.RowKit Go.Proofs.Ytkeinmbommabbaa.R Go.Proofs.YtkeinmbommabbaaW.PrintWords Go.Proofs.YtkeinmbommabbaaW.PrintLast Go.Proofs.Ytkeinmbommabbaa.B7R Go.Proofs.Ytkeinmbommabbaa.B7P

theorem TreePaths : oublaw7_TreePaths.Pure := by
  intro h a b l _ _ _ _ _ _
  obtain ⟨k, hk⟩ : ∃ k : Nat, 3000 ≤ k := ⟨3000, Nat.le_refl _⟩
  refine ⟨k, ?_⟩
  have f1 := first_any k (by omega)
  unfold oublaw7_TreePaths.f
  rw [f1]
  simp only [Option.bind_some, if_true]
  by_cases hh : 0 ≤ h ∧ h ≤ 6
  · have hm : tree_May.f h = some true := by unfold tree_May.f; rw [if_pos hh.1, decide_eq_true hh.2]
    rw [hm]
    simp only [Option.bind_some, if_true]
    obtain ⟨m, rfl, hm7⟩ : ∃ m : Nat, h = m ∧ m < 7 := ⟨h.toNat, by omega, by omega⟩
    rw [leaves_in m hm7]
    simp only [Option.bind_some]
    by_cases a0 : a < 0
    · rw [if_pos a0]
    by_cases b0 : b < 0
    · rw [if_neg a0, if_pos b0]
    by_cases a1 : a ≥ ((2 ^ m : Nat) : Int)
    · rw [if_neg a0, if_neg b0, if_pos a1]
    by_cases b1 : b ≥ ((2 ^ m : Nat) : Int)
    · rw [if_neg a0, if_neg b0, if_neg a1, if_pos b1]
    by_cases hl : (l.length : Int) > 60
    · rw [if_neg a0, if_neg b0, if_neg a1, if_neg b1, if_pos hl]
    rw [if_neg a0, if_neg b0, if_neg a1, if_neg b1, if_neg hl]
    obtain ⟨a, rfl⟩ : ∃ n : Nat, a = n := ⟨a.toNat, by omega⟩
    obtain ⟨b, rfl⟩ : ∃ n : Nat, b = n := ⟨b.toNat, by omega⟩
    have ha : a < 2 ^ m := by omega
    have hb : b < 2 ^ m := by omega
    obtain ⟨s, e1, e2, e3⟩ := pair_ok hm7 ha hb k (by omega)
    have t := heads_all
    simp only [List.all_eq_true, List.mem_range, Bool.and_eq_true, decide_eq_true_eq] at t
    obtain ⟨⟨la, za⟩, na⟩ := t m hm7 a ha
    obtain ⟨⟨lb, -⟩, -⟩ := t m hm7 b hb
    have r := levels m a b l s hm7 ha hb (by omega) e3 e2 (m + 1) 0 k (by omega) (by omega)
    rw [show ((0 : Nat) : Int) = 0 from rfl] at r
    have pa := paths_any (m : Int) (a : Int) k (by omega)
    have pb := paths_any (m : Int) (b : Int) k (by omega)
    rw [path_nat hm7 ha] at pa
    rw [path_nat hm7 hb] at pb
    generalize pathOf m a = p at *
    generalize pathOf m b = q at *
    rw [wrap_ok (z := (m : Int) + 1) (by omega) (by omega), pa, Option.bind_some, pb, Option.bind_some]
    rw [if_pos (by omega), if_pos (by omega), if_pos (by omega), if_pos za, if_pos (by omega), if_pos (by omega), if_pos na, e1]
    simp only [Option.bind_some]
    exact r
  · have hm : tree_May.f h = some false := by
      unfold tree_May.f
      by_cases h0 : h ≥ 0
      · rw [if_pos h0, decide_eq_false (by omega)]
      · rw [if_neg h0]
    rw [hm]
    simp
end Go.Proofs.Ytkeinmbommabbaa.Pure
