/- TreeNear: of three leaves of a tree, two share no less than the lesser of what each of them shares with the third. No condition. -/
import Derived.Test.YtkeinmbommabbaaPTreeNearx2
namespace Go.Proofs.Ytkeinmbommabbaa.Pure
open Go.RowKit Go.Proofs.Ytkeinmbommabbaa.PTreeNear Go.Proofs.YtkeinmbommabbaaW.PrintWords Go.Proofs.YtkeinmbommabbaaW.PrintLast

/-- What two leaves share: a level between 0 and the height; up to it, and no further, their ancestors are the same. -/
def nearB (h a b : Nat) : Bool :=
  match tree_Shared.f 20 (h : Int) (a : Int) (b : Int) with
  | some r => decide (0 ≤ r) && decide (r ≤ (h : Int)) && (List.range (h + 1)).all fun l => decide ((l : Int) ≤ r) == decide (a / 2 ^ (h - l) = b / 2 ^ (h - l))
  | none => false
theorem near_all : ((List.range 7).all fun h => (List.range (2 ^ h)).all fun a => (List.range (2 ^ h)).all fun b => nearB h a b) = true := by decide +kernel

theorem near_ok {h a b : Nat} (hh : h < 7) (ha : a < 2 ^ h) (hb : b < 2 ^ h) (k : Nat) (hk : 20 ≤ k) :
    ∃ r : Int, tree_Shared.f k (h : Int) (a : Int) (b : Int) = some r ∧ 0 ≤ r ∧ r ≤ h ∧ ∀ l : Nat, l ≤ h → ((l : Int) ≤ r ↔ a / 2 ^ (h - l) = b / 2 ^ (h - l)) := by
  have t := near_all
  simp only [List.all_eq_true, List.mem_range] at t
  have s := t h hh a ha b hb
  unfold nearB at s
  split at s
  next r e =>
    simp only [Bool.and_eq_true, decide_eq_true_eq, List.all_eq_true, List.mem_range, beq_iff_eq, decide_eq_decide] at s
    exact ⟨r, at_rounds (tree_Shared.mono _ _ _) hk e, s.1.1, s.1.2, fun l hl => s.2 l (by omega)⟩
  next => cases s

theorem first_any (k : Nat) (hk : 20 ≤ k) : oublaw7_first.f k = some true := at_rounds oublaw7_first.mono hk (by decide +kernel)

theorem leaves_in (m : Nat) (hm : m < 7) : tree_Leaves.f m = some ((2 ^ m : Nat) : Int) := by
  rcases (by omega : m = 0 ∨ m = 1 ∨ m = 2 ∨ m = 3 ∨ m = 4 ∨ m = 5 ∨ m = 6) with rfl | rfl | rfl | rfl | rfl | rfl | rfl <;> decide +kernel
theorem leaves_any (h : Int) : ∃ r, tree_Leaves.f h = some r := by
  by_cases hh : 0 ≤ h ∧ h ≤ 6
  · obtain ⟨m, rfl, hm⟩ : ∃ m : Nat, h = m ∧ m < 7 := ⟨h.toNat, by omega, by omega⟩
    exact ⟨_, leaves_in m hm⟩
  · refine ⟨0, ?_⟩
    unfold tree_Leaves.f tree_May.f
    by_cases h0 : h ≥ 0
    · rw [if_pos h0, decide_eq_false (by omega)]; rfl
    · rw [if_neg h0]; rfl

theorem third {x y z : Int} {n : Nat} (hx : 0 ≤ x) (hy : 0 ≤ y) (hxn : x ≤ n) (hyn : y ≤ n) {P Q R : Nat → Prop} (hP : ∀ l : Nat, l ≤ n → ((l : Int) ≤ x ↔ P l)) (hQ : ∀ l : Nat, l ≤ n → ((l : Int) ≤ y ↔ Q l)) (hR : ∀ l : Nat, l ≤ n → ((l : Int) ≤ z ↔ R l))
    (tr : ∀ l, P l → Q l → R l) : z ≥ mn x y := by
  unfold mn
  split
  · have hl : y.toNat ≤ n := by omega
    have := (hR _ hl).2 (tr _ ((hP _ hl).1 (by omega)) ((hQ _ hl).1 (by omega)))
    omega
  · have hl : x.toNat ≤ n := by omega
    have := (hR _ hl).2 (tr _ ((hP _ hl).1 (by omega)) ((hQ _ hl).1 (by omega)))
    omega

theorem skip (k : Nat) (hk : 20 ≤ k) (h a b c : Int) : oublaw7_TreeNear.j0 (k + 1) h a b c true = some true := by
  simp only [oublaw7_TreeNear.j0, if_true]
  rw [first_any k hk]
  rfl

theorem go (k : Nat) (hk : 20 ≤ k) (h a b c : Nat) (hh : h < 7) (ha : a < 2 ^ h) (hb : b < 2 ^ h) (hc : c < 2 ^ h) : oublaw7_TreeNear.j0 (k + 1) h a b c false = some true := by
  obtain ⟨x, ex, x0, xn, hx⟩ := near_ok hh ha hb k hk
  obtain ⟨y, ey, y0, yn, hy⟩ := near_ok hh hb hc k hk
  obtain ⟨z, ez, z0, zn, hz⟩ := near_ok hh ha hc k hk
  obtain ⟨u, eu, u0, un, hu⟩ := near_ok hh hb ha k hk
  have hxu : x = u := by
    have h1 := (hu x.toNat (by omega)).2 ((hx x.toNat (by omega)).1 (by omega)).symm
    have h2 := (hx u.toNat (by omega)).2 ((hu u.toNat (by omega)).1 (by omega)).symm
    omega
  simp only [oublaw7_TreeNear.j0]
  rw [if_neg (by simp), ex, ey, ez]
  simp only [Option.bind_some]
  rw [first_any k hk]
  simp only [Option.bind_some, if_true]
  rw [if_pos (third x0 y0 xn yn hx hy hz (fun _ p q => p.trans q)), if_pos (third y0 z0 yn zn hy hz hx (fun _ p q => q.trans p.symm)), if_pos (third x0 z0 xn zn hx hz hy (fun _ p q => p.symm.trans q)), eu]
  simp only [Option.bind_some]
  rw [if_pos hxu, if_pos (by omega), decide_eq_true (by omega)]

theorem TreeNear : oublaw7_TreeNear.Pure := by
  intro h a b c _ _ _ _
  obtain ⟨k, hk⟩ : ∃ k : Nat, 100 ≤ k := ⟨100, Nat.le_refl _⟩
  refine ⟨k + 1, ?_⟩
  obtain ⟨n, hn⟩ := leaves_any h
  unfold oublaw7_TreeNear.f
  rw [first_any (k + 1) (by omega)]
  simp only [Option.bind_some, if_true]
  rw [hn]
  simp only [Option.bind_some]
  have sk := skip k (by omega) h a b c
  by_cases hh : 0 ≤ h ∧ h ≤ 6
  · have hm : tree_May.f h = some true := by unfold tree_May.f; rw [if_pos hh.1, decide_eq_true hh.2]
    rw [hm]
    simp only [Option.bind_some, if_true]
    by_cases ha : a < 0
    · rw [if_pos ha]; exact sk
    by_cases hb : b < 0
    · rw [if_neg ha, if_pos hb]; exact sk
    by_cases hc : c < 0
    · rw [if_neg ha, if_neg hb, if_pos hc]; exact sk
    by_cases ga : a ≥ n
    · rw [if_neg ha, if_neg hb, if_neg hc, if_pos ga]; exact sk
    by_cases gb : b ≥ n
    · rw [if_neg ha, if_neg hb, if_neg hc, if_neg ga, if_pos gb]; exact sk
    by_cases gc : c ≥ n
    · rw [if_neg ha, if_neg hb, if_neg hc, if_neg ga, if_neg gb, decide_eq_true gc]; exact sk
    rw [if_neg ha, if_neg hb, if_neg hc, if_neg ga, if_neg gb, decide_eq_false gc]
    obtain ⟨m, rfl, hm7⟩ : ∃ m : Nat, h = m ∧ m < 7 := ⟨h.toNat, by omega, by omega⟩
    rw [leaves_in m hm7] at hn
    injection hn with hn
    obtain ⟨a', rfl⟩ : ∃ t : Nat, a = t := ⟨a.toNat, by omega⟩
    obtain ⟨b', rfl⟩ : ∃ t : Nat, b = t := ⟨b.toNat, by omega⟩
    obtain ⟨c', rfl⟩ : ∃ t : Nat, c = t := ⟨c.toNat, by omega⟩
    exact go k (by omega) m a' b' c' hm7 (by omega) (by omega) (by omega)
  · have hm : tree_May.f h = some false := by
      unfold tree_May.f
      by_cases h0 : h ≥ 0
      · rw [if_pos h0, decide_eq_false (by omega)]
      · rw [if_neg h0]
    rw [hm]
    simp only [Option.bind_some]
    exact sk

end Go.Proofs.Ytkeinmbommabbaa.Pure
