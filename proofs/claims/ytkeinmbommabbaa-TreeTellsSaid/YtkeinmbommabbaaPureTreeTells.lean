/- TreeTells: at every height, leaves a and b, and bucket, the program's tree tells what the document's tree tells. No condition. -/
import Derived.Test.YtkeinmbommabbaaPTreeTellsx3
namespace Go.Proofs.Ytkeinmbommabbaa.Pure
open Go.RowKit Go.Proofs.Ytkeinmbommabbaa.PTreeTells Go.Proofs.YtkeinmbommabbaaW.PrintWords Go.Proofs.YtkeinmbommabbaaW.PrintLast

/-- The path of a leaf. -/
def pathOf (h a : Nat) : List Int := (List.range (h + 1)).map fun l => ((2 ^ l - 1 + a / 2 ^ (h - l) : Nat) : Int)

theorem paths_all : ((List.range 7).all fun h => (List.range (2 ^ h)).all fun a => decide (tree_Path.f 20 h a = some (pathOf h a)) && decide (oubref7_Path.f 20 h a = some (pathOf h a))) = true := by decide +kernel

theorem shared_all : ((List.range 7).all fun h => (List.range (2 ^ h)).all fun a => (List.range (2 ^ h)).all fun b => (tree_Shared.f 20 h a b).isSome && decide (tree_Shared.f 20 h a b = oubref7_Shared.l0 20 (pathOf h a) (pathOf h b) (-1))) = true := by decide +kernel

def Ok (h a : Int) : Prop := ∃ m n : Nat, h = m ∧ a = n ∧ m < 7 ∧ n < 2 ^ m

theorem paths_ok {h a : Int} (ok : Ok h a) : ∃ p : List Int, tree_Path.f 20 h a = some p ∧ oubref7_Path.f 20 h a = some p ∧ p.length ≤ 7 := by
  obtain ⟨m, n, rfl, rfl, hm, hn⟩ := ok
  have t := paths_all
  simp only [List.all_eq_true, List.mem_range, Bool.and_eq_true, decide_eq_true_eq] at t
  exact ⟨pathOf m n, (t m hm n hn).1, (t m hm n hn).2, by simp [pathOf]; omega⟩

theorem shared_ok {h a b : Int} (oka : Ok h a) (okb : Ok h b) : ∃ r, tree_Shared.f 20 h a b = some r ∧ oubref7_Shared.f 20 h a b = some r := by
  obtain ⟨m, n, rfl, rfl, hm, hn⟩ := oka
  obtain ⟨m', n', e, rfl, -, hn'⟩ := okb
  obtain rfl : m' = m := by omega
  have t := paths_all
  simp only [List.all_eq_true, List.mem_range, Bool.and_eq_true, decide_eq_true_eq] at t
  have s := shared_all
  simp only [List.all_eq_true, List.mem_range, Bool.and_eq_true, decide_eq_true_eq] at s
  obtain ⟨s1, s2⟩ := s m' hm n hn n' hn'
  obtain ⟨r, hr⟩ := Option.isSome_iff_exists.1 s1
  refine ⟨r, hr, ?_⟩
  unfold oubref7_Shared.f
  rw [(t m' hm n hn).2, (t m' hm n' hn').2]
  simp only [Option.bind_some]
  rw [← s2, hr]

theorem ok_range {h : Int} (h0 : 0 ≤ h) (h6 : h ≤ 6) : ∃ m : Nat, h = m ∧ m < 7 := ⟨h.toNat, by omega, by omega⟩

theorem leaves_in (m : Nat) (hm : m < 7) : tree_Leaves.f m = some ((2 ^ m : Nat) : Int) := by
  rcases (by omega : m = 0 ∨ m = 1 ∨ m = 2 ∨ m = 3 ∨ m = 4 ∨ m = 5 ∨ m = 6) with rfl | rfl | rfl | rfl | rfl | rfl | rfl <;> decide +kernel
theorem leaves_out {h : Int} (hh : ¬ (0 ≤ h ∧ h ≤ 6)) : tree_Leaves.f h = some 0 := by
  unfold tree_Leaves.f tree_May.f
  by_cases h0 : h ≥ 0
  · rw [if_pos h0, decide_eq_false (by omega)]; rfl
  · rw [if_neg h0]; rfl
theorem shl_in (m : Nat) (hm : m < 7) : shl .i64 1 (IntKind.u64.wrap (m : Int)) = ((2 ^ m : Nat) : Int) ∧ 0 ≤ IntKind.u64.wrap (m : Int) := by
  rcases (by omega : m = 0 ∨ m = 1 ∨ m = 2 ∨ m = 3 ∨ m = 4 ∨ m = 5 ∨ m = 6) with rfl | rfl | rfl | rfl | rfl | rfl | rfl <;> decide +kernel

theorem mayH_in (m : Nat) (hm : m < 7) : oubref7_MayHeight.f m = some true := by
  unfold oubref7_MayHeight.f
  rw [if_pos (by omega), decide_eq_true (by omega)]
theorem mayH_out {h : Int} (hh : ¬ (0 ≤ h ∧ h ≤ 6)) : oubref7_MayHeight.f h = some false := by
  unfold oubref7_MayHeight.f
  by_cases h0 : h ≥ 0
  · rw [if_pos h0, decide_eq_false (by omega)]
  · rw [if_neg h0]
theorem may_eq (h : Int) : tree_May.f h = oubref7_MayHeight.f h := rfl

theorem is_no {h a : Int} (no : ¬ Ok h a) : tree_is.f h a = some false := by
  unfold tree_is.f
  by_cases a0 : a ≥ 0
  · rw [if_pos a0]
    by_cases hh : 0 ≤ h ∧ h ≤ 6
    · obtain ⟨m, rfl, hm⟩ := ok_range hh.1 hh.2
      rw [leaves_in m hm]
      simp only [Option.bind_some]
      rw [decide_eq_false]
      intro hlt
      exact no ⟨m, a.toNat, rfl, by omega, hm, by omega⟩
    · rw [leaves_out hh]
      simp only [Option.bind_some]
      rw [decide_eq_false (by omega)]
  · rw [if_neg a0]
theorem mayLeaf_no {h a : Int} (no : ¬ Ok h a) : oubref7_MayLeaf.f h a = some false := by
  unfold oubref7_MayLeaf.f
  by_cases hh : 0 ≤ h ∧ h ≤ 6
  · obtain ⟨m, rfl, hm⟩ := ok_range hh.1 hh.2
    rw [mayH_in m hm]
    simp only [Option.bind_some, if_true]
    by_cases a0 : a ≥ 0
    · rw [if_pos a0, if_pos (shl_in m hm).2, (shl_in m hm).1, decide_eq_false]
      intro hlt
      exact no ⟨m, a.toNat, rfl, by omega, hm, by omega⟩
    · rw [if_neg a0]
  · rw [mayH_out hh]; rfl
theorem paths_no {h a : Int} (no : ¬ Ok h a) (k : Nat) : tree_Path.f k h a = some [] ∧ oubref7_Path.f k h a = some [] := by
  constructor
  · unfold tree_Path.f; rw [is_no no]; rfl
  · unfold oubref7_Path.f; rw [mayLeaf_no no]; rfl

theorem paths_any (h a : Int) (k : Nat) (hk : 20 ≤ k) : ∃ p : List Int, tree_Path.f k h a = some p ∧ oubref7_Path.f k h a = some p ∧ p.length ≤ 7 := by
  by_cases ok : Ok h a
  · obtain ⟨p, h1, h2, h3⟩ := paths_ok ok
    exact ⟨p, at_rounds (tree_Path.mono h a) hk h1, at_rounds (oubref7_Path.mono h a) hk h2, h3⟩
  · exact ⟨[], (paths_no ok k).1, (paths_no ok k).2, by simp⟩

theorem shared_any (h a b : Int) (k : Nat) (hk : 20 ≤ k) : ∃ r, tree_Shared.f k h a b = some r ∧ oubref7_Shared.f k h a b = some r := by
  by_cases oka : Ok h a
  · by_cases okb : Ok h b
    · obtain ⟨r, h1, h2⟩ := shared_ok oka okb
      exact ⟨r, at_rounds (tree_Shared.mono h a b) hk h1, at_rounds (oubref7_Shared.mono h a b) hk h2⟩
    · obtain ⟨p, hp, hp', hl⟩ := paths_any h a k hk
      obtain ⟨k, rfl⟩ : ∃ m, k = m + 1 := ⟨k - 1, by omega⟩
      refine ⟨-1, ?_, ?_⟩
      · unfold tree_Shared.f
        obtain ⟨m, n, rfl, rfl, hm, hn⟩ := oka
        have hi : tree_is.f (m : Int) (n : Int) = some true := by
          unfold tree_is.f; rw [if_pos (by omega), leaves_in m hm]; simp only [Option.bind_some]; rw [decide_eq_true (by omega)]
        rw [hi]
        simp only [Option.bind_some, if_true]
        rw [is_no okb]
        rfl
      · unfold oubref7_Shared.f
        rw [hp', (paths_no okb (k + 1)).2]
        simp only [Option.bind_some, oubref7_Shared.l0]
        split
        · rw [if_neg]
          have : wrap64 ((-1 : Int) + 1) = 0 := by decide +kernel
          rw [this]; simp
        · rfl
  · obtain ⟨p, hp, hp', hl⟩ := paths_any h b k hk
    obtain ⟨k, rfl⟩ : ∃ m, k = m + 1 := ⟨k - 1, by omega⟩
    refine ⟨-1, ?_, ?_⟩
    · unfold tree_Shared.f
      rw [is_no oka]
      rfl
    · unfold oubref7_Shared.f
      rw [hp', (paths_no oka (k + 1)).2]
      simp only [Option.bind_some, oubref7_Shared.l0]
      rw [if_neg]
      have : wrap64 ((-1 : Int) + 1) = 0 := by decide +kernel
      rw [this]; simp

theorem wrap_ok {z : Int} (h0 : -9223372036854775808 ≤ z) (h1 : z ≤ 9223372036854775807) : wrap64 z = z := by unfold wrap64; omega

theorem level_any (n : Nat) : ∀ (k : Nat) (x y : Int), x < ((2 ^ n : Nat) : Int) → x ≤ 9223372036854775807 → n < k → ∃ r, tree_Level.l0 k x y = some r ∧ oubref7_Level.l0 k x y = some r := by
  induction n with
  | zero =>
    intro k x y hx hx' hk
    obtain ⟨k, rfl⟩ : ∃ m, k = m + 1 := ⟨k - 1, by omega⟩
    refine ⟨y, ?_, ?_⟩
    · simp only [tree_Level.l0]; rw [if_neg (by omega)]
    · simp only [oubref7_Level.l0]; rw [if_neg (by omega)]
  | succ n ih =>
    intro k x y hx hx' hk
    obtain ⟨k, rfl⟩ : ∃ m, k = m + 1 := ⟨k - 1, by omega⟩
    simp only [tree_Level.l0, oubref7_Level.l0]
    by_cases h0 : x > 0
    · rw [if_pos h0, if_pos h0]
      apply ih
      · rw [wrap_ok (z := x - 1) (by omega) (by omega), Int.tdiv_eq_ediv_of_nonneg (by omega), wrap_ok (by omega) (by omega)]
        rw [Nat.pow_succ] at hx
        omega
      · rw [wrap_ok (z := x - 1) (by omega) (by omega), Int.tdiv_eq_ediv_of_nonneg (by omega), wrap_ok (by omega) (by omega)]
        omega
      · omega
    · exact ⟨y, by rw [if_neg h0], by rw [if_neg h0]⟩

theorem has_any (p : List Int) (b : Int) (hp : p.length ≤ 7) (n : Nat) : ∀ (k : Nat) (i : Int), 0 ≤ i → (p.length : Int) - i ≤ n → n < k →
    ∃ r : Int, slices_Index_int_int.l0 k p b p.length i = some r ∧ oubref_Has.l0 k p b i = some (decide (r ≥ 0)) := by
  induction n with
  | zero =>
    intro k i h0 hn hk
    obtain ⟨k, rfl⟩ : ∃ m, k = m + 1 := ⟨k - 1, by omega⟩
    refine ⟨-1, ?_, ?_⟩
    · simp only [slices_Index_int_int.l0]; rw [if_neg (by omega)]
    · simp only [oubref_Has.l0]; rw [if_neg (by omega)]; rfl
  | succ n ih =>
    intro k i h0 hn hk
    obtain ⟨k, rfl⟩ : ∃ m, k = m + 1 := ⟨k - 1, by omega⟩
    simp only [slices_Index_int_int.l0, oubref_Has.l0]
    by_cases hi : i < (p.length : Int)
    · rw [if_pos hi, if_pos h0, if_pos hi, if_pos hi, if_pos h0]
      by_cases he : b = rd p i
      · refine ⟨i, ?_, ?_⟩
        · rw [if_pos he]
        · rw [if_pos he.symm, decide_eq_true h0]
      · rw [if_neg he, if_neg (fun e => he e.symm), wrap_ok (by omega) (by omega)]
        exact ih k (i + 1) (by omega) (by omega) (by omega)
    · refine ⟨-1, ?_, ?_⟩
      · rw [if_neg hi]
      · rw [if_neg hi]; rfl

theorem ints_self (p : List Int) (hp : p.length ≤ 7) (n : Nat) : ∀ (k : Nat) (i : Int), 0 ≤ i → (p.length : Int) - i ≤ n → n < k → oubref_Ints.l0 k p p i = some true := by
  induction n with
  | zero =>
    intro k i h0 hn hk
    obtain ⟨k, rfl⟩ : ∃ m, k = m + 1 := ⟨k - 1, by omega⟩
    simp only [oubref_Ints.l0]; rw [if_neg (by omega)]
  | succ n ih =>
    intro k i h0 hn hk
    obtain ⟨k, rfl⟩ : ∃ m, k = m + 1 := ⟨k - 1, by omega⟩
    simp only [oubref_Ints.l0]
    by_cases hi : i < (p.length : Int)
    · rw [if_pos hi, if_pos h0, if_pos hi]
      simp only [if_true]
      rw [wrap_ok (by omega) (by omega)]
      exact ih k (i + 1) (by omega) (by omega) (by omega)
    · rw [if_neg hi]

theorem first_any (k : Nat) (hk : 20 ≤ k) : oublaw7_first.f k = some true := at_rounds oublaw7_first.mono hk (by decide +kernel)

theorem buckets_any (h : Int) : ∃ r, tree_Buckets.f h = some r ∧ oubref7_Buckets.f h = some r := by
  by_cases hh : 0 ≤ h ∧ h ≤ 6
  · obtain ⟨m, rfl, hm⟩ := ok_range hh.1 hh.2
    rcases (by omega : m = 0 ∨ m = 1 ∨ m = 2 ∨ m = 3 ∨ m = 4 ∨ m = 5 ∨ m = 6) with rfl | rfl | rfl | rfl | rfl | rfl | rfl
    · exact ⟨1, by decide +kernel, by decide +kernel⟩
    · exact ⟨3, by decide +kernel, by decide +kernel⟩
    · exact ⟨7, by decide +kernel, by decide +kernel⟩
    · exact ⟨15, by decide +kernel, by decide +kernel⟩
    · exact ⟨31, by decide +kernel, by decide +kernel⟩
    · exact ⟨63, by decide +kernel, by decide +kernel⟩
    · exact ⟨127, by decide +kernel, by decide +kernel⟩
  · refine ⟨0, ?_, ?_⟩
    · unfold tree_Buckets.f; rw [leaves_out hh]; simp only [Option.bind_some]; decide +kernel
    · unfold oubref7_Buckets.f; rw [mayH_out hh]; rfl

theorem bound_of {a : Int} (h : (Lit.int .i64 a).wf = true) : a ≤ 9223372036854775807 := by
  have h' : (decide (-9223372036854775808 ≤ a) && decide (a ≤ 9223372036854775807)) = true := h
  simp only [Bool.and_eq_true, decide_eq_true_eq] at h'
  exact h'.2

theorem inner (k : Nat) (hk : 100 ≤ k) (h a b c x : Int) (hc : c ≤ 9223372036854775807) (hx : tree_Leaves.f h = some x) : oublaw7_TreeTells.j0 (k + 1) h a b c x = some true := by
  obtain ⟨v, hv⟩ : ∃ v, oubref7_MayHeight.f h = some v := by unfold oubref7_MayHeight.f; split <;> exact ⟨_, rfl⟩
  obtain ⟨n, hn, hn'⟩ := buckets_any h
  obtain ⟨p, hp, hp', hl⟩ := paths_any h a k (by omega)
  obtain ⟨s, hs, hs'⟩ := shared_any h a b k (by omega)
  obtain ⟨r, hr, hr'⟩ : ∃ r, tree_Level.f k c = some r ∧ oubref7_Level.f k c = some r := by
    unfold tree_Level.f oubref7_Level.f
    by_cases c0 : c < 0
    · exact ⟨-1, by rw [if_pos c0], by rw [if_pos c0]⟩
    · rw [if_neg c0, if_neg c0]
      exact level_any 63 k c 0 (by have : (2 ^ 63 : Nat) = 9223372036854775808 := rfl; omega) hc (by omega)
  obtain ⟨o, ho, ho'⟩ : ∃ o, tree_On.f k h c a = some o ∧ oubref7_On.f k h c a = some o := by
    obtain ⟨i, hi, hi'⟩ := has_any p c hl 7 k 0 (by omega) (by omega) (by omega)
    refine ⟨decide (i ≥ 0), ?_, ?_⟩
    · unfold tree_On.f slices_Contains_int_int.f slices_Index_int_int.f; rw [hp]; simp only [Option.bind_some]; rw [hi]; rfl
    · unfold oubref7_On.f oubref_Has.f; rw [hp']; simp only [Option.bind_some]; rw [hi']; rfl
  have he : oubref_Ints.f k p p = some true := by
    unfold oubref_Ints.f; rw [if_pos rfl]; exact ints_self p hl 7 k 0 (by omega) (by omega) (by omega)
  simp only [oublaw7_TreeTells.j0]
  rw [first_any k (by omega)]
  simp only [Option.bind_some, if_true]
  rw [may_eq, hv]
  simp only [Option.bind_some]
  rw [if_pos (by simp), hn, hn']
  simp only [Option.bind_some, if_true]
  rw [hx]
  simp only [Option.bind_some, if_true]
  rw [hp, hp']
  simp only [Option.bind_some]
  rw [he]
  simp only [Option.bind_some, if_true]
  rw [hr, hr']
  simp only [Option.bind_some, if_true]
  rw [ho, ho']
  simp only [Option.bind_some]
  rw [if_pos (by simp), hs, hs']
  simp

theorem TreeTells : oublaw7_TreeTells.Pure := by
  intro h a b c _ _ _ wc
  have hc := bound_of wc
  obtain ⟨k, hk⟩ : ∃ k : Nat, 100 ≤ k := ⟨100, Nat.le_refl _⟩
  refine ⟨k + 1, ?_⟩
  unfold oublaw7_TreeTells.f
  rw [first_any (k + 1) (by omega)]
  simp only [Option.bind_some, if_true]
  by_cases hh : 0 ≤ h ∧ h ≤ 6
  · obtain ⟨m, rfl, hm⟩ := ok_range hh.1 hh.2
    rw [mayH_in m hm]
    simp only [Option.bind_some, if_true]
    rw [if_pos (shl_in m hm).2, (shl_in m hm).1]
    exact inner k hk _ _ _ _ _ hc (leaves_in m hm)
  · rw [mayH_out hh]
    simp only [Option.bind_some]
    exact inner k hk _ _ _ _ _ hc (leaves_out hh)

end Go.Proofs.Ytkeinmbommabbaa.Pure
