/- What the tree's functions come to, as plain lists: paths, who lies on them, unions. -/
import Derived.Test.YtfliapankgdeeaaGreatGx
import Derived.Test.YtfliapankgdeeaaGreatPlain
namespace Go.Proofs.YtfliapankgdeeaaGreat.B
open Go.RowKit Go.Proofs.YtfliapankgdeeaaGreat.G Go.Proofs.YtfliapankgdeeaaGreatW.PrintWords Go.Proofs.YtfliapankgdeeaaGreatW.PrintLast Go.Proofs.YtfliapankgdeeaaGreatW.PrintMore

theorem wrap_ok {z : Int} (h0 : -9223372036854775808 ≤ z) (h1 : z ≤ 9223372036854775807) : wrap64 z = z := by unfold wrap64; omega
theorem rd_drop {l s : List Int} {i : Nat} {a : Int} (h : l.drop i = a :: s) : i < l.length ∧ rd l (i : Int) = a ∧ l.drop (i + 1) = s := by
  have hi : i < l.length := by
    have := congrArg List.length h
    simp only [List.length_drop, List.length_cons] at this
    omega
  refine ⟨hi, ?_, ?_⟩
  · unfold rd
    rw [Int.toNat_natCast, List.getD_eq_getElem?_getD]
    have : (l.drop i)[0]? = some a := by rw [h]; rfl
    rw [List.getElem?_drop] at this
    rw [show i + 0 = i from rfl] at this
    rw [this]; rfl
  · have := congrArg (List.drop 1) h
    rw [List.drop_drop] at this
    simpa [Nat.add_comm] using this
theorem drop_nil {l : List Int} {i : Nat} (h : l.drop i = []) : l.length ≤ i := by
  have := congrArg List.length h
  simp only [List.length_drop, List.length_nil] at this
  omega

/-- The path of a leaf. -/
def pathOf (h a : Nat) : List Int := (List.range (h + 1)).map fun l => ((2 ^ l - 1 + a / 2 ^ (h - l) : Nat) : Int)
def okb (h a : Int) : Bool := decide (0 ≤ h ∧ h ≤ 6 ∧ 0 ≤ a ∧ a.toNat < 2 ^ h.toNat)
def path (h a : Int) : List Int := if okb h a = true then pathOf h.toNat a.toNat else []
def bucketsOf (h : Int) : Nat := if 0 ≤ h ∧ h ≤ 6 then 2 * 2 ^ h.toNat - 1 else 0

theorem ok_of {h a : Int} (ok : okb h a = true) : ∃ m n : Nat, h = m ∧ a = n ∧ m < 7 ∧ n < 2 ^ m := by
  have o := of_decide_eq_true ok
  exact ⟨h.toNat, a.toNat, by omega, by omega, by omega, o.2.2.2⟩
theorem okb_nat {m n : Nat} (hm : m < 7) (hn : n < 2 ^ m) : okb m n = true := decide_eq_true ⟨by omega, by omega, by omega, by simpa using hn⟩

theorem paths_all : ((List.range 7).all fun h => (List.range (2 ^ h)).all fun a => decide (tree_Path.f 20 h a = some (pathOf h a)) && ((pathOf h a).all fun b => decide (0 ≤ b) && decide (b < ((2 * 2 ^ h - 1 : Nat) : Int)))) = true := by decide +kernel

theorem path_nat {m n : Nat} (hm : m < 7) (hn : n < 2 ^ m) : path m n = pathOf m n := by
  unfold path
  rw [if_pos (okb_nat hm hn), Int.toNat_natCast, Int.toNat_natCast]

theorem path_in {h a b : Int} (hb : b ∈ path h a) : 0 ≤ b ∧ b < bucketsOf h := by
  by_cases ok : okb h a = true
  · obtain ⟨m, n, rfl, rfl, hm, hn⟩ := ok_of ok
    rw [path_nat hm hn] at hb
    have t := paths_all
    simp only [List.all_eq_true, List.mem_range, Bool.and_eq_true, decide_eq_true_eq] at t
    have := (t m hm n hn).2 b hb
    unfold bucketsOf
    rw [if_pos ⟨by omega, by omega⟩, Int.toNat_natCast]
    exact this
  · unfold path at hb
    rw [if_neg ok] at hb
    cases hb
theorem path_length (h a : Int) : (path h a).length ≤ 7 := by
  by_cases ok : okb h a = true
  · obtain ⟨m, n, rfl, rfl, hm, hn⟩ := ok_of ok
    rw [path_nat hm hn]
    simp [pathOf]
    omega
  · unfold path
    rw [if_neg ok]
    simp

theorem leaves_in (m : Nat) (hm : m < 7) : tree_Leaves.f m = some ((2 ^ m : Nat) : Int) := by
  rcases (by omega : m = 0 ∨ m = 1 ∨ m = 2 ∨ m = 3 ∨ m = 4 ∨ m = 5 ∨ m = 6) with rfl | rfl | rfl | rfl | rfl | rfl | rfl <;> decide +kernel
theorem leaves_out {h : Int} (hh : ¬ (0 ≤ h ∧ h ≤ 6)) : tree_Leaves.f h = some 0 := by
  unfold tree_Leaves.f tree_May.f
  by_cases h0 : h ≥ 0
  · rw [if_pos h0, decide_eq_false (by omega)]; rfl
  · rw [if_neg h0]; rfl
theorem shl_in (m : Nat) (hm : m < 7) : shl .i64 1 (IntKind.u64.wrap (m : Int)) = ((2 ^ m : Nat) : Int) ∧ 0 ≤ IntKind.u64.wrap (m : Int) := by
  rcases (by omega : m = 0 ∨ m = 1 ∨ m = 2 ∨ m = 3 ∨ m = 4 ∨ m = 5 ∨ m = 6) with rfl | rfl | rfl | rfl | rfl | rfl | rfl <;> decide +kernel
theorem is_any (h a : Int) : tree_is.f h a = some (okb h a) := by
  unfold tree_is.f okb
  by_cases a0 : a ≥ 0
  · rw [if_pos a0]
    by_cases hh : 0 ≤ h ∧ h ≤ 6
    · obtain ⟨m, rfl, hm⟩ : ∃ m : Nat, h = m ∧ m < 7 := ⟨h.toNat, by omega, by omega⟩
      rw [leaves_in m hm]
      simp only [Option.bind_some]
      congr 1
      rw [decide_eq_decide, Int.toNat_natCast]
      omega
    · rw [leaves_out hh]
      simp only [Option.bind_some]
      rw [decide_eq_false (by omega), decide_eq_false (by omega)]
  · rw [if_neg a0, decide_eq_false (by omega)]
theorem paths_any (h a : Int) (k : Nat) (hk : 20 ≤ k) : tree_Path.f k h a = some (path h a) := by
  by_cases ok : okb h a = true
  · obtain ⟨m, n, rfl, rfl, hm, hn⟩ := ok_of ok
    rw [path_nat hm hn]
    have t := paths_all
    simp only [List.all_eq_true, List.mem_range, Bool.and_eq_true, decide_eq_true_eq] at t
    exact at_rounds (tree_Path.mono _ _) hk (t m hm n hn).1
  · have no : okb h a = false := by simpa using ok
    have e : path h a = [] := by unfold path; rw [if_neg ok]
    rw [e]
    unfold tree_Path.f; rw [is_any, no]; rfl

theorem buckets_le (h : Int) : bucketsOf h ≤ 127 := by
  unfold bucketsOf
  split
  next hh =>
    obtain ⟨m, rfl, hm⟩ : ∃ m : Nat, h = m ∧ m < 7 := ⟨h.toNat, by omega, by omega⟩
    rw [Int.toNat_natCast]
    rcases (by omega : m = 0 ∨ m = 1 ∨ m = 2 ∨ m = 3 ∨ m = 4 ∨ m = 5 ∨ m = 6) with rfl | rfl | rfl | rfl | rfl | rfl | rfl <;> decide
  next => omega

theorem index_mem (p : List Int) (b : Int) (hp : p.length ≤ 1000) : ∀ (s : List Int) (k i : Nat), p.drop i = s → s.length < k → ∃ r : Int, slices_Index_int_int.l0 k p b p.length i = some r ∧ decide (r ≥ 0) = decide (b ∈ s) := by
  intro s
  induction s with
  | nil =>
    intro k i hs hk
    obtain ⟨k, rfl⟩ : ∃ m, k = m + 1 := ⟨k - 1, by omega⟩
    have := drop_nil hs
    refine ⟨-1, ?_, by simp⟩
    simp only [slices_Index_int_int.l0]
    rw [if_neg (by omega)]
  | cons a s ih =>
    intro k i hs hk
    obtain ⟨k, rfl⟩ : ∃ m, k = m + 1 := ⟨k - 1, by omega⟩
    obtain ⟨hi, hr, hd⟩ := rd_drop hs
    simp only [slices_Index_int_int.l0]
    by_cases e : b = a
    · refine ⟨i, ?_, by simp [e]⟩
      rw [if_pos (by omega), if_pos (by omega), if_pos (by omega), hr, if_pos e]
    · obtain ⟨r, h1, h2⟩ := ih k (i + 1) hd (by simp only [List.length_cons] at hk; omega)
      refine ⟨r, ?_, ?_⟩
      · rw [if_pos (by omega), if_pos (by omega), if_pos (by omega), hr, if_neg e, wrap_ok (by omega) (by omega), show ((i : Int) + 1) = ((i + 1 : Nat) : Int) by omega]
        exact h1
      · rw [h2, decide_eq_decide]
        simp [e]

theorem on_any (h b a : Int) (k : Nat) (hk : 30 ≤ k) : tree_On.f k h b a = some (decide (b ∈ path h a)) := by
  have hl := path_length h a
  unfold tree_On.f slices_Contains_int_int.f slices_Index_int_int.f
  rw [paths_any h a k (by omega)]
  simp only [Option.bind_some]
  obtain ⟨r, h1, h2⟩ := index_mem (path h a) b (by omega) _ k 0 rfl (by simp; omega)
  rw [show ((0 : Nat) : Int) = 0 from rfl] at h1
  rw [h1]
  simp only [Option.bind_some]
  rw [h2]; rfl

theorem ints_self (p : List Int) (hp : p.length ≤ 1000000) : ∀ (s : List Int) (k i : Nat), p.drop i = s → s.length < k → oubref_Ints.l0 k p p i = some true := by
  intro s
  induction s with
  | nil =>
    intro k i hs hk
    obtain ⟨k, rfl⟩ : ∃ m, k = m + 1 := ⟨k - 1, by omega⟩
    have := drop_nil hs
    simp only [oubref_Ints.l0]
    rw [if_neg (by omega)]
  | cons a s ih =>
    intro k i hs hk
    obtain ⟨k, rfl⟩ : ∃ m, k = m + 1 := ⟨k - 1, by omega⟩
    obtain ⟨hi, hr, hd⟩ := rd_drop hs
    simp only [oubref_Ints.l0]
    rw [if_pos (by omega), if_pos (by omega), if_pos (by omega), if_pos trivial, wrap_ok (by omega) (by omega), show ((i : Int) + 1) = ((i + 1 : Nat) : Int) by omega]
    exact ih k (i + 1) hd (by simp only [List.length_cons] at hk; omega)
theorem ints_same (p : List Int) (hp : p.length ≤ 1000000) (k : Nat) (hk : p.length < k) : oubref_Ints.f k p p = some true := by
  unfold oubref_Ints.f
  rw [if_pos rfl]
  exact ints_self p hp _ k 0 rfl (by simpa using hk)

/-- The union of paths, by rising bucket. -/
def unionOf (h : Int) (l : List Int) : List Int := if l.all (okb h) = true then ((List.range (bucketsOf h)).map Int.ofNat).filter fun b => l.any fun a => decide (b ∈ path h a) else []

theorem range_strict (n : Nat) : ((List.range n).map Int.ofNat).Pairwise (· < ·) := by
  rw [List.pairwise_map]
  exact List.pairwise_lt_range.imp (fun h => by show (Int.ofNat _) < (Int.ofNat _); simpa using h)

theorem union_is (h : Int) (l : List Int) (ok : l.all (okb h) = true) : L.dd (L.isort (l.flatMap (path h))) = unionOf h l := by
  unfold unionOf
  rw [if_pos ok]
  refine L.strict_ext (L.dd_strict _ (L.isort_sorted _)) ((range_strict _).filter _) (fun x => ?_)
  rw [L.dd_mem, L.mem_isort, List.mem_flatMap, List.mem_filter, List.any_eq_true]
  constructor
  · rintro ⟨a, ha, hx⟩
    have := path_in hx
    refine ⟨List.mem_map.2 ⟨x.toNat, List.mem_range.2 (by omega), by simp; omega⟩, a, ha, by simpa using hx⟩
  · rintro ⟨_, a, ha, hx⟩
    exact ⟨a, ha, by simpa using hx⟩

theorem flat_length (h : Int) (l : List Int) : (l.flatMap (path h)).length ≤ 7 * l.length := by
  induction l with
  | nil => simp
  | cons a t ih =>
    have := path_length h a
    simp only [List.flatMap_cons, List.length_append, List.length_cons]
    omega

theorem union_loop (h : Int) (l : List Int) (hl : l.length ≤ 100000) : ∀ (s : List Int) (k i : Nat) (acc : List Int), l.drop i = s → i + s.length = l.length → acc.length ≤ 7 * i → s.length + 20 < k →
    tree_Union.l0 k h acc l (l.length : Int) i = some (if s.all (okb h) = true then L.dd (L.isort (acc ++ s.flatMap (path h))) else []) := by
  intro s
  induction s with
  | nil =>
    intro k i acc hs hil ha hk
    obtain ⟨k, rfl⟩ : ∃ m, k = m + 1 := ⟨k - 1, by omega⟩
    simp only [List.length_nil] at hil
    simp only [tree_Union.l0]
    rw [if_neg (by omega)]
    simp only [List.all_nil, if_true, List.flatMap_nil, List.append_nil]
    have hb : acc.length < 4611686018427387904 := by omega
    have hsl : slices_Sort_int_int.f acc = some (L.isort acc) := by unfold slices_Sort_int_int.f; rw [if_pos hb]
    have hcl : slices_Compact_int_int.f (L.isort acc) = some (L.dd (L.isort acc)) := by unfold slices_Compact_int_int.f; rw [if_pos (by rw [L.isort_length]; exact hb)]
    rw [hsl]; simp only [Option.bind_some]
    rw [hcl]; rfl
  | cons a s ih =>
    intro k i acc hs hil ha hk
    obtain ⟨k, rfl⟩ : ∃ m, k = m + 1 := ⟨k - 1, by omega⟩
    obtain ⟨hi, hr, hd⟩ := rd_drop hs
    simp only [List.length_cons] at hil hk
    simp only [tree_Union.l0]
    rw [if_pos (by omega), if_pos (by omega), if_pos (by omega), hr, is_any]
    simp only [Option.bind_some]
    by_cases ok : okb h a = true
    · rw [if_pos ok, paths_any h a k (by omega)]
      simp only [Option.bind_some]
      have hp := path_length h a
      rw [if_pos (by omega), wrap_ok (by omega) (by omega), show ((i : Int) + 1) = ((i + 1 : Nat) : Int) by omega, ih k (i + 1) (acc ++ path h a) hd (by omega) (by rw [List.length_append]; omega) (by omega)]
      rw [List.all_cons, ok, Bool.true_and, List.flatMap_cons, List.append_assoc]
    · rw [if_neg ok, List.all_cons]
      have no : okb h a = false := by simpa using ok
      rw [no]
      rfl

theorem union_any (h : Int) (l : List Int) (hl : l.length ≤ 100000) (k : Nat) (hk : l.length + 20 < k) : tree_Union.f k h l = some (unionOf h l) := by
  unfold tree_Union.f
  have u := union_loop h l hl l k 0 [] rfl (by omega) (by simp) hk
  rw [show ((0 : Nat) : Int) = 0 from rfl] at u
  rw [u]
  by_cases ok : l.all (okb h) = true
  · rw [if_pos ok, List.nil_append, union_is h l ok]
  · rw [if_neg ok]
    unfold unionOf
    rw [if_neg ok]

theorem union_length (h : Int) (l : List Int) : (unionOf h l).length ≤ 127 := by
  have := buckets_le h
  unfold unionOf
  split
  · exact Nat.le_trans (List.length_filter_le _ _) (by simp; omega)
  · simp

theorem path_pos (h a : Int) : (0 < (path h a).length) ↔ okb h a = true := by
  unfold path
  by_cases ok : okb h a = true
  · rw [if_pos ok]
    simp [pathOf, ok]
  · rw [if_neg ok]
    simp [ok]
theorem leaf_any (h a : Int) (k : Nat) (hk : 20 ≤ k) : evict_leaf.f k h a = some (okb h a) := by
  unfold evict_leaf.f
  rw [paths_any h a k hk, Option.bind_some]
  congr 1
  by_cases ok : okb h a = true
  · rw [ok]
    exact decide_eq_true (by have := (path_pos h a).2 ok; omega)
  · rw [Bool.eq_false_iff.2 ok]
    exact decide_eq_false (fun q => ok ((path_pos h a).1 (by omega)))
theorem may_any (h : Int) : tree_May.f h = some (decide (0 ≤ h ∧ h ≤ 6)) := by
  unfold tree_May.f
  by_cases h1 : h ≥ 0
  · rw [if_pos h1]
    congr 1
    exact decide_eq_decide.2 (by omega)
  · rw [if_neg h1, decide_eq_false (by omega)]
end Go.Proofs.YtfliapankgdeeaaGreat.B
