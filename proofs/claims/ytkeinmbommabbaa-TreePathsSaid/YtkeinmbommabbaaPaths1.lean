/- Facts on all pairs of leaves of all trees, reckoned; and the loops of the law TreePaths. -/
import Derived.Test.YtkeinmbommabbaaPaths0
namespace Go.Proofs.Ytkeinmbommabbaa.B7P
open Go.RowKit Go.Proofs.Ytkeinmbommabbaa.R Go.Proofs.YtkeinmbommabbaaW.PrintWords Go.Proofs.YtkeinmbommabbaaW.PrintLast Go.Proofs.Ytkeinmbommabbaa.B7R

theorem pair_ok {h a b : Nat} (hh : h < 7) (ha : a < 2 ^ h) (hb : b < 2 ^ h) (k : Nat) (hk : 20 ≤ k) :
    ∃ s : Int, tree_Shared.f k (h : Int) (a : Int) (b : Int) = some s ∧ (∀ i, i < h + 1 → levelB h a b s i = true) ∧ (((a : Int) == (b : Int)) == (s == (h : Int))) = true := by
  have t := pairs_all
  simp only [List.all_eq_true, List.mem_range] at t
  have s := t h hh a ha b hb
  unfold pairB at s
  split at s
  next r e =>
    simp only [Bool.and_eq_true, decide_eq_true_eq, List.all_eq_true, List.mem_range] at s
    exact ⟨r, at_rounds (tree_Shared.mono _ _ _) hk e, s.1, s.2⟩
  next => cases s

/-- Flags: which of so many are in. -/
def fl (B : Nat) (S : Nat → Bool) : List Bool := (List.range B).map S
theorem fl_length (B : Nat) (S : Nat → Bool) : (fl B S).length = B := by simp [fl]
theorem fl_set (B : Nat) (S : Nat → Bool) (b : Nat) : (fl B S).set b true = fl B fun x => S x || decide (x = b) := by
  apply List.ext_getElem
  · simp [fl]
  · intro i h1 h2
    simp only [fl, List.getElem_set, List.getElem_map, List.getElem_range]
    by_cases e : b = i
    · rw [if_pos e, decide_eq_true e.symm, Bool.or_true]
    · rw [if_neg e, decide_eq_false (fun x => e x.symm), Bool.or_false]
theorem fl_congr (B : Nat) {S S' : Nat → Bool} (h : ∀ x, S x = S' x) : fl B S = fl B S' := by rw [funext h]
theorem fl_at (B : Nat) (S : Nat → Bool) (i : Nat) (hi : i < B) : rdOf false (fl B S) (i : Int) = S i := by
  unfold rdOf fl
  rw [Int.toNat_natCast, List.getD_eq_getElem?_getD]
  simp [hi]
theorem fl_zero (B : Nat) : List.replicate B false = fl B fun _ => false := by
  apply List.ext_getElem
  · simp [fl]
  · intro i h1 h2
    simp [fl]

section
variable (h a b : Int) (l : List Int) (s : Int) (K : Nat)

theorem sets (B : Nat) (i : Nat) (hi : i < 100) (R : Option Bool) (p : List Int) (hp : ∀ x ∈ p, 0 ≤ x ∧ x < (B : Int)) (hpl : p.length ≤ 7) (S0 : Nat → Bool)
    (next : ∀ k, K ≤ k → ∀ S' : Nat → Bool, (∀ x, S' x = (S0 x || decide ((x : Int) ∈ p))) → oublaw7_TreePaths.l1 k h a b l s (fl B S') ((i + 1 : Nat) : Int) = R) :
    ∀ (t : List Int) (k j : Nat) (S : Nat → Bool), p.drop j = t → (∀ x, (S x || decide ((x : Int) ∈ t)) = (S0 x || decide ((x : Int) ∈ p))) → K + t.length < k → oublaw7_TreePaths.l2 k h a b l s (fl B S) i p j = R := by
  intro t
  induction t with
  | nil =>
    intro k j S hd hS hk
    obtain ⟨k, rfl⟩ : ∃ m, k = m + 1 := ⟨k - 1, by omega⟩
    have := drop_nil hd
    simp only [oublaw7_TreePaths.l2]
    rw [if_neg (by omega), wrap_ok (by omega) (by omega), show ((i : Int) + 1) = ((i + 1 : Nat) : Int) by omega]
    exact next k (by simp only [List.length_nil] at hk; omega) S (fun x => by rw [← hS x]; simp)
  | cons c t ih =>
    intro k j S hd hS hk
    obtain ⟨k, rfl⟩ : ∃ m, k = m + 1 := ⟨k - 1, by omega⟩
    obtain ⟨hj, hr, hd'⟩ := rd_drop hd
    have hc := hp c (List.mem_of_mem_drop (by rw [hd]; exact List.mem_cons_self))
    obtain ⟨n, rfl⟩ : ∃ n : Nat, c = n := ⟨c.toNat, by omega⟩
    simp only [oublaw7_TreePaths.l2]
    rw [if_pos (by omega), if_pos (by omega), hr, fl_length, if_neg (by omega), if_neg (by omega), if_pos (by omega), if_pos (by omega), Int.toNat_natCast, fl_set, wrap_ok (by omega) (by omega), show ((j : Int) + 1) = ((j + 1 : Nat) : Int) by omega]
    refine ih k (j + 1) _ hd' (fun x => ?_) (by simp only [List.length_cons] at hk; omega)
    rw [← hS x, Bool.or_assoc]
    congr 1
    rw [Bool.eq_iff_iff]
    simp only [Bool.or_eq_true, decide_eq_true_eq, List.mem_cons]
    constructor
    · rintro (e | e)
      · exact .inl (by rw [e])
      · exact .inr e
    · rintro (e | e)
      · exact .inl (by omega)
      · exact .inr e

theorem collects (hl : l.length ≤ 60) (hend : ((a == b) == (s == h)) = true) (S : Nat → Bool) (hS : ∀ x, S x = l.any fun c => decide ((x : Int) ∈ path h c)) :
    ∀ (d i k : Nat) (acc : List Int), i + d = bucketsOf h → acc.length ≤ i → acc ++ ((List.range' i d).map Int.ofNat).filter (fun x => l.any fun c => decide (x ∈ path h c)) = unionOf h l → d + 300 < k →
      oublaw7_TreePaths.l3 k h a b l s (fl (bucketsOf h) S) acc i = some true := by
  have hB := buckets_le h
  intro d
  induction d with
  | zero =>
    intro i k acc hi ha he hk
    obtain ⟨k, rfl⟩ : ∃ m, k = m + 1 := ⟨k - 1, by omega⟩
    simp only [oublaw7_TreePaths.l3]
    rw [fl_length, if_neg (by omega), first_any k (by omega)]
    simp only [Option.bind_some, if_true]
    rw [union_any h l (by omega) k (by omega)]
    simp only [Option.bind_some]
    have e : acc = unionOf h l := by rw [← he]; simp
    rw [e, ints_same _ (by have := union_length h l; omega) k (by have := union_length h l; omega)]
    simp only [Option.bind_some, if_true]
    rw [hend]
  | succ d ih =>
    intro i k acc hi ha he hk
    obtain ⟨k, rfl⟩ : ∃ m, k = m + 1 := ⟨k - 1, by omega⟩
    simp only [oublaw7_TreePaths.l3]
    rw [fl_length, if_pos (by omega), if_pos (by omega), fl_at _ _ _ (by omega), wrap_ok (by omega) (by omega), show ((i : Int) + 1) = ((i + 1 : Nat) : Int) by omega]
    rw [List.range'_succ, List.map_cons, List.filter_cons] at he
    by_cases m : (l.any fun c => decide ((i : Int) ∈ path h c)) = true
    · rw [if_pos (by exact m)] at he
      rw [if_pos (by rw [hS]; exact m), if_pos (by omega)]
      exact ih (i + 1) k (acc ++ [(i : Int)]) (by omega) (by rw [List.length_append]; simp; omega) (by rw [List.append_assoc]; exact he) (by omega)
    · rw [if_neg (by exact m)] at he
      rw [if_neg (by rw [hS]; exact m)]
      exact ih (i + 1) k acc (by omega) (by omega) he (by omega)

theorem leaves (hh : 0 ≤ h ∧ h ≤ 6) (hl : l.length ≤ 60) (hend : ((a == b) == (s == h)) = true) :
    ∀ (t : List Int) (i k : Nat) (S : Nat → Bool), l.drop i = t → (l.all (okb h) = t.all (okb h)) → (∀ x, (S x || t.any fun c => decide ((x : Int) ∈ path h c)) = l.any fun c => decide ((x : Int) ∈ path h c)) → 9 * t.length + 500 < k →
      oublaw7_TreePaths.l1 k h a b l s (fl (bucketsOf h) S) i = some true := by
  have hB := buckets_le h
  intro t
  induction t with
  | nil =>
    intro i k S hd hall hS hk
    obtain ⟨k, rfl⟩ : ∃ m, k = m + 1 := ⟨k - 1, by omega⟩
    have := drop_nil hd
    simp only [oublaw7_TreePaths.l1]
    rw [if_neg (by omega)]
    have ok : l.all (okb h) = true := by rw [hall]; rfl
    refine collects h a b l s hl hend S (fun x => by rw [← hS x]; simp) (bucketsOf h) 0 k [] (by omega) (by simp) ?_ (by omega)
    unfold unionOf
    rw [if_pos ok, List.range_eq_range', List.nil_append]
  | cons c t ih =>
    intro i k S hd hall hS hk
    obtain ⟨k, rfl⟩ : ∃ m, k = m + 1 := ⟨k - 1, by omega⟩
    obtain ⟨hi, hr, hd'⟩ := rd_drop hd
    simp only [List.length_cons] at hk
    simp only [oublaw7_TreePaths.l1]
    rw [if_pos (by omega), if_pos (by omega), hr]
    by_cases c0 : c < 0
    · rw [if_pos c0, first_any k (by omega)]; rfl
    · rw [if_neg c0]
      obtain ⟨m, rfl, hm⟩ : ∃ m : Nat, h = m ∧ m < 7 := ⟨h.toNat, by omega, by omega⟩
      rw [leaves_in m hm]
      simp only [Option.bind_some]
      by_cases c1 : c ≥ ((2 ^ m : Nat) : Int)
      · rw [if_pos c1, first_any k (by omega)]; rfl
      · have ok : okb m c = true := decide_eq_true ⟨by omega, by omega, by omega, by rw [Int.toNat_natCast]; omega⟩
        rw [if_neg c1, paths_any _ c k (by omega)]
        simp only [Option.bind_some]
        have r := sets (m : Int) a b l s (9 * t.length + 501) (bucketsOf m) i (by omega) (some true) (path m c) (fun x hx => path_in hx) (path_length _ _) S ?_ (path m c) k 0 S rfl (fun _ => rfl) (by have := path_length m c; omega)
        · rw [show ((0 : Nat) : Int) = 0 from rfl] at r
          exact r
        · intro k' hk' S' hS'
          refine ih (i + 1) k' S' hd' (by rw [hall, List.all_cons, ok, Bool.true_and]) (fun x => ?_) (by omega)
          rw [hS' x, ← hS x, List.any_cons, Bool.or_assoc]
end

theorem levels (h a b : Nat) (l : List Int) (s : Int) (hh : h < 7) (ha : a < 2 ^ h) (hb : b < 2 ^ h) (hl : l.length ≤ 60) (hend : (((a : Int) == (b : Int)) == (s == (h : Int))) = true) (hs : ∀ i, i < h + 1 → levelB h a b s i = true) :
    ∀ (d i k : Nat), i + d = h + 1 → d + 2000 < k → oublaw7_TreePaths.l0 k h a b l (pathOf h a) (pathOf h b) s i = some true := by
  have t := heads_all
  simp only [List.all_eq_true, List.mem_range, Bool.and_eq_true, decide_eq_true_eq] at t
  have la := (t h hh a ha).1.1
  have lb := (t h hh b hb).1.1
  intro d
  induction d with
  | zero =>
    intro i k hi hk
    obtain ⟨k, rfl⟩ : ∃ m, k = m + 1 := ⟨k - 1, by omega⟩
    have hB := buckets_le h
    simp only [oublaw7_TreePaths.l0]
    rw [if_neg (by omega), buckets_any]
    simp only [Option.bind_some]
    rw [if_pos (by omega), Int.toNat_natCast, if_pos (by omega), fl_zero]
    exact leaves h a b l s ⟨by omega, by omega⟩ hl hend l 0 k _ rfl rfl (fun x => by simp) (by omega)
  | succ d ih =>
    intro i k hi hk
    obtain ⟨k, rfl⟩ : ∃ m, k = m + 1 := ⟨k - 1, by omega⟩
    have c := hs i (by omega)
    simp only [levelB, Bool.and_eq_true, decide_eq_true_eq] at c
    obtain ⟨⟨⟨⟨c1, c2⟩, c3⟩, c4⟩, c5⟩ := c
    have lv := at_rounds (tree_Level.mono _) (show 20 ≤ k by omega) c2
    simp only [oublaw7_TreePaths.l0]
    rw [if_pos (by omega), if_pos (by omega), if_pos (by omega), if_pos (by omega), if_neg (by rw [c1]; simp), lv]
    simp only [Option.bind_some, if_true]
    have o1 := on_any (h : Int) (rd (pathOf h a) i) a k (by omega)
    have o2 := on_any (h : Int) (rd (pathOf h b) i) a k (by omega)
    rw [path_nat hh ha] at o1 o2
    rw [decide_eq_true c4] at o1
    have nx := ih (i + 1) k (by omega) (by omega)
    rw [o1, o2]
    simp only [Option.bind_some, if_true]
    rw [c5, wrap_ok (z := (i : Int) + 1) (by omega) (by omega), show ((i : Int) + 1) = ((i + 1 : Nat) : Int) by omega, nx]
    by_cases i0 : (i : Int) > 0
    · have c3' := c3 i0
      rw [if_pos i0, wrap_ok (z := (i : Int) - 1) (by omega) (by omega), if_pos (by omega), if_pos (by omega), if_pos c3']
      rfl
    · rw [if_neg i0]
      rfl

end Go.Proofs.Ytkeinmbommabbaa.B7P
