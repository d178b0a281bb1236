/- slices.symMergeCmpFunc at []int, under a comparison that agrees with a strict total order across the two parts. -/
import Derived.Test.YtfliapankgdeeaaGreatEvS
namespace Go.Proofs.YtfliapankgdeeaaGreat.A
open Go.RowKit Go.Shelf Go.Lib Go.Sort
set_option linter.unusedVariables false
set_option linter.unusedSimpArgs false

/-- The level of a bucket. -/
def lvB (x : Bk) : Nat := Nat.log2 (x.val + 1)
/-- Deepest first; at one level by number. -/
def ltT (x y : Bk) : Bool := decide (lvB y < lvB x ∨ (lvB x = lvB y ∧ x.val < y.val))
/-- What the program's comparison says. -/
def cfB (x y : Bk) : Int := if lvB y < lvB x then -1 else if lvB x < lvB y then 1 else 0

theorem ltT_iff (x y : Bk) : ltT x y = true ↔ (lvB y < lvB x ∨ (lvB x = lvB y ∧ x.val < y.val)) := by simp [ltT]
theorem ltT_not (x y : Bk) : ltT x y = false ↔ ¬ (lvB y < lvB x ∨ (lvB x = lvB y ∧ x.val < y.val)) := by simp [ltT]
theorem swoT : SWO ltT where
  irrefl x := by rw [ltT_not]; omega
  trans x y z h1 h2 := by rw [ltT_iff] at *; omega
  ntrans x y z h1 h2 := by rw [ltT_not] at *; omega
theorem ltT_total (x y : Bk) (h1 : ltT x y = false) (h2 : ltT y x = false) : x = y := by
  rw [ltT_not] at *
  exact Fin.ext (by omega)

variable {w0 w : World} {blk off : Nat} {d0 d : Array Bk}

/-- Between [a, m) and [m, b) the program's comparison says what the order says. -/
def Agr (a m b : Nat) (d : Array Bk) : Prop := ∀ i j, a ≤ i → i < m → m ≤ j → j < b → (cfB d[j]! d[i]! < 0 ↔ ltT d[j]! d[i]! = true)

theorem ltT_le {x y z : Bk} (h : ltT x y = true) (k : ltT z y = false) : ltT x z = true := by
  rw [ltT_iff] at *; rw [ltT_not] at k; omega
theorem le_ltT {x y z : Bk} (h : ltT y z = true) (k : ltT y x = false) : ltT x z = true := by
  rw [ltT_iff] at *; rw [ltT_not] at k; omega
theorem ltT_asym {x y : Bk} (h : ltT x y = true) : ltT y x = false := by
  rw [ltT_iff] at h; rw [ltT_not]; omega

/-- One element ahead of a sorted part goes to its place. -/
theorem one_left {a i b : Nat} {d d' : Array Bk} (hi : a + 1 ≤ i) (hib : i ≤ b) (hS : SortedIn ltT (a + 1) b d) (h1 : ∀ t, a + 1 ≤ t → t < i → ltT d[t]! d[a]! = true) (h2 : ∀ t, i ≤ t → t < b → ltT d[t]! d[a]! = false)
    (hd : ∀ t, d'[t]! = if a ≤ t ∧ t < i - 1 then d[t + 1]! else if t = i - 1 then d[a]! else d[t]!) : SortedIn ltT a b d' := by
  intro x y hx hxy hy
  rw [hd, hd]
  repeat' split
  all_goals first | (exfalso; omega) | skip
  all_goals first | exact hS _ _ (by omega) (by omega) (by omega) | exact ltT_asym (h1 _ (by omega) (by omega)) | exact h2 _ (by omega) (by omega) | skip

/-- One element behind a sorted part goes to its place. -/
theorem one_right {a i m : Nat} {d d' : Array Bk} (hi : a ≤ i) (him : i ≤ m) (hS : SortedIn ltT a m d) (h1 : ∀ t, a ≤ t → t < i → ltT d[m]! d[t]! = false) (h2 : ∀ t, i ≤ t → t < m → ltT d[m]! d[t]! = true)
    (hd : ∀ t, d'[t]! = if i < t ∧ t ≤ m then d[t - 1]! else if t = i then d[m]! else d[t]!) : SortedIn ltT a (m + 1) d' := by
  intro x y hx hxy hy
  rw [hd, hd]
  repeat' split
  all_goals first | (exfalso; omega) | skip
  all_goals first | exact hS _ _ (by omega) (by omega) (by omega) | exact ltT_asym (h2 _ (by omega) (by omega)) | exact h1 _ (by omega) (by omega) | skip

/-- The middle: where the search stops, the rotation parts what is less from what isn't. -/
theorem cross {a m b mid s e : Nat} {d d1 : Array Bk} (hmid : mid = (a + b) / 2) (he : e = mid + m - s) (ham : a < m) (hmb : m < b) (hL : SortedIn ltT a m d) (hR : SortedIn ltT m b d)
    {s0 r0 : Nat} (hcase : (mid < m ∧ s0 = mid + m - b ∧ r0 = mid) ∨ (m ≤ mid ∧ s0 = a ∧ r0 = m)) (hs0 : s0 ≤ s) (hs1 : s ≤ r0)
    (h1 : ∀ c, s0 ≤ c → c < s → ltT d[mid + m - 1 - c]! d[c]! = false) (h2 : ∀ c, s ≤ c → c < r0 → ltT d[mid + m - 1 - c]! d[c]! = true)
    (hd : ∀ t, d1[t]! = if s ≤ t ∧ t < e then (if t < s + (e - m) then d[t + (m - s)]! else d[t - (e - m)]!) else d[t]!) :
    (a ≤ s ∧ s ≤ mid ∧ s ≤ m ∧ m ≤ e ∧ mid ≤ e ∧ e ≤ b ∧ s + (e - m) = mid) ∧ (∀ x y, a ≤ x → x < mid → mid ≤ y → y < b → ltT d1[y]! d1[x]! = false) := by
  have hb : a ≤ s ∧ s ≤ mid ∧ s ≤ m ∧ m ≤ e ∧ mid ≤ e ∧ e ≤ b ∧ s + (e - m) = mid := by omega
  refine ⟨hb, fun x y hx hxm hmy hy => ?_⟩
  -- the four parts: x in [a, s) or [s, mid); y in [mid, e) or [e, b)
  have hx' : d1[x]! = if s ≤ x then d[x + (m - s)]! else d[x]! := by
    rw [hd]
    repeat' split
    all_goals first | (exfalso; omega) | rfl
  have hy' : d1[y]! = if y < e then d[y - (e - m)]! else d[y]! := by
    rw [hd]
    repeat' split
    all_goals first | (exfalso; omega) | rfl
  rw [hx', hy']
  by_cases hxs : s ≤ x
  · rw [if_pos hxs]
    by_cases hye : y < e
    · rw [if_pos hye]
      -- R1 against L2: by the test at s
      have ht := h2 s (Nat.le_refl _) (by omega)
      have ha : ltT d[mid + m - 1 - s]! d[x + (m - s)]! = false := by
        by_cases hq : x + (m - s) = mid + m - 1 - s
        · rw [hq]; exact swoT.irrefl _
        · exact hR _ _ (by omega) (by omega) (by omega)
      have hb2 : ltT d[y - (e - m)]! d[s]! = false := by
        by_cases hq : s = y - (e - m)
        · rw [← hq]; exact swoT.irrefl _
        · exact hL _ _ (by omega) (by omega) (by omega)
      exact ltT_asym (ltT_le (le_ltT ht ha) hb2)
    · rw [if_neg hye]
      exact hR _ _ (by omega) (by omega) (by omega)
  · rw [if_neg hxs]
    by_cases hye : y < e
    · rw [if_pos hye]
      exact hL _ _ (by omega) (by omega) (by omega)
    · rw [if_neg hye]
      -- L1 against R2: by the test at s - 1
      have ht := h1 (s - 1) (by omega) (by omega)
      have ha : ltT d[s - 1]! d[x]! = false := by
        by_cases hq : x = s - 1
        · rw [hq]; exact swoT.irrefl _
        · exact hL _ _ (by omega) (by omega) (by omega)
      have hb2 : ltT d[y]! d[mid + m - 1 - (s - 1)]! = false := by
        by_cases hq : mid + m - 1 - (s - 1) = y
        · rw [hq]; exact swoT.irrefl _
        · exact hR _ _ (by omega) (by omega) (by omega)
      exact swoT.ntrans _ _ _ (swoT.ntrans _ _ _ hb2 ht) ha

/-- The test along the search is monotone. -/
theorem test_up {a m b n : Nat} {d : Array Bk} (hL : SortedIn ltT a m d) (hR : SortedIn ltT m b d) {c c' : Nat} (hc : a ≤ c) (hcc : c ≤ c') (hc' : c' < m) (h1 : m ≤ n - 1 - c') (h2 : n - 1 - c < b) (h : ltT d[n - 1 - c]! d[c]! = true) : ltT d[n - 1 - c']! d[c']! = true := by
  by_cases hq : c = c'
  · subst hq; exact h
  have ha : ltT d[c']! d[c]! = false := hL _ _ hc (by omega) hc'
  have hb : ltT d[n - 1 - c]! d[n - 1 - c']! = false := by
    by_cases hq2 : n - 1 - c' = n - 1 - c
    · rw [hq2]; exact swoT.irrefl _
    · exact hR _ _ h1 (by omega) h2
  exact le_ltT (ltT_le h ha) hb

/-- Both halves sorted, nothing of the upper below anything of the lower: all sorted. -/
theorem halves {a mid b : Nat} {d1 d2 d3 : Array Bk} (h1 : a ≤ mid) (h2 : mid ≤ b) (hsz : b ≤ d1.size) (hX : ∀ x y, a ≤ x → x < mid → mid ≤ y → y < b → ltT d1[y]! d1[x]! = false)
    (P2 : PermIn a mid d1 d2) (S2 : SortedIn ltT a mid d2) (P3 : PermIn mid b d2 d3) (S3 : SortedIn ltT mid b d3) : PermIn a b d1 d3 ∧ SortedIn ltT a b d3 := by
  have hs2 : d2.size = d1.size := P2.1
  refine ⟨permIn_trans _ _ _ _ _ (permIn_mono _ _ _ _ _ _ (Nat.le_refl _) h2 hsz P2) (permIn_mono _ _ _ _ _ _ h1 (Nat.le_refl _) (by omega) P3), fun i j hi hij hj => ?_⟩
  by_cases hjm : j < mid
  · rw [P3.2.1 j (.inl hjm), P3.2.1 i (.inl (by omega))]
    exact S2 i j hi hij hjm
  · by_cases him : mid ≤ i
    · exact S3 i j him hij hj
    · rw [P3.2.1 i (.inl (by omega))]
      have q := permIn_all d1 d2 a mid (fun x => ∀ y, mid ≤ y → y < b → ltT d1[y]! x = false) (by omega) P2 (fun x hx hxm y hy hyb => hX x y hx hxm hy hyb) i hi (by omega)
      exact permIn_all d2 d3 mid b (fun y => ltT y d2[i]! = false) (by omega) P3 (fun y hy hyb => by rw [P2.2.1 y (.inr hy)]; exact q y hy hyb) j (by omega) hj
end Go.Proofs.YtfliapankgdeeaaGreat.A
