/- slices.SortStableFunc at []int by the deepest level first, over rising buckets: plain part and walk. -/
import Derived.Test.YtfliapankgdeeaaGreatEvV
import Derived.Test.YtfliapankgdeeaaGreatShelf
import Derived.Test.YtfliapankgdeeaaGreatGx
namespace Go.Proofs.YtfliapankgdeeaaGreat.A
open Go.RowKit Go.Shelf Go.Lib Go.Sort
set_option linter.unusedVariables false
set_option linter.unusedSimpArgs false
variable {w0 w : World} {blk off : Nat} {d0 d : Array Bk}

def agr (x y : Bk) : Prop := ltOf cfB x y = ltT x y

theorem cfB_neg (x y : Bk) : cfB x y < 0 ↔ lvB y < lvB x := by
  unfold cfB
  by_cases h1 : lvB y < lvB x
  · simp [h1]
  · by_cases h2 : lvB x < lvB y <;> simp [h1, h2]
theorem agr_lt {x y : Bk} (h : y.val < x.val) : agr x y := by
  unfold agr ltOf ltT
  rw [decide_eq_decide, cfB_neg]
  omega
theorem agr_iff {x y : Bk} (h : y.val < x.val) : cfB x y < 0 ↔ ltT x y = true := by rw [cfB_neg, ltT_iff]; omega

theorem insInner_congr (a : Nat) : ∀ (j : Nat) (d : Array Bk), j < d.size → (∀ k, a ≤ k → k < j → agr d[j]! d[k]!) → insInner (ltOf cfB) a j d = insInner ltT a j d
  | 0, d, _, _ => by rw [insInner, insInner]
  | j + 1, d, hj, h => by
    by_cases ha : j + 1 > a
    · have e : ltOf cfB d[j + 1]! d[j]! = ltT d[j + 1]! d[j]! := h j (by omega) (by omega)
      rw [insInner, insInner, e]
      split
      · refine insInner_congr a j _ (by rw [size_swp]; omega) (fun k hk hkj => ?_)
        rw [swp_right _ _ _ (by omega), swp_other _ _ _ _ (by omega) (by omega)]
        exact h k hk (by omega)
      · rfl
    · rw [insInner, insInner]
      simp [ha]

theorem insInner_perm (a i : Nat) : ∀ (j : Nat) (d : Array Bk), j ≤ i → i < d.size → PermIn a (i + 1) d (insInner ltT a j d)
  | 0, d, _, _ => by rw [insInner]; exact permIn_refl _ _ _
  | j + 1, d, hj, hi => by
    rw [insInner]
    split
    · rename_i h
      have ha : j + 1 > a := by
        by_cases q : j + 1 > a
        · exact q
        · simp [q] at h
      exact permIn_trans _ _ _ _ _ (swp_permIn d a (i + 1) (j + 1) j (by omega) (by omega) (by omega) (by omega) (by omega)) (insInner_perm a i j _ (by omega) (by rw [size_swp]; exact hi))
    · exact permIn_refl _ _ _

theorem insOuter_congr (a b : Nat) : ∀ (n i : Nat) (d : Array Bk), b - i ≤ n → a < i → b ≤ d.size → (∀ k j, a ≤ k → k < i → i ≤ j → j < b → agr d[j]! d[k]!) → (∀ k j, i ≤ k → k < j → j < b → agr d[j]! d[k]!) → insOuter (ltOf cfB) a b i d = insOuter ltT a b i d := by
  intro n
  induction n with
  | zero => intro i d hn ha hb h1 h2; rw [insOuter_stop _ _ _ _ _ (by omega), insOuter_stop _ _ _ _ _ (by omega)]
  | succ n ih =>
    intro i d hn ha hb h1 h2
    by_cases hi : i < b
    · rw [insOuter_go _ _ _ _ _ hi, insOuter_go _ _ _ _ _ hi, insInner_congr a i d (by omega) (fun k hk hki => h1 k i hk hki (Nat.le_refl _) hi)]
      have P := insInner_perm a i i d (Nat.le_refl _) (by omega)
      refine ih (i + 1) _ (by omega) (by omega) (by rw [P.1]; exact hb) (fun k j hk hki hj hjb => ?_) (fun k j hk hkj hj => ?_)
      · rw [P.2.1 j (.inr (by omega))]
        exact permIn_all d _ a (i + 1) (fun x => agr d[j]! x) (by omega) P (fun k hk hki => by
          by_cases q : k = i
          · subst q; exact h2 k j (Nat.le_refl _) (by omega) hjb
          · exact h1 k j hk (by omega) (by omega) hjb) k hk hki
      · rw [P.2.1 j (.inr (by omega)), P.2.1 k (.inr (by omega))]
        exact h2 k j (by omega) hkj hj
    · rw [insOuter_stop _ _ _ _ _ hi, insOuter_stop _ _ _ _ _ hi]

/-- A rising part, put in order. -/
theorem insSort_ok {a b : Nat} {d : Array Bk} (hab : a ≤ b) (hb : b ≤ d.size) (h : ∀ i j, a ≤ i → i < j → j < b → d[i]!.val < d[j]!.val) : PermIn a b d (Sort.insertionSort (ltOf cfB) d a b) ∧ SortedIn ltT a b (Sort.insertionSort (ltOf cfB) d a b) := by
  unfold Sort.insertionSort
  rw [insOuter_congr a b (b - (a + 1)) (a + 1) d (Nat.le_refl _) (by omega) hb (fun k j hk hki hj hjb => agr_lt (h k j hk (by omega) hjb)) (fun k j hk hkj hj => agr_lt (h k j (by omega) hkj hj))]
  exact insertionSort_holds swoT d a b hab hb

/-- One block more is in order. -/
theorem step_blk {g : Nat → Nat} {a b c : Nat} {d d' : Array Bk} (hb : b ≤ d.size) (P : PermIn a b d d') (S : SortedIn ltT a b d') (hg : ∀ i, a ≤ i → i < b → g i = c) (hl : ∀ i, i < a → g i ≠ c)
    (H1 : ∀ i j, i < j → j < a → g i = g j → ltT d[j]! d[i]! = false) (H2 : ∀ i j, g i < g j → j < d.size → i < j → d[i]!.val < d[j]!.val) :
    (∀ i j, i < j → j < b → g i = g j → ltT d'[j]! d'[i]! = false) ∧ (∀ i j, g i < g j → j < d'.size → i < j → d'[i]!.val < d'[j]!.val) := by
  refine ⟨fun i j hij hj he => ?_, fun i j he hj hij => ?_⟩
  · by_cases q : j < a
    · rw [P.2.1 j (.inl q), P.2.1 i (.inl (by omega))]
      exact H1 i j hij q he
    · by_cases q2 : a ≤ i
      · exact S i j q2 hij hj
      · exact absurd (he.trans (hg j (by omega) hj)) (hl i (by omega))
  · rw [P.1] at hj
    by_cases qi : a ≤ i ∧ i < b
    · by_cases qj : a ≤ j ∧ j < b
      · rw [hg i qi.1 qi.2, hg j qj.1 qj.2] at he
        omega
      · rw [P.2.1 j (by omega)]
        exact permIn_all d d' a b (fun x => x.val < d[j]!.val) hb P (fun k hk hkb => H2 k j (by rw [hg k hk hkb, ← hg i qi.1 qi.2]; exact he) hj (by omega)) i qi.1 qi.2
    · rw [P.2.1 i (by omega)]
      by_cases qj : a ≤ j ∧ j < b
      · exact permIn_all d d' a b (fun x => d[i]!.val < x.val) hb P (fun k hk hkb => H2 i k (by rw [hg k hk hkb, ← hg j qj.1 qj.2]; exact he) (by omega) (by omega)) j qj.1 qj.2
      · rw [P.2.1 j (by omega)]
        exact H2 i j he hj hij

theorem lev_all : ((List.range 127).all fun b => decide (G.tree_Level.f 20 (b : Int) = some ((Nat.log2 (b + 1) : Nat) : Int))) = true := by decide +kernel
theorem lev_at (x : Bk) : G.tree_Level.f 20 (x.val : Int) = some ((lvB x : Nat) : Int) := by
  have := List.all_eq_true.1 lev_all x.val (List.mem_range.2 x.isLt)
  exact of_decide_eq_true this
theorem cmp_at (x y : Int) : G.cmp_Compare_int.f x y = some (if x < y then -1 else if x > y then 1 else 0) := by
  unfold G.cmp_Compare_int.f G.cmp_isNaN_int.f
  simp only [Option.bind_some]
  simp
  by_cases h1 : x < y
  · simp [h1]
  · by_cases h2 : y < x <;> simp [h1, h2]

/-- The comparison of levels. -/
theorem Plan1_calls (x y : Bk) (w : World) : Calls Tryz.prog 18 #[encB x, encB y] w fun e w' => e = .returned (.int .i64 (cfB x y)) ∧ ∃ q, w' = w.drewN q := by
  have h1 := fun W => G.tree_Level.calls 20 (y.val : Int) _ W (lev_at y)
  have h2 := fun W => G.tree_Level.calls 20 (x.val : Int) _ W (lev_at x)
  have h3 := fun W => G.cmp_Compare_int.calls (lvB y : Int) (lvB x : Int) _ W (cmp_at _ _)
  have e : (if (lvB y : Int) < (lvB x : Int) then (-1 : Int) else if (lvB y : Int) > (lvB x : Int) then 1 else 0) = cfB x y := by
    unfold cfB
    by_cases q1 : lvB y < lvB x
    · rw [if_pos (by omega), if_pos q1]
    · rw [if_neg (by omega), if_neg q1]
      by_cases q2 : lvB x < lvB y
      · rw [if_pos (by omega), if_pos q2]
      · rw [if_neg (by omega), if_neg q2]
  rw [e] at h3
  generalize cfB x y = r at h3 ⊢
  clear e
  show Calls Tryz.prog 18 #[.int .i64 (x.val : Int), .int .i64 (y.val : Int)] w _
  go_enter Tryz.func18, Tryz.ntmps18
  go_wp2_with fail
  refine (h1 _).mono ?_
  rintro e w1 ⟨rfl, ⟨n1, rfl⟩⟩
  go_wp2_with fail
  refine (h2 _).mono ?_
  rintro e w2 ⟨rfl, ⟨n2, rfl⟩⟩
  go_wp2_with fail
  refine (h3 _).mono ?_
  rintro e w3 ⟨rfl, ⟨n3, rfl⟩⟩
  go_wp2
  go_ret
  exact ⟨rfl, n1 + n2 + n3, rfl⟩

theorem cmpLays (blk off size : Nat) (w : World) : CmpLays1 Tryz.prog 18 #[] encB cfB blk off size w :=
  CmpReads.lays fun m os dk hs x y => Plan1_calls x y _
end Go.Proofs.YtfliapankgdeeaaGreat.A
