/- slices.Sort and slices.Compact at []int in the form in which print.sh tells contracts: each a plain function on lists, and that the call comes to it. Out of the shelf's contracts. -/
import Derived.Sort.OwnSortedInts
import Derived.Test.YtfliapankgdeeaaGreatPlain
import Derived.Test.YtfliapankgdeeaaGreatWMore
import Derived.Test.YtfliapankgdeeaaGreatWKept
import Derived.Test.YtfliapankgdeeaaGreatShelf
namespace Go.Proofs.YtfliapankgdeeaaGreat.G
open Go.RowKit Go.Sort Go.Proofs.YtfliapankgdeeaaGreatW.PrintWords Go.Proofs.YtfliapankgdeeaaGreatW.PrintLast Go.Proofs.YtfliapankgdeeaaGreatW.PrintMore

def slices_Sort_int_int.f (l0 : List Int) : Option (List Int) := if l0.length < 4611686018427387904 then some (L.isort l0) else none

theorem kept_of_grown {w w' : World} {v : Value} {P0_ : Nat → Prop} (hg : w.grownBy w' v.ownBlock) (h0 : ∀ k, v.ownBlock = some k → P0_ k) : Kept w w' (fun k_ => P0_ k_) :=
  Kept.of_grown hg (Kept.refl w _) (fun k hk => .inl (h0 k hk))

theorem grow_nil (w : World) : grow w #[] = w := by cases w; simp [grow]

theorem owns_cut {w : World} {base g cap n m : Nat} {e : TypeId} {xs : List Value} (h : w.ownsRow base e 1 (.slice (some ⟨g, 0, none⟩) n cap) n xs) (hm : m ≤ n) : w.ownsRow base e 1 (.slice (some ⟨g, 0, none⟩) m cap) m (xs.take m) := by
  rcases h with ⟨hl, ⟨h, _⟩ | ⟨g', cap', cur, hv, hb, hh, h1, h2, h3, h4⟩⟩
  · cases h
  · cases hv
    refine ⟨by rw [List.length_take]; omega, .inr ⟨g, cap, cur, rfl, hb, hh, by omega, h2, h3, ?_⟩⟩
    rw [← h4, List.take_take, Nat.mul_one, Nat.mul_one, Nat.min_eq_left hm]

theorem slices_Sort_int_int.calls (P0_ : Nat → Prop) (u9000_ : Value) (l0 : List Int) (r : List Int) (w0 w : World) (hB : Below w0.heap.size w0 w) (ho0 : Kd.R (Kd.int .i64) 3 w w0.heap.size P0_ u9000_ l0) (h : slices_Sort_int_int.f l0 = some r) :
    Calls Tryz.prog 43 #[u9000_] w fun e w' => e = .returned (.tuple #[]) ∧ Kd.R (Kd.int .i64) 3 w' w0.heap.size (fun k_ => (P0_ k_ ∨ w.heap.size ≤ k_)) u9000_ r ∧ Below w0.heap.size w0 w' ∧ Kept w w' (fun k_ => P0_ k_) := by
  unfold slices_Sort_int_int.f at h
  split at h
  case isFalse => cases h
  case isTrue hlt =>
  obtain rfl := Option.some.inj h
  rw [L.isort_merge]
  have hown := Kd.own_of_R ho0
  have h0 := ho0.1
  rcases hown with ⟨hl, ⟨hv, hn⟩ | ⟨g, cap, cur, hv, hbase, hb, h1, h2, h3, h4⟩⟩
  · subst hv
    obtain rfl : l0 = [] := List.eq_nil_of_length_eq_zero hn
    refine (Tryz.slices_Sort_int_none none 0 w).mono ?_
    rintro e w' ⟨rfl, rfl⟩
    rw [List.mergeSort_nil]
    exact ⟨rfl, Kd.R_nil _ _ _ _ _, hB, Kept.refl _ _⟩
  · subst hv
    refine (Tryz.slices_Sort_int g 0 cap l0 w (holds_of_blockI hb (by simpa [encs] using h4)) (Array.getElem?_eq_some_iff.1 hb).1 hlt).mono ?_
    rintro e w' ⟨rfl, n, os, rfl⟩
    have hg := grownBy_sortedI (w := w) (g := g) (n := n) (os := os) (l0.mergeSort fun x y => decide (x ≤ y)).toArray
    have hs := ownsRow_sortedI (w := w) (n := n) (os := os) (ts := l0.mergeSort fun x y => decide (x ≤ y)) (by simp) hbase hb h1 h2 h3
    refine ⟨rfl, Kd.R_of_own (by simpa [encs] using hs) (fun k hk => .inl (h0 k hk)), hB.grown hg hB.size (fun j hj => by cases hj; exact hbase), kept_of_grown (v := .slice (some ⟨g, 0, none⟩) l0.length cap) hg h0⟩

def slices_Compact_int_int.f (l0 : List Int) : Option (List Int) := if l0.length < 4611686018427387904 then some (L.dd l0) else none

theorem slices_Compact_int_int.calls (P0_ : Nat → Prop) (u9000_ : Value) (l0 : List Int) (r : List Int) (w0 w : World) (hB : Below w0.heap.size w0 w) (ho0 : Kd.R (Kd.int .i64) 3 w w0.heap.size P0_ u9000_ l0) (h : slices_Compact_int_int.f l0 = some r) :
    Calls Tryz.prog 44 #[u9000_] w fun e w' => ∃ v0_ : Value, e = .returned (v0_) ∧ Kd.R (Kd.int .i64) 3 w' w0.heap.size (fun k_ => (P0_ k_ ∨ w.heap.size ≤ k_)) v0_ r ∧ Below w0.heap.size w0 w' ∧ Kept w w' (fun k_ => P0_ k_) := by
  unfold slices_Compact_int_int.f at h
  split at h
  case isFalse => cases h
  case isTrue hlt =>
  obtain rfl := Option.some.inj h
  rw [← L.dd_compact]
  have hown := Kd.own_of_R ho0
  have h0 := ho0.1
  rcases hown with ⟨hl, ⟨hv, hn⟩ | ⟨g, cap, cur, hv, hbase, hb, h1, h2, h3, h4⟩⟩
  · subst hv
    obtain rfl : l0 = [] := List.eq_nil_of_length_eq_zero hn
    refine (Tryz.slices_Compact_int_empty none 0 w).mono ?_
    rintro e w' ⟨rfl, rfl⟩
    exact ⟨_, rfl, Kd.R_nil _ _ _ _ _, hB, Kept.refl _ _⟩
  · subst hv
    refine (Tryz.slices_Compact_int g 0 cap l0 w (holds_of_blockI hb (by simpa [encs] using h4)) (by omega) h1).mono ?_
    rintro e w' ⟨rfl, n, rfl⟩
    have hle : (Lib.compact l0).length ≤ l0.length := by simp only [Lib.compact, Lib.compactUpTo, List.length_map]; exact Nat.le_trans (List.length_filter_le _ _) (by simp)
    rw [← grow_nil (putRow _ _ _ _ _)]
    have hg := grownBy_sortedI (w := w) (g := g) (n := n) (os := #[]) (Lib.compact l0 ++ List.replicate (l0.length - (Lib.compact l0).length) 0).toArray
    have hs := ownsRow_sortedI (w := w) (n := n) (os := #[]) (ts := Lib.compact l0 ++ List.replicate (l0.length - (Lib.compact l0).length) 0) (by simp; omega) hbase hb h1 h2 h3
    have hs2 := owns_cut hs hle
    refine ⟨_, rfl, Kd.R_of_own (by simpa [encs] using hs2) (fun k hk => .inl (h0 k hk)), hB.grown hg hB.size (fun j hj => by cases hj; exact hbase), kept_of_grown (v := .slice (some ⟨g, 0, none⟩) l0.length cap) hg h0⟩
end Go.Proofs.YtfliapankgdeeaaGreat.G
