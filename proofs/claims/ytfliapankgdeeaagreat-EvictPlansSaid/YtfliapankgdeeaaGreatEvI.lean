/- slices.SortStableFunc at a row of buckets that the call owns; slices.DeleteFunc at no item; slices.SortFunc at fills. -/
import Derived.Test.YtfliapankgdeeaaGreatEvH
import Derived.Test.YtfliapankgdeeaaGreatEvX
import Derived.Test.YtfliapankgdeeaaGreatGSort
namespace Go.Proofs.YtfliapankgdeeaaGreat.A
open Go.RowKit Go.Shelf Go.Lib Go.Sort Go.Proofs.YtfliapankgdeeaaGreatW.PrintWords Go.Proofs.YtfliapankgdeeaaGreatW.PrintLast Go.Proofs.YtfliapankgdeeaaGreatW.PrintMore Go.Proofs.YtfliapankgdeeaaGreat.G
set_option linter.unusedVariables false
set_option linter.unusedSimpArgs false

/-- The level of a bucket; deepest first, at one level by number. -/
def lvI (x : Int) : Nat := Nat.log2 (x.toNat + 1)
def leI (x y : Int) : Bool := decide (lvI y < lvI x ∨ (lvI x = lvI y ∧ x ≤ y))
def ordB (u : List Int) : List Int := u.mergeSort leI

theorem bk_list : ∀ u : List Int, (∀ x ∈ u, 0 ≤ x ∧ x < 127) → ∃ l : List Bk, u = l.map fun x => (x.val : Int)
  | [], _ => ⟨[], rfl⟩
  | x :: r, h => by
    obtain ⟨l, rfl⟩ := bk_list r (fun y hy => h y (List.mem_cons_of_mem _ hy))
    have := h x List.mem_cons_self
    exact ⟨⟨x.toNat, by omega⟩ :: l, by simp; omega⟩
theorem le_ltT_leI (x y : Bk) : (!ltT y x) = leI x.val y.val := by
  unfold ltT leI lvI lvB
  simp only [Int.toNat_natCast]
  rw [← decide_not]
  exact decide_eq_decide.2 (by omega)
theorem ordB_map (l : List Bk) : (l.mergeSort fun x y => !ltT y x).map (fun x => (x.val : Int)) = ordB (l.map fun x => (x.val : Int)) :=
  List.map_mergeSort (fun x _ y _ => le_ltT_leI x y)

theorem put_encB (d : Array Bk) (cur : Array Value) : putCells encB 0 d cur = putCells (Value.int .i64) 0 (d.map fun x => (x.val : Int)) cur := by
  unfold putCells
  simp only [Array.size_map]
  apply Array.ext (by simp)
  intro i h1 h2
  simp only [Array.getElem_mapIdx]
  split
  · rename_i h
    rw [getElem!_pos _ _ (by omega), getElem!_pos _ _ (by simp; omega)]
    simp [encB]
  · rfl
theorem world_encB (w : World) (g m : Nat) (d : Array Bk) (os : Array Obj) : sortWorld encB w g 0 m d os = grow (putRow (Value.int .i64) (Sort.ahead w m) g 0 (d.map fun x => (x.val : Int))) os := by
  unfold sortWorld putRow
  rw [show putCells encB 0 d = putCells (Value.int .i64) 0 (d.map fun x => (x.val : Int)) from funext (put_encB d)]

set_option maxHeartbeats 2000000 in
theorem stable_none (p : Option Addr) (cap : Nat) (fv : Value) (w : World) :
    Calls Tryz.prog 45 #[.slice p 0 cap, .int .i64 0, fv] w fun e w' => e = .returned (.tuple #[]) ∧ w' = w := by
  have hi := Tryz.insertionSortCmpFunc_none (α := Int) p cap fv w
  go_enter Tryz.func45, Tryz.ntmps45
  go_wp2
  refine wp_loop_rounds 1 ?_
  rw [rounds_succ]
  go_wp2_with fail
  refine hi.mono ?_
  rintro e w' ⟨rfl, rfl⟩
  go_wp2
  refine wp_loop_rounds 1 ?_
  rw [rounds_succ]
  go_wp2
  go_end0
  exact ⟨rfl, rfl⟩

set_option maxHeartbeats 2000000 in
theorem SortStable_calls (base : Nat) (ok : Nat → Prop) (v : Value) (u : List Int) (w : World) (hR : Kd.R (Kd.int .i64) 3 w base ok v u) (hu : ∀ x ∈ u, 0 ≤ x ∧ x < 127) (hs : u.Pairwise (· < ·)) (hn : u.length ≤ 127) :
    Calls Tryz.prog 17 #[v, .func (.func 18) #[] #[]] w fun e w' => e = .returned (.tuple #[]) ∧ Kd.R (Kd.int .i64) 3 w' base ok v (ordB u) ∧ Eff w w' (fun k => v.ownBlock = some k) := by
  have hown := Kd.own_of_R hR
  have h0 := hR.1
  rcases hown with ⟨hl, ⟨hv, hn0⟩ | ⟨g, cap, cur, hv, hbase, hb, h1, h2, h3, h4⟩⟩
  · subst hv
    obtain rfl : u = [] := List.eq_nil_of_length_eq_zero hn0
    have hc := stable_none none 0 (.func (.func 18) #[] #[]) w
    go_enter Tryz.func17, Tryz.ntmps17
    go_wp2_with fail
    refine hc.mono ?_
    rintro e w' ⟨rfl, rfl⟩
    go_wp2
    go_end0
    exact ⟨rfl, by unfold ordB; rw [List.mergeSort_nil]; exact Kd.R_nil _ _ _ _ _, Eff.refl _ _⟩
  · subst hv
    obtain ⟨l, rfl⟩ := bk_list u hu
    have hgw : g < w.heap.size := (Array.getElem?_eq_some_iff.1 hb).1
    have hlen : (l.map fun x => (x.val : Int)).length = l.length := by simp
    have hH : Holds encB w g 0 l.toArray := by
      have := holds_of_blockI (ss := l.map fun x => (x.val : Int)) hb (by simpa [encs] using h4)
      intro j hj
      have hj' : j < l.length := by simpa using hj
      obtain ⟨c1, c2⟩ := this j (by simpa using hj')
      refine ⟨c1.trans ?_, c2⟩
      rw [getElem!_pos _ _ (by simpa using hj'), getElem!_pos _ _ (by simpa using hj')]
      simp [encB]
    have hd : ∀ i j, i < j → j < l.length → l.toArray[i]!.val < l.toArray[j]!.val := by
      intro i j hij hj
      rw [List.pairwise_iff_getElem] at hs
      have := hs i j (by simp; omega) (by simpa using hj) hij
      rw [getElem!_pos _ _ (by simp; omega), getElem!_pos _ _ (by simpa using hj)]
      simpa using this
    have hst := stable_calls (w := w) (blk := g) (off := 0) (d := l.toArray) l.length cap (by simp) (by simpa using hn) ⟨encB_one, hH, hgw⟩ hd
    rw [hlen] at h0 h1 ⊢
    have h0 := Aside0.mk h0
    have hb := Aside0.mk hb
    have h3 := Aside0.mk h3
    clear hR hu hs hH hd h4 hl
    go_enter Tryz.func17, Tryz.ntmps17
    go_wp2_with fail
    refine hst.mono ?_
    rintro e w' ⟨rfl, d', hp, hso, n, os, rfl⟩
    have hp := Aside0.mk hp
    have hso := Aside0.mk hso
    go_wp2
    go_end0
    have hds : d'.size = l.length := by rw [hp.out.1]; simp
    have hmg := sorted_unique_holds swoT ltT_total l.toArray d' hp.out hso.out
    have e1 : ordB (l.map fun x => (x.val : Int)) = d'.toList.map fun x => (x.val : Int) := by rw [hmg]; exact (ordB_map l).symm
    rw [e1, world_encB]
    have hs2 := ownsRow_sortedI (w := w) (base := base) (n := n) (os := os) (ss := l.map fun x => (x.val : Int)) (ts := d'.toList.map fun x => (x.val : Int)) (by simp [hds]) hbase hb.out (by simpa using h1) h2 h3.out
    have hg := grownBy_sortedI (w := w) (g := g) (n := n) (os := os) (d'.toList.map fun x => (x.val : Int)).toArray
    have e2 : (d'.toList.map fun x => (x.val : Int)).toArray = d'.map fun x => (x.val : Int) := by rw [← Array.toList_map, Array.toArray_toList]
    rw [e2] at hs2 hg
    rw [hlen] at hs2
    refine ⟨rfl, Kd.R_of_own (by simpa [encs, hds] using hs2) h0.out, Eff.grown hg (fun q hq => .inl hq)⟩

set_option maxHeartbeats 2000000 in
theorem IndexFunc_none (A : Option Addr) (c : Nat) (fv : Value) (w : World) :
    Calls Tryz.prog 47 #[.slice A 0 c, fv] w fun e w' => e = .returned (.int .i64 (-1)) ∧ w' = w := by
  go_enter Tryz.func47, Tryz.ntmps47
  go_wp2
  refine wp_loop_rounds 1 ?_
  rw [rounds_succ]
  go_wp2
  go_ret
  exact ⟨rfl, rfl⟩
set_option maxHeartbeats 2000000 in
theorem DeleteFunc_none (A : Option Addr) (c : Nat) (fv : Value) (w : World) :
    Calls Tryz.prog 21 #[.slice A 0 c, fv] w fun e w' => e = .returned (.slice A 0 c) ∧ w' = w := by
  have hi := IndexFunc_none A c fv w
  go_enter Tryz.func21, Tryz.ntmps21
  go_wp2_with fail
  refine hi.mono ?_
  rintro e w' ⟨rfl, rfl⟩
  go_wp2
  go_ret
  exact ⟨rfl, rfl⟩
end Go.Proofs.YtfliapankgdeeaaGreat.A
