/- Plain lemmas on what stands at a key; few is total. -/
import Derived.Test.YtmjbmbhpfckagaaStashF
namespace Go.Proofs.Ytmjbmbhpfckagaa.A
open Go.RowKit Go.Maps Go.Sort Go.Shelf Go.Proofs.YtmjbmbhpfckagaaW.PrintWords Go.Proofs.Ytmjbmbhpfckagaa.B
section
variable {α : Type}
theorem getA_here (k : Int) (y : α) (r : List (Int × α)) : getA k ((k, y) :: r) = some y := by simp [getA]
theorem getA_there {k j : Int} (h : j ≠ k) (y : α) (r : List (Int × α)) : getA k ((j, y) :: r) = getA k r := by simp [getA, h]
theorem getA_below {k : Int} : ∀ {l : List (Int × α)}, (∀ p ∈ l, k < p.1) → getA k l = none
  | [], _ => rfl
  | (j, y) :: r, h => by
    have h1 : k < j := h _ List.mem_cons_self
    rw [getA_there (by omega)]
    exact getA_below (fun p hp => h p (List.mem_cons_of_mem _ hp))
theorem putA_length (k : Int) (x : α) : ∀ {l : List (Int × α)}, Up l → (putA k x l).length = if (getA k l).isSome then l.length else l.length + 1
  | [], _ => by simp [putA, getA]
  | (j, y) :: r, h => by
    obtain ⟨h1, h2⟩ := List.pairwise_cons.1 h
    have ih := putA_length k x (l := r) h2
    by_cases hlt : k < j
    · have hn : getA k ((j, y) :: r) = none := getA_below (fun p hp => by
        rcases List.mem_cons.1 hp with rfl | hp
        · exact hlt
        · have h3 : j < p.1 := h1 p hp
          omega)
      simp [putA, hlt, hn]
    · by_cases he : k = j
      · subst he
        rw [getA_here]
        simp [putA]
      · rw [getA_there (Ne.symm he)]
        simp only [putA, hlt, he, if_false, List.length_cons, ih]
        split <;> rfl
theorem getA_put_same (k : Int) (x : α) : ∀ (l : List (Int × α)), getA k (putA k x l) = some x
  | [] => getA_here k x []
  | (j, y) :: r => by
    unfold putA
    split
    · exact getA_here _ _ _
    · split
      · exact getA_here _ _ _
      · rename_i h1 h2
        rw [getA_there (Ne.symm h2)]
        exact getA_put_same k x r
theorem getA_del_same (k : Int) : ∀ (l : List (Int × α)), getA k (delA k l) = none
  | [] => rfl
  | (j, y) :: r => by
    have ih := getA_del_same k r
    unfold delA at *
    by_cases h : j = k
    · simpa [h] using ih
    · rw [List.filter_cons_of_pos (by simpa using h), getA_there h]
      exact ih
theorem delA_none {k : Int} : ∀ {l : List (Int × α)}, (∀ p ∈ l, p.1 ≠ k) → delA k l = l := fun h => by
  unfold delA
  rw [List.filter_eq_self]
  intro p hp
  simpa using h p hp
theorem delA_length {k : Int} : ∀ {l : List (Int × α)}, Up l → (getA k l).isSome = true → (delA k l).length + 1 = l.length
  | [], _, h => by simp [getA] at h
  | (j, y) :: r, h, hs => by
    obtain ⟨h1, h2⟩ := List.pairwise_cons.1 h
    by_cases he : j = k
    · subst he
      have e := delA_none (k := j) (l := r) (fun p hp => by have h3 : j < p.1 := h1 p hp; omega)
      unfold delA at *
      simp [e]
    · rw [getA_there he] at hs
      have ih := delA_length h2 hs
      unfold delA at *
      rw [List.filter_cons_of_pos (by simpa using he), List.length_cons, List.length_cons, ih]
theorem up_at {l : List (Int × α)} (h : Up l) {i j : Nat} (hij : i < j) (hj : j < (l.map (·.1)).length) : (l.map (·.1)).getD i 0 < (l.map (·.1)).getD j 0 := by
  rw [List.length_map] at hj
  have := List.pairwise_iff_getElem.1 h i j (by omega) hj hij
  simpa [List.getD_eq_getElem?_getD, show i < l.length by omega, hj] using this
end

theorem few_l (l : List S42) : ∀ (n : Nat) (x3 x4 : Int), 0 ≤ x4 → x4 ≤ 200 → 200 - x4 ≤ n → ∃ r, oublaw10_few.l0 (n + 1) l x3 x4 = some r
  | 0, x3, x4, h0, h1, h2 => by
    unfold oublaw10_few.l0
    have : ¬ x4 < 200 := by omega
    simp only [this, if_false]
    split <;> split <;> exact ⟨_, rfl⟩
  | n + 1, x3, x4, h0, h1, h2 => by
    rw [oublaw10_few.l0]
    by_cases h3 : x4 < (l.length : Int)
    · by_cases h4 : x4 < 200
      · rw [if_pos h3, if_pos h4, if_pos h0]
        have e : wrap64 (x4 + 1) = x4 + 1 := by unfold wrap64; omega
        rw [e]
        exact few_l l n _ _ (by omega) (by omega) (by omega)
      · rw [if_pos h3, if_neg h4]
        split <;> exact ⟨_, rfl⟩
    · rw [if_neg h3]
      split <;> exact ⟨_, rfl⟩
theorem few_total (l : List S42) : ∃ r, oublaw10_few.f 201 l = some r := few_l l 200 0 0 (by omega) (by omega) (by omega)

theorem wrap_succ (n : Nat) (h : n ≤ 64) : IntKind.i64.wrap ((n : Int) + 1) = (n : Int) + 1 := by
  unfold IntKind.wrap
  simp [IntKind.signed, IntKind.bits]
  omega
theorem heap_top2 (w : World) (o o' : Obj) : ((w.alloc o).alloc o').drew.heap[w.heap.size + 1]? = some o' := by
  have h := heap_top (w.alloc o) o'
  rw [show (w.alloc o).heap.size = w.heap.size + 1 by simp] at h
  exact h

theorem OS.base_mono {base base' top g : Nat} {w : World} {P : List (Int × List Int)} {m : Int} (h : OS base top w g P m) (hb : base' ≤ base) : OS base' top w g P m := by
  obtain ⟨bm, Rs, E, h1, h2, h3, h4, h5, h6, h7, h8⟩ := h
  exact ⟨bm, Rs, E, h1, h2, by omega, by omega, h5, h6, fun k hk => by have := h7 k hk; omega, h8⟩
end Go.Proofs.Ytmjbmbhpfckagaa.A
