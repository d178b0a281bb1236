/- A map with whole numbers as keys, its elements told as the values that they are: as a list of pairs by rising key. -/
import Derived.Maps.OwnSet
namespace Go.Proofs.Ytmjbmbhpfckagaa.A
set_option linter.unusedVariables false
open Go.Maps

section
variable {α β : Type}
/-- Laid at a key, in a list by rising key. -/
def putA (k : Int) (x : α) : List (Int × α) → List (Int × α)
  | [] => [(k, x)]
  | (j, y) :: r => if k < j then (k, x) :: (j, y) :: r else if k = j then (k, x) :: r else (j, y) :: putA k x r
/-- Taken out at a key. -/
def delA (k : Int) (l : List (Int × α)) : List (Int × α) := l.filter fun p => !decide (p.1 = k)
/-- What stands at a key. -/
def getA (k : Int) (l : List (Int × α)) : Option α := (l.find? fun p => decide (p.1 = k)).map (·.2)
def Up (l : List (Int × α)) : Prop := l.Pairwise fun p q => p.1 < q.1

theorem putA_map (f : α → β) (k : Int) (x : α) : ∀ l : List (Int × α), (putA k x l).map (fun p => (p.1, f p.2)) = putA k (f x) (l.map fun p => (p.1, f p.2))
  | [] => rfl
  | (j, y) :: r => by
    simp only [putA, List.map_cons]
    split
    · rfl
    · split
      · rfl
      · simp only [List.map_cons, putA_map f k x r]
theorem delA_map (f : α → β) (k : Int) (l : List (Int × α)) : (delA k l).map (fun p => (p.1, f p.2)) = delA k (l.map fun p => (p.1, f p.2)) := by
  unfold delA
  rw [List.filter_map]
  rfl
theorem getA_map (f : α → β) (k : Int) : ∀ l : List (Int × α), getA k (l.map fun p => (p.1, f p.2)) = (getA k l).map f
  | [] => rfl
  | (j, y) :: r => by
    have ih := getA_map f k r
    unfold getA at *
    simp only [List.map_cons, List.find?_cons]
    by_cases h : j = k
    · simp [h]
    · simp only [h, decide_false]
      exact ih
theorem mem_putA {k : Int} {x : α} : ∀ {l : List (Int × α)} {p : Int × α}, p ∈ putA k x l → p = (k, x) ∨ p ∈ l
  | [], p, h => by simp [putA] at h; exact .inl h
  | (j, y) :: r, p, h => by
    simp only [putA] at h
    split at h
    · rcases List.mem_cons.1 h with h | h
      · exact .inl h
      · exact .inr h
    · split at h
      · rcases List.mem_cons.1 h with h | h
        · exact .inl h
        · exact .inr (List.mem_cons_of_mem _ h)
      · rcases List.mem_cons.1 h with h | h
        · exact .inr (by rw [h]; exact List.mem_cons_self)
        · rcases mem_putA h with h | h
          · exact .inl h
          · exact .inr (List.mem_cons_of_mem _ h)
theorem up_putA (k : Int) (x : α) : ∀ {l : List (Int × α)}, Up l → Up (putA k x l)
  | [], _ => by simp [putA, Up]
  | (j, y) :: r, h => by
    obtain ⟨h1, h2⟩ := List.pairwise_cons.1 h
    unfold Up at *
    simp only [putA]
    split
    next hk =>
      refine List.pairwise_cons.2 ⟨fun p hp => ?_, h⟩
      rcases List.mem_cons.1 hp with rfl | hp
      · exact hk
      · have := h1 p hp
        simp only at this ⊢
        omega
    next hk =>
      split
      next he =>
        subst he
        exact List.pairwise_cons.2 ⟨h1, h2⟩
      next he =>
        refine List.pairwise_cons.2 ⟨fun p hp => ?_, up_putA k x h2⟩
        rcases mem_putA hp with rfl | hp
        · simp only; omega
        · exact h1 p hp
theorem up_delA (k : Int) {l : List (Int × α)} (h : Up l) : Up (delA k l) := List.Pairwise.filter _ h
theorem mem_delA {k : Int} {l : List (Int × α)} {p : Int × α} (h : p ∈ delA k l) : p ∈ l := (List.mem_filter.1 h).1
theorem getA_mem {k : Int} {l : List (Int × α)} {x : α} (h : getA k l = some x) : (k, x) ∈ l := by
  unfold getA at h
  obtain ⟨p, hp, rfl⟩ := Option.map_eq_some_iff.1 h
  have h1 := List.mem_of_find?_eq_some hp
  have h2 := List.find?_some hp
  simp only [decide_eq_true_eq] at h2
  rw [← h2]
  exact h1
theorem up_map {f : α → β} {l : List (Int × α)} : Up (l.map fun p => (p.1, f p.2)) ↔ Up l := by
  unfold Up
  rw [List.pairwise_map]
end

/-- An element, told as the value that it is. -/
def tok (v : Value) : Option (DataW Value × List MemPlace) := some (.held v, [])
theorem tok_mk (v : Value) : tok v = some (.held v, []) := rfl
theorem tok_inv {v : Value} {d : DataW Value} {ps : List MemPlace} (h : tok v = some (d, ps)) : d = .held v := by cases h; rfl

/-- The datum of such a map. -/
def dat (l : List (Int × Value)) : DataW Value := .map (l.map fun p => (.int .i64 p.1, .held p.2))
theorem dat_nil : dat [] = .map [] := rfl
theorem dat_size (l : List (Int × Value)) : Maps.size (dat l) = l.length := by simp [Maps.size, dat]
theorem dat_has (l : List (Int × Value)) (k : Int) : Maps.has (dat l) (.int .i64 k) = (getA k l).isSome := by
  unfold dat
  rw [Maps.has_eq, List.any_map]
  induction l with
  | nil => rfl
  | cons p r ih =>
    unfold getA at *
    simp only [List.any_cons, List.find?_cons, Function.comp_apply, Lit.sameKey]
    by_cases h : p.1 = k
    · simp [h]
    · simp only [h, and_false, decide_false, Bool.false_or]
      exact ih
theorem dat_at (l : List (Int × Value)) (k : Int) (z : Value) : (dat l).atKey (.int .i64 k) (.held z) = .held ((getA k l).getD z) := by
  unfold dat DataW.atKey
  induction l with
  | nil => rfl
  | cons p r ih =>
    unfold getA at *
    simp only [List.map_cons, List.find?_cons, Lit.sameKey]
    by_cases h : p.1 = k
    · simp [h]
    · simp only [h, and_false, decide_false]
      exact ih
def en (p : Int × Value) : Lit × DataW Value := (.int .i64 p.1, .held p.2)
def nk (k : Int) (p : Lit × DataW Value) : Bool := !p.1.sameKey (.int .i64 k)
theorem nk_en (k : Int) (p : Int × Value) : nk k (en p) = !decide (p.1 = k) := by simp [nk, en, Lit.sameKey]
theorem ins_lt {k j : Int} (v y : Value) (r : List (Lit × DataW Value)) (h : k < j) : DataW.insert (en (k, v)) (en (j, y) :: r) = en (k, v) :: en (j, y) :: r := by
  show (if (Lit.int .i64 k).before (.int .i64 j) = true then _ else _) = _
  exact if_pos (decide_eq_true h)
theorem ins_ge {k j : Int} (v y : Value) (r : List (Lit × DataW Value)) (h : ¬ k < j) : DataW.insert (en (k, v)) (en (j, y) :: r) = en (j, y) :: DataW.insert (en (k, v)) r := by
  show (if (Lit.int .i64 k).before (.int .i64 j) = true then _ else _) = _
  exact if_neg (by simpa [Lit.before] using h)
theorem strike_none {k : Int} {r : List (Int × Value)} (h : ∀ p ∈ r, p.1 ≠ k) : (r.map en).filter (nk k) = r.map en := by
  rw [List.filter_eq_self]
  intro p hp
  obtain ⟨q, hq, rfl⟩ := List.mem_map.1 hp
  rw [nk_en]
  simp [h q hq]
theorem ins_head {k : Int} (v : Value) : ∀ {r : List (Int × Value)}, (∀ p ∈ r, k < p.1) → DataW.insert (en (k, v)) (r.map en) = en (k, v) :: r.map en
  | [], _ => rfl
  | (j, y) :: t, h => ins_lt v y _ (h _ List.mem_cons_self)
theorem insert_put (k : Int) (v : Value) : ∀ l : List (Int × Value), Up l → DataW.insert (en (k, v)) ((l.map en).filter (nk k)) = (putA k v l).map en
  | [], _ => rfl
  | (j, y) :: r, h => by
    obtain ⟨h1, h2⟩ := List.pairwise_cons.1 h
    have ih := insert_put k v r h2
    rw [List.map_cons, List.filter_cons, nk_en]
    by_cases hjk : j = k
    · subst hjk
      rw [if_neg (by simp), strike_none (fun p hp => by have := h1 p hp; simp only at this; omega), ins_head v (fun p hp => h1 p hp)]
      simp only [putA]
      rw [if_neg (by omega), if_pos trivial]
      rfl
    · rw [if_pos (by simp [hjk])]
      by_cases hk : k < j
      · rw [strike_none (fun p hp => by have := h1 p hp; simp only at this; omega), ins_lt v y _ hk]
        simp only [putA]
        rw [if_pos hk]
        rfl
      · rw [ins_ge v y _ hk, ih]
        simp only [putA]
        rw [if_neg hk, if_neg (fun e => hjk e.symm)]
        rfl
theorem dat_put (l : List (Int × Value)) (k : Int) (v : Value) (h : Up l) : (dat l).put (.int .i64 k) (.held v) = dat (putA k v l) := congrArg DataW.map (insert_put k v l h)
theorem dat_del (l : List (Int × Value)) (k : Int) : (dat l).del (.int .i64 k) = dat (delA k l) := by
  unfold dat DataW.del delA
  simp only
  rw [List.filter_map]
  congr 2
  apply List.filter_congr
  intro p _
  simp [Function.comp_apply, Lit.sameKey]
end Go.Proofs.Ytmjbmbhpfckagaa.A
