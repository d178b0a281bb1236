/- Plain facts on lists of whole numbers: sorting by insertion, striking neighbours that are equal; what they hold. No program here. -/
import Derived.Lib.SlicesCompact
namespace Go.Proofs.YtfliapankgdeeaaGreat.L

/-- Laid where it belongs. -/
def ins (x : Int) : List Int → List Int
  | [] => [x]
  | y :: t => if x ≤ y then x :: y :: t else y :: ins x t
/-- By rising. -/
def isort : List Int → List Int
  | [] => []
  | x :: t => ins x (isort t)
/-- Of equal neighbours one. -/
def dd : List Int → List Int
  | [] => []
  | [x] => [x]
  | x :: y :: t => if x = y then dd (y :: t) else x :: dd (y :: t)

theorem ins_perm (x : Int) : ∀ l, (ins x l).Perm (x :: l)
  | [] => List.Perm.refl _
  | y :: t => by
    unfold ins
    split
    · exact List.Perm.refl _
    · exact ((ins_perm x t).cons y).trans (List.Perm.swap x y t)
theorem isort_perm : ∀ l, (isort l).Perm l
  | [] => List.Perm.refl _
  | x :: t => (ins_perm x (isort t)).trans ((isort_perm t).cons x)
theorem mem_ins {x y : Int} {l : List Int} : y ∈ ins x l ↔ y = x ∨ y ∈ l := by rw [(ins_perm x l).mem_iff, List.mem_cons]
theorem ins_sorted (x : Int) : ∀ l : List Int, l.Pairwise (· ≤ ·) → (ins x l).Pairwise (· ≤ ·)
  | [], _ => by simp [ins]
  | y :: t, h => by
    unfold ins
    obtain ⟨h1, h2⟩ := List.pairwise_cons.1 h
    split
    next hle =>
      refine List.pairwise_cons.2 ⟨fun z hz => ?_, h⟩
      rcases List.mem_cons.1 hz with rfl | hz
      · exact hle
      · exact Int.le_trans hle (h1 z hz)
    next hlt =>
      refine List.pairwise_cons.2 ⟨fun z hz => ?_, ins_sorted x t h2⟩
      rcases mem_ins.1 hz with rfl | hz
      · omega
      · exact h1 z hz
theorem isort_sorted : ∀ l : List Int, (isort l).Pairwise (· ≤ ·)
  | [] => List.Pairwise.nil
  | x :: t => ins_sorted x _ (isort_sorted t)
theorem isort_length (l : List Int) : (isort l).length = l.length := (isort_perm l).length_eq
theorem mem_isort {x : Int} {l : List Int} : x ∈ isort l ↔ x ∈ l := (isort_perm l).mem_iff
theorem isort_merge (l : List Int) : isort l = l.mergeSort fun x y => decide (x ≤ y) := by
  refine List.Perm.eq_of_pairwise (le := (· ≤ ·)) (fun a b _ _ h1 h2 => Int.le_antisymm h1 h2) (isort_sorted l) ?_ ((isort_perm l).trans (List.mergeSort_perm l _).symm)
  have h := List.pairwise_mergeSort (le := fun x y : Int => decide (x ≤ y)) (fun a b c h1 h2 => by simp only [decide_eq_true_eq] at *; omega) (fun a b => by simp only [Bool.or_eq_true, decide_eq_true_eq]; omega) l
  exact h.imp (fun h => of_decide_eq_true h)

theorem dd_mem : ∀ {l : List Int} {x : Int}, x ∈ dd l ↔ x ∈ l
  | [], _ => Iff.rfl
  | [_], _ => Iff.rfl
  | a :: b :: t, x => by
    unfold dd
    split
    next h =>
      subst h
      rw [dd_mem (l := a :: t)]
      simp
    next h => rw [List.mem_cons, dd_mem (l := b :: t), List.mem_cons (a := x) (b := a)]
theorem dd_length : ∀ l : List Int, (dd l).length ≤ l.length
  | [] => Nat.le_refl _
  | [_] => Nat.le_refl _
  | a :: b :: t => by
    unfold dd
    have := dd_length (b :: t)
    split
    · simp only [List.length_cons] at *; omega
    · simp only [List.length_cons] at *; omega
theorem dd_strict : ∀ l : List Int, l.Pairwise (· ≤ ·) → (dd l).Pairwise (· < ·)
  | [], _ => List.Pairwise.nil
  | [_], _ => by simp [dd]
  | a :: b :: t, h => by
    unfold dd
    obtain ⟨h1, h2⟩ := List.pairwise_cons.1 h
    have ih := dd_strict (b :: t) h2
    split
    next e => exact ih
    next e =>
      refine List.pairwise_cons.2 ⟨fun z hz => ?_, ih⟩
      have hz := dd_mem.1 hz
      have hab := h1 b List.mem_cons_self
      rcases List.mem_cons.1 hz with rfl | hz
      · omega
      · have := (List.pairwise_cons.1 h2).1 z hz
        omega
/-- Two that rise, of the same elements, are one. -/
theorem strict_ext {l m : List Int} (hl : l.Pairwise (· < ·)) (hm : m.Pairwise (· < ·)) (h : ∀ x, x ∈ l ↔ x ∈ m) : l = m :=
  List.Perm.eq_of_pairwise (le := (· < ·)) (fun a b _ _ h1 h2 => by omega) hl hm ((List.perm_ext_iff_of_nodup (hl.imp (fun h => by omega)) (hm.imp (fun h => by omega))).2 h)

theorem dd_snoc (x : Int) : ∀ l : List Int, dd (l ++ [x]) = dd l ++ if l.getLast? = some x then [] else [x]
  | [] => rfl
  | [a] => by
    by_cases h : a = x <;> simp [dd, h]
  | a :: b :: t => by
    have ih := dd_snoc x (b :: t)
    simp only [List.cons_append] at ih ⊢
    rw [dd, dd]
    have e : (a :: b :: t).getLast? = (b :: t).getLast? := by simp [List.getLast?_cons]
    rw [e]
    by_cases h : a = b
    · rw [if_pos h, if_pos h, ih]
    · rw [if_neg h, if_neg h, ih, List.cons_append]
theorem dd_upTo (zs : List Int) : ∀ m, m ≤ zs.length → Lib.compactUpTo zs.toArray m = dd (zs.take m)
  | 0, _ => rfl
  | m + 1, h => by
    have hm : m < zs.length := h
    rw [Lib.compactUpTo_succ, dd_upTo zs m (by omega), List.take_succ_eq_append_getElem hm, dd_snoc]
    congr 1
    have e : zs.toArray[m]! = zs[m] := by simp [hm]
    rw [e]
    cases m with
    | zero => simp [Lib.keeps]
    | succ j =>
      have e1 : zs.toArray[j + 1]! = zs[j + 1] := by simp [hm]
      have e2 : zs.toArray[j]! = zs[j] := by simp [show j < zs.length by omega]
      have e3 : (zs.take (j + 1)).getLast? = some zs[j] := by
        rw [List.take_succ_eq_append_getElem (show j < zs.length by omega), List.getLast?_append]
        rfl
      rw [e3]
      by_cases hh : zs[j] = zs[j + 1]
      · rw [if_neg (by simp only [Lib.keeps, e1, Nat.add_sub_cancel, e2]; simp [hh]), if_pos (by rw [hh])]
      · rw [if_pos (by simp only [Lib.keeps, e1, Nat.add_sub_cancel, e2, decide_eq_true_eq]; exact .inr (fun h => hh h.symm)), if_neg (by intro h; exact hh (Option.some.inj h))]
theorem dd_compact (zs : List Int) : Lib.compact zs = dd zs := by
  unfold Lib.compact
  rw [dd_upTo zs _ (Nat.le_refl _), List.take_of_length_le (Nat.le_refl _)]
end Go.Proofs.YtfliapankgdeeaaGreat.L
