/- Plain lemmas on blocks laid in a stash: the order in which they are laid does not count. No walk here. -/
import Derived.Test.YtmjbmbhpfckagaaStashI
namespace Go.Proofs.Ytmjbmbhpfckagaa.A
open Go.RowKit Go.Maps Go.Sort Go.Shelf Go.Proofs.YtmjbmbhpfckagaaW.PrintWords Go.Proofs.Ytmjbmbhpfckagaa.B
set_option linter.unusedVariables false
section
variable {α : Type}
theorem getA_put_other {k j : Int} (x : α) (h : k ≠ j) : ∀ (l : List (Int × α)), getA k (putA j x l) = getA k l
  | [] => by simp [putA, getA, h.symm]
  | (i, y) :: r => by
    have ih := getA_put_other x h r
    simp only [putA]
    split
    · rw [getA_there h.symm]
    · split
      · rename_i h2
        subst h2
        rw [getA_there h.symm, getA_there h.symm]
      · by_cases e : i = k
        · subst e
          rw [getA_here, getA_here]
        · rw [getA_there e, getA_there e]
          exact ih
theorem mem_of_getA {k : Int} {x : α} {l : List (Int × α)} (h : getA k l = some x) : (k, x) ∈ l := getA_mem h
theorem getA_del_other {k j : Int} (h : k ≠ j) : ∀ (l : List (Int × α)), getA k (delA j l) = getA k l
  | [] => rfl
  | (i, y) :: r => by
    have ih := getA_del_other h r
    unfold delA at *
    by_cases e : i = j
    · subst e
      rw [List.filter_cons_of_neg (by simp), getA_there h.symm]
      exact ih
    · rw [List.filter_cons_of_pos (by simpa using e)]
      by_cases e2 : i = k
      · subst e2
        rw [getA_here, getA_here]
      · rw [getA_there e2, getA_there e2]
        exact ih
/-- Two that rise, of the same entries, are one. -/
theorem up_ext {l m : List (Int × α)} (hl : Up l) (hm : Up m) (h : ∀ k, getA k l = getA k m) : l = m := by
  have hmem : ∀ p, p ∈ l ↔ p ∈ m := fun p => ⟨fun hp => by
    have := getA_of_mem hl p hp
    rw [h] at this
    exact getA_mem this, fun hp => by
    have := getA_of_mem hm p hp
    rw [← h] at this
    exact getA_mem this⟩
  have nd : ∀ {z : List (Int × α)}, Up z → z.Nodup := fun {z} hz => List.Pairwise.imp (R := fun p q : Int × α => p.1 < q.1) (fun {a b} hab => by
    intro e
    subst e
    exact Int.lt_irrefl _ hab) hz
  exact List.Perm.eq_of_pairwise (le := fun p q : Int × α => p.1 < q.1) (fun a b _ _ (h1 : a.1 < b.1) (h2 : b.1 < a.1) => by omega) hl hm ((List.perm_ext_iff_of_nodup (nd hl) (nd hm)).2 hmem)
theorem put_del {k : Int} {x : α} {l : List (Int × α)} (hl : Up l) (h : getA k l = some x) : putA k x (delA k l) = l := by
  refine up_ext (up_putA k x (up_delA k hl)) hl (fun j => ?_)
  by_cases e : j = k
  · subst e
    rw [getA_put_same, h]
  · rw [getA_put_other x e, getA_del_other e]
end

/-- May a block be? -/
def okB (b : S24) : Prop := 0 ≤ b.f0 ∧ b.f0 < 64 ∧ b.f1.length = 37
theorem mayF_iff : ∀ (l : List S24) (seen : List Int), mayF seen l = true ↔ (∀ b ∈ l, okB b ∧ b.f0 ∉ seen) ∧ (l.map (·.f0)).Nodup
  | [], seen => by simp [mayF]
  | b :: r, seen => by
    have ih := mayF_iff r (b.f0 :: seen)
    rw [mayF.eq_def]
    simp only
    have hq : ((∀ c ∈ b :: r, okB c ∧ c.f0 ∉ seen) ∧ ((b :: r).map (·.f0)).Nodup) ↔ (okB b ∧ b.f0 ∉ seen) ∧ ((∀ c ∈ r, okB c ∧ c.f0 ∉ b.f0 :: seen) ∧ (r.map (·.f0)).Nodup) := by
      rw [List.map_cons, List.nodup_cons, List.mem_map]
      constructor
      · rintro ⟨h1, h2, h3⟩
        refine ⟨h1 b List.mem_cons_self, fun c hc => ⟨(h1 c (List.mem_cons_of_mem _ hc)).1, fun hm => ?_⟩, h3⟩
        rcases List.mem_cons.1 hm with e | hm
        · exact h2 ⟨c, hc, e⟩
        · exact (h1 c (List.mem_cons_of_mem _ hc)).2 hm
      · rintro ⟨h1, h2, h3⟩
        refine ⟨fun c hc => ?_, ?_, h3⟩
        · rcases List.mem_cons.1 hc with rfl | hc
          · exact h1
          · exact ⟨(h2 c hc).1, fun hm => (h2 c hc).2 (List.mem_cons_of_mem _ hm)⟩
        · rintro ⟨c, hc, e⟩
          exact (h2 c hc).2 (by rw [e]; exact List.mem_cons_self)
    rw [hq, ← ih]
    by_cases h0 : b.f0 < 0
    · simp [h0, okB]; omega
    · by_cases h1 : b.f0 ≥ 64
      · simp [h0, h1, okB]; omega
      · by_cases h2 : b.f0 ∈ seen
        · simp [h0, h1, h2]
        · by_cases h3 : b.f1.length = 37
          · simp [h0, h1, h2, h3, okB]; omega
          · simp [h0, h1, h2, h3, okB]
theorem okB_iff (b : S24) : okB b ↔ mayF [] [b] = true := (mayF_one b).symm

/-- Blocks laid one behind the other, each with an id of its own. -/
theorem fold_put : ∀ (l : List S24) (P : List (Int × List Int)) (m : Int), Up P → (∀ b ∈ l, okB b ∧ getA b.f0 P = none) → (l.map (·.f0)).Nodup → m = P.length →
    Up (l.foldl putP (P, m)).1 ∧ (l.foldl putP (P, m)).1.length = P.length + l.length ∧ (l.foldl putP (P, m)).2 = (P.length + l.length : Nat) ∧ ∀ k x, getA k (l.foldl putP (P, m)).1 = some x ↔ ⟨k, x⟩ ∈ l ∨ getA k P = some x
  | [], P, m, hu, _, _, hm => by simpa using ⟨hu, hm⟩
  | b :: r, P, m, hu, hb, hn, hm => by
    rw [List.map_cons, List.nodup_cons, List.mem_map] at hn
    have h1 := hb b List.mem_cons_self
    have e1 : putP (P, m) b = (putA b.f0 b.f1 P, max m (putA b.f0 b.f1 P).length) := by
      unfold putP
      rw [if_pos ((okB_iff b).1 h1.1)]
    have el : (putA b.f0 b.f1 P).length = P.length + 1 := by
      rw [putA_length _ _ hu, h1.2]
      rfl
    rw [List.foldl_cons, e1]
    obtain ⟨i1, i2, i3, i4⟩ := fold_put r (putA b.f0 b.f1 P) (max m (putA b.f0 b.f1 P).length) (up_putA _ _ hu) (fun c hc => ⟨(hb c (List.mem_cons_of_mem _ hc)).1, by
      rw [getA_put_other]
      · exact (hb c (List.mem_cons_of_mem _ hc)).2
      · exact fun e => hn.1 ⟨c, hc, e⟩⟩) hn.2 (by rw [el]; omega)
    refine ⟨i1, by rw [i2, el, List.length_cons]; omega, by rw [i3, el, List.length_cons]; omega, fun k x => ?_⟩
    rw [i4, List.mem_cons]
    by_cases e : k = b.f0
    · subst e
      rw [getA_put_same, h1.2]
      constructor
      · rintro (h | h)
        · exact .inl (.inr h)
        · cases h
          exact .inl (.inl rfl)
      · rintro ((h | h) | h)
        · exact .inr (by rw [← h])
        · exact .inl h
        · cases h
    · rw [getA_put_other _ e]
      constructor
      · rintro (h | h)
        · exact .inl (.inr h)
        · exact .inr h
      · rintro ((h | h) | h)
        · exact absurd (by rw [← h]) e
        · exact .inl h
        · exact .inr h
theorem fold_new {l : List S24} (h : mayF [] l = true) : Up (l.foldl putP ([], 0)).1 ∧ (l.foldl putP ([], 0)).1.length = l.length ∧ (l.foldl putP ([], 0)).2 = (l.length : Int) ∧ ∀ k x, getA k (l.foldl putP ([], 0)).1 = some x ↔ ⟨k, x⟩ ∈ l := by
  obtain ⟨h1, h2⟩ := (mayF_iff l []).1 h
  obtain ⟨i1, i2, i3, i4⟩ := fold_put l [] 0 List.Pairwise.nil (fun b hb => ⟨(h1 b hb).1, rfl⟩) h2 rfl
  exact ⟨i1, by simpa using i2, by simpa using i3, fun k x => by rw [i4]; simp [getA]⟩
theorem fold_perm {l m : List S24} (h : mayF [] l = true) (hp : l.Perm m) : m.foldl putP ([], 0) = l.foldl putP ([], 0) := by
  have hm : mayF [] m = true := by
    rw [mayF_iff] at h ⊢
    exact ⟨fun b hb => h.1 b (hp.mem_iff.2 hb), (hp.map _).nodup_iff.1 h.2⟩
  obtain ⟨i1, i2, i3, i4⟩ := fold_new h
  obtain ⟨j1, j2, j3, j4⟩ := fold_new hm
  refine Prod.ext (up_ext j1 i1 (fun k => ?_)) (by rw [i3, j3, hp.length_eq])
  apply Option.ext
  intro x
  rw [i4, j4, hp.mem_iff]

/-- A list told from a place on, and around. -/
def turned (l : List S24) (t k : Nat) : List S24 := (List.range k).map fun i => l.getD ((i + t) % l.length) ⟨0, []⟩
theorem turned_zero (l : List S24) (t : Nat) : turned l t 0 = [] := rfl
theorem turned_succ (l : List S24) (t k : Nat) : turned l t (k + 1) = turned l t k ++ [l.getD ((k + t) % l.length) ⟨0, []⟩] := by
  unfold turned
  rw [List.range_succ, List.map_append]
  rfl
theorem turned_length (l : List S24) (t k : Nat) : (turned l t k).length = k := by simp [turned]
theorem turned_all (l : List S24) (t : Nat) (ht : t < l.length ∨ l = []) : turned l t l.length = l.drop t ++ l.take t := by
  apply List.ext_getElem
  · rw [turned_length, List.length_append, List.length_drop, List.length_take]
    rcases ht with h | rfl
    · omega
    · simp
  · intro i h1 h2
    rw [turned_length] at h1
    have ht : t < l.length := by
      rcases ht with h | rfl
      · exact h
      · simp at h1
    have hg : (turned l t l.length)[i] = l.getD ((i + t) % l.length) ⟨0, []⟩ := by simp [turned]
    rw [hg]
    by_cases h : i + t < l.length
    · rw [Nat.mod_eq_of_lt h, List.getElem_append_left (by rw [List.length_drop]; omega), List.getElem_drop, List.getD_eq_getElem?_getD, List.getElem?_eq_getElem h]
      simp only [Option.getD_some]
      congr 1
      omega
    · have e : (i + t) % l.length = i + t - l.length := by
        rw [Nat.mod_eq_sub_mod (by omega), Nat.mod_eq_of_lt (by omega)]
      rw [e, List.getElem_append_right (by rw [List.length_drop]; omega), List.getElem_take, List.getD_eq_getElem?_getD, List.getElem?_eq_getElem (by omega)]
      simp only [Option.getD_some]
      congr 1
      rw [List.length_drop]
      omega
theorem turned_perm (l : List S24) (t : Nat) (ht : t < l.length ∨ l = []) : l.Perm (turned l t l.length) := by
  rw [turned_all l t ht]
  have h : (l.take t ++ l.drop t).Perm (l.drop t ++ l.take t) := List.perm_append_comm
  rw [List.take_append_drop] at h
  exact h
end Go.Proofs.Ytmjbmbhpfckagaa.A
