/- What the document's tree functions come to, as plain lists. -/
import Derived.Test.YtfliapankgdeeaaGreatEvQ
namespace Go.Proofs.YtfliapankgdeeaaGreat.B
open Go.RowKit Go.Proofs.YtfliapankgdeeaaGreat.G Go.Proofs.YtfliapankgdeeaaGreatW.PrintWords Go.Proofs.YtfliapankgdeeaaGreatW.PrintLast Go.Proofs.YtfliapankgdeeaaGreatW.PrintMore
set_option linter.unusedVariables false
set_option linter.unusedSimpArgs false

theorem refPaths_all : ((List.range 7).all fun h => (List.range (2 ^ h)).all fun a => decide (oubref7_Path.f 20 h a = some (pathOf h a))) = true := by decide +kernel
theorem mayLeaf_any (h a : Int) : oubref7_MayLeaf.f h a = some (okb h a) := A.mayLeaf_any h a
theorem refPaths_any (h a : Int) (k : Nat) (hk : 20 ≤ k) : oubref7_Path.f k h a = some (path h a) := by
  by_cases ok : okb h a = true
  · obtain ⟨m, n, rfl, rfl, hm, hn⟩ := ok_of ok
    rw [path_nat hm hn]
    have t := refPaths_all
    simp only [List.all_eq_true, List.mem_range, decide_eq_true_eq] at t
    exact at_rounds (oubref7_Path.mono _ _) hk (t m hm n hn)
  · have no : okb h a = false := by simpa using ok
    have e : path h a = [] := by unfold path; rw [if_neg ok]
    rw [e]
    unfold oubref7_Path.f; rw [mayLeaf_any, no]; rfl
theorem mayH_out {h : Int} (hh : ¬ (0 ≤ h ∧ h ≤ 6)) : oubref7_MayHeight.f h = some false := by
  unfold oubref7_MayHeight.f
  by_cases h0 : h ≥ 0
  · rw [if_pos h0, decide_eq_false (by omega)]
  · rw [if_neg h0]
theorem refBuckets_any (h : Int) : oubref7_Buckets.f h = some (bucketsOf h : Int) := by
  by_cases hh : 0 ≤ h ∧ h ≤ 6
  · obtain ⟨m, rfl, hm⟩ : ∃ m : Nat, h = m ∧ m < 7 := ⟨h.toNat, by omega, by omega⟩
    rcases (by omega : m = 0 ∨ m = 1 ∨ m = 2 ∨ m = 3 ∨ m = 4 ∨ m = 5 ∨ m = 6) with rfl | rfl | rfl | rfl | rfl | rfl | rfl <;> decide +kernel
  · unfold bucketsOf
    rw [if_neg hh]
    unfold oubref7_Buckets.f; rw [mayH_out hh]; rfl
theorem refOn_any (h b a : Int) (k : Nat) (hk : 30 ≤ k) : oubref7_On.f k h b a = some (decide (b ∈ path h a)) := by
  have hl := path_length h a
  unfold oubref7_On.f
  rw [refPaths_any h a k (by omega)]
  simp only [Option.bind_some]
  rw [A.has_any _ _ (by omega) k (by omega)]
  rfl

theorem ref_inner (h : Int) (l : List Int) (hl : l.length ≤ 100000) (b : Nat) (hb : b < 127) (acc : List Int) (ha : acc.length ≤ b) (K : Nat) (R : Option (List Int))
    (next : ∀ k, K ≤ k → ∀ acc', acc' = acc ++ (if l.any (fun a => decide ((b : Int) ∈ path h a)) = true then [(b : Int)] else []) → oubref7_Union.l1 k h l acc' ((b + 1 : Nat) : Int) = R) (hK : 30 ≤ K) :
    ∀ (s : List Int) (k i : Nat), l.drop i = s → i + s.length = l.length → s.any (fun a => decide ((b : Int) ∈ path h a)) = l.any (fun a => decide ((b : Int) ∈ path h a)) → K + s.length < k →
      oubref7_Union.l2 k h l acc b i = R := by
  intro s
  induction s with
  | nil =>
    intro k i hs hil hany hk
    obtain ⟨k, rfl⟩ : ∃ m, k = m + 1 := ⟨k - 1, by omega⟩
    simp only [List.length_nil] at hil
    simp only [oubref7_Union.l2]
    rw [if_neg (by omega), wrap_ok (by omega) (by omega), show ((b : Int) + 1) = ((b + 1 : Nat) : Int) by omega]
    refine next k (by simp only [List.length_nil] at hk; omega) acc ?_
    rw [← hany]
    simp
  | cons a s ih =>
    intro k i hs hil hany hk
    obtain ⟨k, rfl⟩ : ∃ m, k = m + 1 := ⟨k - 1, by omega⟩
    obtain ⟨hi, hr, hd⟩ := rd_drop hs
    simp only [List.length_cons] at hil hk
    simp only [oubref7_Union.l2]
    rw [if_pos (by omega), if_pos (by omega), hr, refOn_any h b a k (by omega)]
    simp only [Option.bind_some]
    by_cases m : (b : Int) ∈ path h a
    · rw [if_pos (decide_eq_true m), if_pos (by omega), wrap_ok (by omega) (by omega), show ((b : Int) + 1) = ((b + 1 : Nat) : Int) by omega]
      refine next k (by omega) _ ?_
      rw [← hany, List.any_cons, decide_eq_true m, Bool.true_or, if_pos rfl]
    · rw [if_neg (by simpa using m), wrap_ok (by omega) (by omega), show ((i : Int) + 1) = ((i + 1 : Nat) : Int) by omega]
      refine ih k (i + 1) hd (by omega) ?_ (by omega)
      rw [← hany, List.any_cons, decide_eq_false m, Bool.false_or]

theorem ref_outer (h : Int) (l : List Int) (hl : l.length ≤ 100000) : ∀ (d b k : Nat) (acc : List Int), b + d = bucketsOf h → acc.length ≤ b → d * (l.length + 2) + 40 < k →
    oubref7_Union.l1 k h l acc b = some (acc ++ ((List.range' b d).map Int.ofNat).filter fun b => l.any fun a => decide (b ∈ path h a)) := by
  intro d
  induction d with
  | zero =>
    intro b k acc hb ha hk
    obtain ⟨k, rfl⟩ : ∃ m, k = m + 1 := ⟨k - 1, by omega⟩
    simp only [oubref7_Union.l1]
    rw [refBuckets_any h]
    simp only [Option.bind_some]
    rw [if_neg (by omega)]
    simp
  | succ d ih =>
    intro b k acc hb ha hk
    obtain ⟨k, rfl⟩ : ∃ m, k = m + 1 := ⟨k - 1, by omega⟩
    have hB := buckets_le h
    rw [Nat.succ_mul] at hk
    simp only [oubref7_Union.l1]
    rw [refBuckets_any h]
    simp only [Option.bind_some]
    rw [if_pos (by omega)]
    have r := ref_inner h l hl b (by omega) acc ha (d * (l.length + 2) + 41) (some (acc ++ ((List.range' b (d + 1)).map Int.ofNat).filter fun b => l.any fun a => decide (b ∈ path h a))) ?_ (by omega) l k 0 rfl (by omega) rfl (by omega)
    · rw [show ((0 : Nat) : Int) = 0 from rfl] at r
      exact r
    · intro k' hk' acc' he
      have hacc : acc'.length ≤ b + 1 := by
        rw [he, List.length_append]
        split
        · simp; omega
        · simp; omega
      rw [ih (b + 1) k' acc' (by omega) hacc (by omega), he, List.range'_succ, List.map_cons, List.filter_cons]
      by_cases m : (l.any fun a => decide ((b : Int) ∈ path h a)) = true
      · rw [if_pos m, if_pos (by exact m), List.append_assoc]; rfl
      · rw [if_neg m, if_neg (by exact m), List.append_nil]

theorem ref_check (h : Int) (l : List Int) (hl : l.length ≤ 100000) (M : Nat) (hm : bucketsOf h * (l.length + 2) ≤ M) : ∀ (s : List Int) (k i : Nat), l.drop i = s → i + s.length = l.length → s.length + M + 41 < k → (s.all (okb h) = l.all (okb h)) → oubref7_Union.l0 k h l i = some (unionOf h l) := by
  intro s
  induction s with
  | nil =>
    intro k i hs hil hk he
    obtain ⟨k, rfl⟩ : ∃ m, k = m + 1 := ⟨k - 1, by omega⟩
    simp only [List.length_nil] at hil
    simp only [oubref7_Union.l0]
    rw [if_neg (by omega)]
    have o := ref_outer h l hl (bucketsOf h) 0 k [] (by omega) (by simp) (by simp only [List.length_nil] at hk; omega)
    rw [show ((0 : Nat) : Int) = 0 from rfl] at o
    rw [o, List.nil_append]
    unfold unionOf
    rw [if_pos (by rw [← he]; simp), List.range_eq_range']
  | cons a s ih =>
    intro k i hs hil hk he
    obtain ⟨k, rfl⟩ : ∃ m, k = m + 1 := ⟨k - 1, by omega⟩
    obtain ⟨hi, hr, hd⟩ := rd_drop hs
    simp only [List.length_cons] at hil hk
    simp only [oubref7_Union.l0]
    rw [if_pos (by omega), if_pos (by omega), hr, mayLeaf_any]
    simp only [Option.bind_some]
    by_cases ok : okb h a = true
    · rw [if_pos ok, wrap_ok (by omega) (by omega), show ((i : Int) + 1) = ((i + 1 : Nat) : Int) by omega]
      exact ih k (i + 1) hd (by omega) (by omega) (by rw [← he, List.all_cons, ok, Bool.true_and])
    · rw [if_neg ok]
      have no : okb h a = false := by simpa using ok
      unfold unionOf
      rw [if_neg (by rw [← he, List.all_cons, no]; simp)]

theorem refUnion_any (h : Int) (l : List Int) (hl : l.length ≤ 100000) (k : Nat) (hk : l.length + 127 * (l.length + 2) + 41 < k) : oubref7_Union.f k h l = some (unionOf h l) := by
  unfold oubref7_Union.f
  have hm : bucketsOf h * (l.length + 2) ≤ 127 * (l.length + 2) := Nat.mul_le_mul_right _ (buckets_le h)
  have u := ref_check h l hl _ hm l k 0 rfl (by omega) hk rfl
  rw [show ((0 : Nat) : Int) = 0 from rfl] at u
  exact u

def lvB7 (x : Fin 127) : Bool := decide (oubref7_Level.f 20 (x.val : Int) = some ((A.lvI (x.val : Int) : Nat) : Int))
theorem refLevels_all : (List.finRange 127).all lvB7 = true := by decide +kernel
theorem refLevel_any (b : Int) (h0 : 0 ≤ b) (h1 : b < 127) (k : Nat) (hk : 20 ≤ k) : oubref7_Level.f k b = some (A.lvI b : Int) := by
  have := of_decide_eq_true (List.all_eq_true.1 refLevels_all ⟨b.toNat, by omega⟩ (List.mem_finRange _))
  have e : ((b.toNat : Nat) : Int) = b := by omega
  simp only [e] at this
  exact at_rounds (oubref7_Level.mono b) hk this

def shR (m a b : Nat) : Bool := match tree_Shared.f 20 m a b with
  | some s => decide (0 ≤ s) && decide (oubref7_Shared.f 20 m a b = some s)
  | none => false
theorem shR_all : ((List.range 7).all fun m => (List.range (2 ^ m)).all fun a => (List.range (2 ^ m)).all fun b => shR m a b) = true := by decide +kernel
theorem shared_same {h a b : Int} (ha : okb h a = true) (hb : okb h b = true) : ∃ s : Int, 0 ≤ s ∧ ∀ k, 20 ≤ k → tree_Shared.f k h a b = some s ∧ oubref7_Shared.f k h a b = some s := by
  obtain ⟨m, x, rfl, rfl, hm, hx⟩ := ok_of ha
  obtain ⟨m', y, e, rfl, hm', hy⟩ := ok_of hb
  obtain rfl : m = m' := by omega
  have h1 := List.all_eq_true.1 (List.all_eq_true.1 (List.all_eq_true.1 shR_all m (List.mem_range.2 hm)) x (List.mem_range.2 hx)) y (List.mem_range.2 hy)
  unfold shR at h1
  cases hs : tree_Shared.f 20 m x y with
  | none => rw [hs] at h1; cases h1
  | some s =>
    rw [hs] at h1
    simp only [Bool.and_eq_true, decide_eq_true_eq] at h1
    exact ⟨s, h1.1, fun k hk => ⟨at_rounds (tree_Shared.mono m x y) hk hs, at_rounds (oubref7_Shared.mono m x y) hk h1.2⟩⟩
theorem shared_out {h a b : Int} (hn : okb h a = false ∨ okb h b = false) (k : Nat) (hk : 0 < k) : tree_Shared.f k h a b = some (-1) := by
  obtain ⟨k, rfl⟩ : ∃ r, k = r + 1 := ⟨k - 1, by omega⟩
  unfold tree_Shared.f
  rw [is_any, is_any]
  cases ea : okb h a with
  | false => rfl
  | true =>
    have eb : okb h b = false := hn.resolve_left (by rw [ea]; decide)
    rw [eb]
    rfl
theorem deep_loop (h x : Int) (ls : List Int) (hl : ls.length ≤ 100) : ∀ (d k i : Nat) (cur : Int), i + d = ls.length → d + 40 < k → ∃ r, evict_Deepest.l0 k h x cur ls (ls.length : Int) (i : Int) = some r ∧ oubref7_Deepest.l0 k h ls x cur (i : Int) = some r
  | d, 0, i, cur, _, hk => by omega
  | 0, k + 1, i, cur, hi, hk => ⟨cur, by rw [evict_Deepest.l0, if_neg (by omega)], by rw [oubref7_Deepest.l0, if_neg (by omega)]⟩
  | d + 1, k + 1, i, cur, hi, hk => by
    have hlt : i < ls.length := by omega
    rw [evict_Deepest.l0, if_pos (by omega), if_pos (by omega), if_pos (by omega), A.rdN hlt, oubref7_Deepest.l0, if_pos (by omega), if_pos (by omega), A.rdN hlt, mayLeaf_any, Option.bind_some, mayLeaf_any, A.wrap_at i (by omega)]
    by_cases ha : okb h ls[i] = true
    · rw [if_pos ha, Option.bind_some]
      by_cases hb : okb h x = true
      · rw [if_pos hb]
        obtain ⟨s, h0, hs⟩ := shared_same ha hb
        rw [(hs k (by omega)).1, (hs k (by omega)).2, Option.bind_some, Option.bind_some, if_neg (by omega)]
        exact deep_loop h x ls hl d k (i + 1) (mx cur s) (by omega) (by omega)
      · rw [if_neg hb, shared_out (.inr (by simpa using hb)) k (by omega), Option.bind_some, if_pos (by decide)]
        exact ⟨_, rfl, rfl⟩
    · rw [if_neg ha, shared_out (.inl (by simpa using ha)) k (by omega), Option.bind_some, if_pos (by decide)]
      exact ⟨_, rfl, rfl⟩
theorem deepest_same (h x : Int) (ls : List Int) (hl : ls.length ≤ 100) (k : Nat) (hk : 200 ≤ k) : ∃ r, evict_Deepest.f k h ls x = some r ∧ oubref7_Deepest.f k h ls x = some r := by
  have := deep_loop h x ls hl ls.length k 0 (-1) (by omega) (by omega)
  exact this
end Go.Proofs.YtfliapankgdeeaaGreat.B
