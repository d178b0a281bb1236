/- What holds of evict.Plan's plain answer. What the laws' own functions come to, as plain lists. What the chapter's examples fix: oublaw11.first answers true. -/
import Derived.Test.YtfliapankgdeeaaGreatEvK
import Derived.Test.YtfliapankgdeeaaGreatEvM
import Derived.Test.YtfliapankgdeeaaGreatFx1
namespace Go.Proofs.YtfliapankgdeeaaGreat.A
open Go.RowKit Go.Shelf Go.Lib Go.Sort Go.Proofs.YtfliapankgdeeaaGreatW.PrintWords Go.Proofs.YtfliapankgdeeaaGreatW.PrintLast Go.Proofs.YtfliapankgdeeaaGreatW.PrintMore Go.Proofs.YtfliapankgdeeaaGreat.G
set_option linter.unusedVariables false
set_option linter.unusedSimpArgs false

section
variable {z : Int} {p : It → Bool}
theorem tk_perm : ∀ (l : List It) (ids : List Int), ((tk z p ids l).1 ++ (tk z p ids l).2.map (·.f0)).Perm (ids ++ l.map (·.f0))
  | [], ids => by simp [tk]
  | x :: r, ids => by
    rw [tk]
    split
    · refine (tk_perm r (ids ++ [x.f0])).trans ?_
      simp
    · refine List.Perm.trans ?_ ((List.Perm.cons x.f0 (tk_perm r ids)).trans ?_)
      · simp only [List.map_cons]
        exact List.perm_middle
      · simp only [List.map_cons]
        exact List.perm_middle.symm
theorem tk_le : ∀ (l : List It) (ids : List Int), ((tk z p ids l).1.length : Int) ≤ z ∨ (tk z p ids l).1 = ids
  | [], ids => .inr rfl
  | x :: r, ids => by
    rw [tk]
    split
    · rename_i h
      rcases tk_le r (ids ++ [x.f0]) with h1 | h1
      · exact .inl h1
      · refine .inl ?_
        rw [h1]
        unfold takes at h
        simp only [Bool.and_eq_true, decide_eq_true_eq] at h
        simp only [List.length_append, List.length_singleton]
        omega
    · exact tk_le r ids
theorem tk_from : ∀ (l : List It) (ids : List Int) (n : Int), n ∈ (tk z p ids l).1 → n ∈ ids ∨ ∃ y ∈ l, p y = true ∧ y.f0 = n
  | [], ids, n, h => .inl h
  | x :: r, ids, n, h => by
    rw [tk] at h
    split at h
    · rename_i ht
      rcases tk_from r (ids ++ [x.f0]) n h with h1 | ⟨y, hy, hp, e⟩
      · rcases List.mem_append.1 h1 with h1 | h1
        · exact .inl h1
        · unfold takes at ht
          simp only [Bool.and_eq_true] at ht
          exact .inr ⟨x, List.mem_cons_self, ht.2, (List.mem_singleton.1 h1).symm⟩
      · exact .inr ⟨y, List.mem_cons_of_mem _ hy, hp, e⟩
    · rcases tk_from r ids n h with h1 | ⟨y, hy, hp, e⟩
      · exact .inl h1
      · exact .inr ⟨y, List.mem_cons_of_mem _ hy, hp, e⟩
theorem tk_sub : ∀ (l : List It) (ids : List Int), (tk z p ids l).2.Sublist l
  | [], ids => by simp [tk]
  | x :: r, ids => by
    rw [tk]
    split
    · exact (tk_sub r _).cons x
    · exact (tk_sub r ids).cons_cons x
theorem tk_grow : ∀ (l : List It) (ids : List Int), ids.length ≤ (tk z p ids l).1.length
  | [], ids => Nat.le_refl _
  | x :: r, ids => by
    rw [tk]
    split
    · have := tk_grow r (ids ++ [x.f0])
      simp only [List.length_append, List.length_singleton] at this
      omega
    · exact tk_grow r ids
theorem tk_full : ∀ (l : List It) (ids : List Int) (y : It), y ∈ (tk z p ids l).2 → p y = true → z ≤ ((tk z p ids l).1.length : Int)
  | [], ids, y, h, _ => by simp [tk] at h
  | x :: r, ids, y, h, hp => by
    rw [tk] at h ⊢
    split
    · rename_i ht
      rw [if_pos ht] at h
      exact tk_full r _ y h hp
    · rename_i ht
      rw [if_neg ht] at h
      rcases List.mem_cons.1 h with rfl | h
      · unfold takes at ht
        rw [hp, Bool.and_true, decide_eq_true_eq] at ht
        have := tk_grow (z := z) (p := p) r ids
        show z ≤ ((tk z p ids r).1.length : Int)
        omega
      · exact tk_full r ids y h hp
end

section
variable {z h : Int}
theorem runB_perm : ∀ (bs : List Int) (l : List It), ((runB z h bs l).1.flatMap (·.f1) ++ (runB z h bs l).2.map (·.f0)).Perm (l.map (·.f0))
  | [], l => by simp [runB]
  | b :: bs, l => by
    rw [runB, List.flatMap_cons, List.append_assoc]
    refine List.Perm.trans (List.Perm.append_left _ (runB_perm bs _)) ?_
    have := tk_perm (z := z) (p := onB h b) l []
    simpa using this
theorem runB_sub : ∀ (bs : List Int) (l : List It), (runB z h bs l).2.Sublist l
  | [], l => List.Sublist.refl _
  | b :: bs, l => by rw [runB]; exact (runB_sub bs _).trans (tk_sub l [])
theorem runB_le (hz : 0 ≤ z) : ∀ (bs : List Int) (l : List It) (f : Fl), f ∈ (runB z h bs l).1 → (f.f1.length : Int) ≤ z
  | [], l, f, hf => by simp [runB] at hf
  | b :: bs, l, f, hf => by
    rw [runB] at hf
    rcases List.mem_cons.1 hf with rfl | hf
    · rcases tk_le (z := z) (p := onB h b) l [] with h1 | h1
      · exact h1
      · show ((tk z (onB h b) [] l).1.length : Int) ≤ z
        rw [h1]; simpa using hz
    · exact runB_le hz bs _ f hf
theorem runB_from : ∀ (bs : List Int) (l : List It) (f : Fl), f ∈ (runB z h bs l).1 → ∀ n ∈ f.f1, ∃ y ∈ l, onB h f.f0 y = true ∧ y.f0 = n
  | [], l, f, hf, n, hn => by simp [runB] at hf
  | b :: bs, l, f, hf, n, hn => by
    rw [runB] at hf
    rcases List.mem_cons.1 hf with rfl | hf
    · rcases tk_from l [] n hn with h1 | h1
      · cases h1
      · exact h1
    · obtain ⟨y, hy, h1, h2⟩ := runB_from bs _ f hf n hn
      exact ⟨y, (tk_sub l []).mem hy, h1, h2⟩
theorem runB_full : ∀ (bs : List Int) (l : List It) (f : Fl), f ∈ (runB z h bs l).1 → ∀ y ∈ (runB z h bs l).2, onB h f.f0 y = true → z ≤ (f.f1.length : Int)
  | [], l, f, hf, y, hy, ho => by simp [runB] at hf
  | b :: bs, l, f, hf, y, hy, ho => by
    rw [runB] at hf hy
    rcases List.mem_cons.1 hf with rfl | hf
    · exact tk_full l [] y ((runB_sub bs _).mem hy) ho
    · exact runB_full bs _ f hf y hy ho
theorem nodup_inj {l : List It} (hn : (l.map (·.f0)).Nodup) {x y : It} (hx : x ∈ l) (hy : y ∈ l) (e : x.f0 = y.f0) : x = y := by
  induction l with
  | nil => cases hx
  | cons a r ih =>
    rw [List.map_cons, List.nodup_cons] at hn
    rcases List.mem_cons.1 hx with h1 | h1 <;> rcases List.mem_cons.1 hy with h2 | h2
    · rw [h1, h2]
    · exact absurd (List.mem_map.2 ⟨y, h2, by rw [← e, h1]⟩) hn.1
    · exact absurd (List.mem_map.2 ⟨x, h1, by rw [e, h2]⟩) hn.1
    · exact ih hn.2 h1 h2
/-- Whoever lies further on finds the buckets before full. -/
theorem runB_deep : ∀ (bs : List Int) (l : List It), (l.map (·.f0)).Nodup → (runB z h bs l).1.Pairwise fun F G => ∀ y ∈ l, y.f0 ∈ G.f1 → onB h F.f0 y = true → z ≤ (F.f1.length : Int)
  | [], l, _ => List.Pairwise.nil
  | b :: bs, l, hn => by
    rw [runB, List.pairwise_cons]
    have hsub := tk_sub (z := z) (p := onB h b) l []
    have hn2 := hn.sublist (hsub.map (·.f0))
    refine ⟨fun G hG y hy hyG ho => ?_, (runB_deep bs _ hn2).imp_of_mem (fun {F G} hF hG q y hy hyG ho => ?_)⟩
    · obtain ⟨y', hy', _, e⟩ := runB_from bs _ G hG y.f0 hyG
      rw [nodup_inj hn (hsub.mem hy') hy e] at hy'
      exact tk_full l [] y hy' ho
    · obtain ⟨y', hy', _, e⟩ := runB_from bs _ G hG y.f0 hyG
      rw [nodup_inj hn (hsub.mem hy') hy e] at hy'
      exact q y hy' hyG ho
end

section
variable {h z : Int} {ls : List Int} {items : List It}

theorem srt_perm (l : List It) : (srt l).Perm l := List.mergeSort_perm _ _
theorem srtF_perm (l : List Fl) : (srtF l).Perm l := List.mergeSort_perm _ _
theorem ok_nodup (ok : okPlan h z ls items = true) : (items.map (·.f0)).Nodup := by
  unfold okPlan at ok
  simp only [Bool.and_eq_true] at ok
  exact of_decide_eq_true ok.1.1.2
theorem ok_z (ok : okPlan h z ls items = true) : 1 ≤ z ∧ z ≤ 4 ∧ 0 ≤ h ∧ h ≤ 6 := by
  unfold okPlan at ok
  simp only [Bool.and_eq_true, decide_eq_true_eq] at ok
  obtain ⟨⟨⟨⟨⟨h1, h2⟩, h3⟩, h4⟩, h5⟩, h6⟩ := ok
  exact ⟨h2, h3, h1.1, h1.2⟩
theorem ok_leaves (ok : okPlan h z ls items = true) : ls.all (B.okb h) = true ∧ ∀ x ∈ items, B.okb h x.f1 = true := by
  unfold okPlan at ok
  simp only [Bool.and_eq_true] at ok
  exact ⟨ok.1.2, fun x hx => List.all_eq_true.1 ok.2 x hx⟩
theorem planP_ok (ok : okPlan h z ls items = true) : planP h z ls items = (srtF (runB z h (ordB (B.unionOf h ls)) (srt items)).1, (runB z h (ordB (B.unionOf h ls)) (srt items)).2.map (·.f0)) := by unfold planP; rw [if_pos ok]

/-- The answer's facts. -/
structure Facts (h z : Int) (ls : List Int) (items : List It) (f : List Fl) (left : List Int) : Prop where
  keys : f.map (·.f0) = B.unionOf h ls
  perm : (f.flatMap (·.f1) ++ left).Perm (items.map (·.f0))
  le : ∀ F ∈ f, (F.f1.length : Int) ≤ z
  on : ∀ F ∈ f, ∀ x ∈ items, x.f0 ∈ F.f1 → onB h F.f0 x = true
  full : ∀ x ∈ items, x.f0 ∈ left → ∀ F ∈ f, onB h F.f0 x = true → z ≤ (F.f1.length : Int)
  deep : ∀ x ∈ items, ∀ F ∈ f, ∀ G ∈ f, x.f0 ∈ G.f1 → lvI G.f0 < lvI F.f0 → onB h F.f0 x = true → z ≤ (F.f1.length : Int)

theorem ordB_sorted (u : List Int) : (ordB u).Pairwise fun a b => leI a b = true :=
  List.pairwise_mergeSort (le := leI) (fun a b c h1 h2 => by unfold leI at *; simp only [decide_eq_true_eq] at *; omega) (fun a b => by unfold leI; simp only [Bool.or_eq_true, decide_eq_true_eq]; omega) u

theorem flat_perm {l m : List Fl} (hp : l.Perm m) : (l.flatMap (·.f1)).Perm (m.flatMap (·.f1)) := by
  induction hp with
  | nil => exact List.Perm.refl _
  | cons x _ ih => rw [List.flatMap_cons, List.flatMap_cons]; exact List.Perm.append_left _ ih
  | swap x y l =>
    simp only [List.flatMap_cons, ← List.append_assoc]
    exact List.Perm.append_right _ List.perm_append_comm
  | trans _ _ ih1 ih2 => exact ih1.trans ih2

theorem facts (ok : okPlan h z ls items = true) : Facts h z ls items (planP h z ls items).1 (planP h z ls items).2 := by
  rw [planP_ok ok]
  have hn := ok_nodup ok
  have hn2 : ((srt items).map (·.f0)).Nodup := ((srt_perm items).map (·.f0)).nodup_iff.2 hn
  have hmem : ∀ x, x ∈ srt items ↔ x ∈ items := fun x => (srt_perm items).mem_iff
  have hF : ∀ F, F ∈ srtF (runB z h (ordB (B.unionOf h ls)) (srt items)).1 ↔ F ∈ (runB z h (ordB (B.unionOf h ls)) (srt items)).1 := fun F => (srtF_perm _).mem_iff
  have hkeys : ((runB z h (ordB (B.unionOf h ls)) (srt items)).1.map (·.f0)).Nodup := by
    rw [runB_keys]
    exact (ordB_perm _).nodup_iff.2 ((union_strict h ls).imp (fun h => by omega))
  refine ⟨?_, ?_, ?_, ?_, ?_, ?_⟩
  · refine perm_eq (r := fun a b : Int => a < b) (fun a b h => by omega) _ _ ?_ ?_ (union_strict h ls)
    · refine ((srtF_perm _).map _).trans ?_
      rw [runB_keys]
      exact ordB_perm _
    · rw [List.pairwise_map]
      exact merge_strict (fun a : Fl => a.f0) _ hkeys
  · refine (List.Perm.append_right _ (flat_perm (srtF_perm _))).trans ((runB_perm _ _).trans ((srt_perm items).map _))
  · exact fun F hf => runB_le (by have := (ok_z ok).1; omega) _ _ F ((hF F).1 hf)
  · intro F hf x hx hxF
    obtain ⟨y, hy, h1, h2⟩ := runB_from _ _ F ((hF F).1 hf) x.f0 hxF
    rw [nodup_inj hn ((hmem y).1 hy) hx h2] at h1
    exact h1
  · intro x hx hxl F hf ho
    obtain ⟨y, hy, e⟩ := List.mem_map.1 hxl
    have : y = x := nodup_inj hn ((hmem y).1 ((runB_sub _ _).mem hy)) hx e
    subst this
    exact runB_full _ _ F ((hF F).1 hf) y hy ho
  · intro x hx F hf G hg hxG hlv ho
    have hd := runB_deep (z := z) (h := h) (ordB (B.unionOf h ls)) (srt items) hn2
    have hs := ordB_sorted (B.unionOf h ls)
    rw [← runB_keys z h (ordB (B.unionOf h ls)) (srt items), List.pairwise_map] at hs
    have hf' := (hF F).1 hf
    have hg' := (hF G).1 hg
    revert hd hs hf' hg'
    generalize (runB z h (ordB (B.unionOf h ls)) (srt items)).1 = L
    intro hd hs hf' hg'
    obtain ⟨i, hi, ei⟩ := List.getElem_of_mem hf'
    obtain ⟨j, hj, ej⟩ := List.getElem_of_mem hg'
    rw [List.pairwise_iff_getElem] at hd hs
    rcases Nat.lt_trichotomy i j with q | q | q
    · have := hd i j hi hj q x ((hmem x).2 hx) (by rw [ej]; exact hxG) (by rw [ei]; exact ho)
      rwa [ei] at this
    · subst q
      rw [ei] at ej
      subst ej
      omega
    · have := hs j i hj hi q
      rw [ei, ej] at this
      unfold leI at this
      simp only [decide_eq_true_eq] at this
      omega
end
end Go.Proofs.YtfliapankgdeeaaGreat.A

namespace Go.Proofs.YtfliapankgdeeaaGreat.A
open Go.RowKit Go.Proofs.YtfliapankgdeeaaGreatW.PrintWords Go.Proofs.YtfliapankgdeeaaGreatW.PrintLast Go.Proofs.YtfliapankgdeeaaGreatW.PrintMore Go.Proofs.YtfliapankgdeeaaGreat.G
set_option linter.unusedVariables false
set_option linter.unusedSimpArgs false

theorem wrap_at (i : Nat) (h : i < 1000000) : wrap64 ((i : Int) + 1) = ((i + 1 : Nat) : Int) := by rw [B.wrap_ok (by omega) (by omega)]; omega
theorem rdI {l : List It} {i : Nat} (h : i < l.length) : rd_T35 l (i : Int) = l[i] := by
  unfold rd_T35
  rw [Int.toNat_natCast, List.getD_eq_getElem?_getD, List.getElem?_eq_getElem h]; rfl
theorem rdF {l : List Fl} {i : Nat} (h : i < l.length) : rd_T42 l (i : Int) = l[i] := by
  unfold rd_T42
  rw [Int.toNat_natCast, List.getD_eq_getElem?_getD, List.getElem?_eq_getElem h]; rfl
abbrev Ri := S56
abbrev Rf := S58
def cv (x : It) : Ri := ⟨x.f0, x.f1⟩
def cvF (x : Fl) : Rf := ⟨x.f0, x.f1⟩
theorem rdRi {l : List Ri} {i : Nat} (h : i < l.length) : rd_T56 l (i : Int) = l[i] := by
  unfold rd_T56
  rw [Int.toNat_natCast, List.getD_eq_getElem?_getD, List.getElem?_eq_getElem h]; rfl
theorem rdRf {l : List Rf} {i : Nat} (h : i < l.length) : rd_T58 l (i : Int) = l[i] := by
  unfold rd_T58
  rw [Int.toNat_natCast, List.getD_eq_getElem?_getD, List.getElem?_eq_getElem h]; rfl
theorem rdN {l : List Int} {i : Nat} (h : i < l.length) : rd l (i : Int) = l[i] := by
  unfold rd
  rw [Int.toNat_natCast, List.getD_eq_getElem?_getD, List.getElem?_eq_getElem h]; rfl

theorem items_loop (l : List It) (hl : l.length ≤ 1000) : ∀ (d k i : Nat), i + d = l.length → d < k → oublaw11_items.l0 k l ((l.take i).map cv) (i : Int) = some (l.map cv)
  | d, 0, i, _, h => by omega
  | 0, k + 1, i, hi, _ => by
    obtain rfl : i = l.length := by omega
    rw [oublaw11_items.l0, if_neg (by omega), List.take_length]
  | d + 1, k + 1, i, hi, h => by
    have hlt : i < l.length := by omega
    rw [oublaw11_items.l0, if_pos (by omega), if_pos (by omega), if_pos (by rw [List.length_map, List.length_take]; omega), wrap_at i (by omega), rdI hlt]
    have := items_loop l hl d k (i + 1) (by omega) (by omega)
    rw [List.take_succ_eq_append_getElem hlt, List.map_append] at this
    exact this
theorem items_any (l : List It) (hl : l.length ≤ 1000) (k : Nat) (hk : l.length < k) : oublaw11_items.f k l = some (l.map cv) := by
  have := items_loop l hl l.length k 0 (by omega) hk
  simpa [oublaw11_items.f] using this
theorem fills_loop (l : List Fl) (hl : l.length ≤ 1000) : ∀ (d k i : Nat), i + d = l.length → d < k → oublaw11_fills.l0 k l ((l.take i).map cvF) (i : Int) = some (l.map cvF)
  | d, 0, i, _, h => by omega
  | 0, k + 1, i, hi, _ => by
    obtain rfl : i = l.length := by omega
    rw [oublaw11_fills.l0, if_neg (by omega), List.take_length]
  | d + 1, k + 1, i, hi, h => by
    have hlt : i < l.length := by omega
    rw [oublaw11_fills.l0, if_pos (by omega), if_pos (by omega), if_pos (by rw [List.length_map, List.length_take]; omega), wrap_at i (by omega), rdF hlt]
    have := fills_loop l hl d k (i + 1) (by omega) (by omega)
    rw [List.take_succ_eq_append_getElem hlt, List.map_append] at this
    exact this
theorem fills_any (l : List Fl) (hl : l.length ≤ 1000) (k : Nat) (hk : l.length < k) : oublaw11_fills.f k l = some (l.map cvF) := by
  have := fills_loop l hl l.length k 0 (by omega) hk
  simpa [oublaw11_fills.f] using this
theorem held_loop (l : List Fl) (hl : l.length ≤ 1000) (hm : ((l.flatMap (·.f1)).length) ≤ 100000) : ∀ (d k i : Nat), i + d = l.length → d < k → evict_Held.l0 k (((l.take i).flatMap (·.f1)).length : Int) l (l.length : Int) (i : Int) = some ((l.flatMap (·.f1)).length : Int)
  | d, 0, i, _, h => by omega
  | 0, k + 1, i, hi, _ => by
    obtain rfl : i = l.length := by omega
    rw [evict_Held.l0, if_neg (by omega), List.take_length]
  | d + 1, k + 1, i, hi, h => by
    have hlt : i < l.length := by omega
    have hle : ((l.take i).flatMap (·.f1)).length + (l[i].f1).length ≤ (l.flatMap (·.f1)).length := by
      conv => rhs; rw [← List.take_append_drop i l, List.drop_eq_getElem_cons hlt]
      simp only [List.flatMap_append, List.flatMap_cons, List.length_append]
      omega
    rw [evict_Held.l0, if_pos (by omega), if_pos (by omega), if_pos (by omega), wrap_at i (by omega), rdF hlt, B.wrap_ok (by omega) (by omega)]
    have := held_loop l hl hm d k (i + 1) (by omega) (by omega)
    rw [List.take_succ_eq_append_getElem hlt, List.flatMap_append, List.length_append] at this
    simpa using this
theorem held_any (l : List Fl) (hl : l.length ≤ 1000) (hm : ((l.flatMap (·.f1)).length) ≤ 100000) (k : Nat) (hk : l.length < k) : evict_Held.f k l = some ((l.flatMap (·.f1)).length : Int) := by
  have := held_loop l hl hm l.length k 0 (by omega) hk
  simpa [evict_Held.f] using this
theorem has_loop (l : List Int) (b : Int) (hl : l.length ≤ 1000) : ∀ (d k i : Nat), i + d = l.length → d < k → oubref_Has.l0 k l b (i : Int) = some (decide (b ∈ l.drop i))
  | d, 0, i, _, h => by omega
  | 0, k + 1, i, hi, _ => by
    obtain rfl : i = l.length := by omega
    rw [oubref_Has.l0, if_neg (by omega), List.drop_length]
    simp
  | d + 1, k + 1, i, hi, h => by
    have hlt : i < l.length := by omega
    rw [oubref_Has.l0, if_pos (by omega), if_pos (by omega), rdN hlt, List.drop_eq_getElem_cons hlt]
    by_cases e : l[i] = b
    · rw [if_pos e, e]; simp
    · rw [if_neg e, wrap_at i (by omega), has_loop l b hl d k (i + 1) (by omega) (by omega)]
      congr 1
      exact decide_eq_decide.2 (by rw [List.mem_cons]; exact ⟨.inr, fun h => h.resolve_left (fun h => e h.symm)⟩)
theorem has_any (l : List Int) (b : Int) (hl : l.length ≤ 1000) (k : Nat) (hk : l.length < k) : oubref_Has.f k l b = some (decide (b ∈ l)) := by
  have := has_loop l b hl l.length k 0 (by omega) hk
  simpa [oubref_Has.f] using this

/-! ### MayPlan -/
section
variable (h : Int) (l : List It)
/-- No item among the d ahead of j has its id. -/
def dn (j : Nat) : Nat → Bool
  | 0 => true
  | d + 1 => decide (l[j - (d + 1)]!.f0 ≠ l[j]!.f0) && dn j d
/-- The last d items may be. -/
def mr : Nat → Bool
  | 0 => true
  | d + 1 => B.okb h l[l.length - (d + 1)]!.f1 && dn l (l.length - (d + 1)) (l.length - (d + 1)) && mr d

theorem rd_cv {i : Nat} (hi : i < l.length) : rd_T56 (l.map cv) (i : Int) = cv l[i]! := by
  rw [rdRi (by simpa using hi), List.getElem_map, getElem!_pos l i hi]
theorem mp_l2 (hl : l.length ≤ 1000) (j : Nat) (hj : j < l.length) (M : Nat) (b : Bool) (hM : ∀ k, M ≤ k → oubref7_MayPlan.l1 k h (l.map cv) ((j + 1 : Nat) : Int) = some b) : ∀ (d k i : Nat), i + d = j → d + M < k → oubref7_MayPlan.l2 k h (l.map cv) (j : Int) (i : Int) = some (dn l j d && b)
  | d, 0, i, _, hk => by omega
  | 0, k + 1, i, hi, hk => by
    obtain rfl : i = j := by omega
    rw [oubref7_MayPlan.l2, if_neg (by omega), wrap_at i (by omega), hM k (by omega)]
    simp [dn]
  | d + 1, k + 1, i, hi, hk => by
    have hjd : j - (d + 1) = i := by omega
    rw [oubref7_MayPlan.l2, if_pos (by omega), if_pos (by omega), if_pos (by rw [List.length_map]; omega), if_pos (by omega), if_pos (by rw [List.length_map]; omega), rd_cv l (by omega), rd_cv l hj, dn, hjd]
    by_cases e : l[i]!.f0 = l[j]!.f0
    · rw [if_pos (show (cv l[i]!).f0 = (cv l[j]!).f0 from e), decide_eq_false (by simpa using e)]
      rfl
    · rw [if_neg (show ¬ (cv l[i]!).f0 = (cv l[j]!).f0 from e), decide_eq_true e, wrap_at i (by omega), mp_l2 hl j hj M b hM d k (i + 1) (by omega) (by omega)]
      rfl
theorem mayLeaf_any (h a : Int) : oubref7_MayLeaf.f h a = some (B.okb h a) := by
  unfold oubref7_MayLeaf.f
  by_cases hh : 0 ≤ h ∧ h ≤ 6
  · obtain ⟨m, rfl, hm⟩ : ∃ m : Nat, h = m ∧ m < 7 := ⟨h.toNat, by omega, by omega⟩
    obtain ⟨h1, h2⟩ := B.shl_in m hm
    have e : oubref7_MayHeight.f m = some true := by
      rcases (by omega : m = 0 ∨ m = 1 ∨ m = 2 ∨ m = 3 ∨ m = 4 ∨ m = 5 ∨ m = 6) with rfl | rfl | rfl | rfl | rfl | rfl | rfl <;> decide
    rw [e, Option.bind_some, if_pos rfl]
    unfold B.okb
    by_cases ha : a ≥ 0
    · rw [if_pos ha, if_pos h2, h1]
      congr 1
      exact decide_eq_decide.2 (by rw [Int.toNat_natCast]; constructor
                                   · intro q; exact ⟨by omega, by omega, ha, by omega⟩
                                   · intro q; have := q.2.2.2; omega)
    · rw [if_neg ha, decide_eq_false (by omega)]
  · have e : oubref7_MayHeight.f h = some false := by
      unfold oubref7_MayHeight.f
      by_cases h0 : h ≥ 0
      · rw [if_pos h0, decide_eq_false (by omega)]
      · rw [if_neg h0]
    have ho : B.okb h a = false := by unfold B.okb; exact decide_eq_false (by omega)
    rw [e, ho]
    rfl
theorem mp_l1 (hl : l.length ≤ 1000) : ∀ (d k j : Nat), j + d = l.length → d * (l.length + 3) < k → oubref7_MayPlan.l1 k h (l.map cv) (j : Int) = some (mr h l d)
  | d, 0, j, _, hk => by omega
  | 0, k + 1, j, hj, hk => by
    rw [oubref7_MayPlan.l1, if_neg (by rw [List.length_map]; omega)]
    rfl
  | d + 1, k + 1, j, hj, hk => by
    have hjd : l.length - (d + 1) = j := by omega
    have hk2 : d * (l.length + 3) + (l.length + 3) < k + 1 := by rw [Nat.add_mul, Nat.one_mul] at hk; exact hk
    rw [oubref7_MayPlan.l1, if_pos (by rw [List.length_map]; omega), if_pos (by omega), rd_cv l (by omega), mayLeaf_any, Option.bind_some, mr, hjd]
    show (if B.okb h l[j]!.f1 = true then _ else _) = _
    cases hb : B.okb h l[j]!.f1 with
    | false => rfl
    | true =>
      rw [if_pos rfl, show ((0 : Int)) = ((0 : Nat) : Int) from rfl, mp_l2 h l hl j (by omega) (d * (l.length + 3) + 1) (mr h l d) (fun k' hk' => mp_l1 hl d k' (j + 1) (by omega) (by omega)) j k 0 (by omega) (by omega)]
      rfl
theorem mp_l0 (ls : List Int) (hls : ls.length ≤ 1000) (hl : l.length ≤ 1000) : ∀ (d k i : Nat), i + d = ls.length → d + l.length * (l.length + 3) + 1 < k → oubref7_MayPlan.l0 k h ls (l.map cv) (i : Int) = some ((ls.drop i).all (B.okb h) && mr h l l.length)
  | d, 0, i, _, hk => by omega
  | 0, k + 1, i, hi, hk => by
    obtain rfl : i = ls.length := by omega
    rw [oubref7_MayPlan.l0, if_neg (by omega), show ((0 : Int)) = ((0 : Nat) : Int) from rfl, mp_l1 h l hl l.length k 0 (by omega) (by omega), List.drop_length]
    rfl
  | d + 1, k + 1, i, hi, hk => by
    have hlt : i < ls.length := by omega
    rw [oubref7_MayPlan.l0, if_pos (by omega), if_pos (by omega), rdN hlt, mayLeaf_any, Option.bind_some, List.drop_eq_getElem_cons hlt, List.all_cons]
    cases hb : B.okb h ls[i] with
    | false => rfl
    | true =>
      rw [if_pos rfl, wrap_at i (by omega), mp_l0 ls hls hl d k (i + 1) (by omega) (by omega)]
      rfl
theorem dn_iff (j : Nat) (hj : j < l.length) : ∀ d, d ≤ j → (dn l j d = true ↔ ∀ i, j - d ≤ i → i < j → l[i]!.f0 ≠ l[j]!.f0)
  | 0, _ => by simp [dn]; intro i h1 h2; omega
  | d + 1, hd => by
    rw [dn, Bool.and_eq_true, decide_eq_true_eq, dn_iff j hj d (by omega)]
    constructor
    · rintro ⟨h1, h2⟩ i hi hij
      by_cases q : i = j - (d + 1)
      · subst q; exact h1
      · exact h2 i (by omega) hij
    · intro q
      exact ⟨q _ (Nat.le_refl _) (by omega), fun i hi hij => q i (by omega) hij⟩
theorem mr_iff : ∀ d, d ≤ l.length → (mr h l d = true ↔ ∀ j, l.length - d ≤ j → j < l.length → B.okb h l[j]!.f1 = true ∧ ∀ i, i < j → l[i]!.f0 ≠ l[j]!.f0)
  | 0, _ => by simp [mr]; intro j h1 h2; omega
  | d + 1, hd => by
    rw [mr, Bool.and_eq_true, Bool.and_eq_true, mr_iff d (by omega), dn_iff l _ (by omega) _ (Nat.le_refl _)]
    constructor
    · rintro ⟨⟨h1, h2⟩, h3⟩ j hj hjl
      by_cases q : j = l.length - (d + 1)
      · subst q; exact ⟨h1, fun i hi => h2 i (by omega) hi⟩
      · exact h3 j (by omega) hjl
    · intro q
      obtain ⟨q1, q2⟩ := q (l.length - (d + 1)) (Nat.le_refl _) (by omega)
      exact ⟨⟨q1, fun i _ hi => q2 i hi⟩, fun j hj hjl => q j (by omega) hjl⟩
theorem mr_is : mr h l l.length = (decide ((l.map (·.f0)).Nodup) && l.all fun x => B.okb h x.f1) := by
  rw [Bool.eq_iff_iff, mr_iff h l l.length (Nat.le_refl _), Bool.and_eq_true, decide_eq_true_eq, List.all_eq_true, List.Nodup, List.pairwise_iff_getElem]
  constructor
  · intro q
    refine ⟨fun i j hi hj hij => ?_, fun x hx => ?_⟩
    · rw [List.length_map] at hi hj
      simp only [List.getElem_map]
      have := (q j (by omega) hj).2 i hij
      rwa [getElem!_pos l i hi, getElem!_pos l j hj] at this
    · obtain ⟨j, hj, rfl⟩ := List.getElem_of_mem hx
      have := (q j (by omega) hj).1
      rwa [getElem!_pos l j hj] at this
  · rintro ⟨h1, h2⟩ j _ hj
    refine ⟨by rw [getElem!_pos l j hj]; exact h2 _ (List.getElem_mem hj), fun i hi => ?_⟩
    have := h1 i j (by rw [List.length_map]; omega) (by rw [List.length_map]; exact hj) hi
    simp only [List.getElem_map] at this
    rwa [getElem!_pos l i (by omega), getElem!_pos l j hj]
end
theorem mayPlan_any (h z : Int) (ls : List Int) (l : List It) (hls : ls.length ≤ 100) (hl : l.length ≤ 100) (k : Nat) (hk : 20000 ≤ k) : oubref7_MayPlan.f k h z ls (l.map cv) = some (okPlan h z ls l) := by
  have hmul : l.length * (l.length + 3) ≤ 100 * 103 := Nat.mul_le_mul hl (by omega)
  obtain ⟨k, rfl⟩ : ∃ q, k = q + 1 := ⟨k - 1, by omega⟩
  unfold oubref7_MayPlan.f okPlan
  have hH : oubref7_MayHeight.f h = some (decide (0 ≤ h ∧ h ≤ 6)) := by
    unfold oubref7_MayHeight.f
    by_cases h0 : h ≥ 0
    · rw [if_pos h0]; congr 1; exact decide_eq_decide.2 (by omega)
    · rw [if_neg h0, decide_eq_false (by omega)]
  have hZ : ∃ t, oubref7_Length.f z = some t ∧ (t == 0) = !(decide (1 ≤ z) && decide (z ≤ 4)) := by
    unfold oubref7_Length.f
    by_cases h1 : z < 1
    · rw [if_pos h1]; exact ⟨0, rfl, by simp; omega⟩
    · rw [if_neg h1]
      by_cases h2 : z > 4
      · rw [if_pos h2]; exact ⟨0, rfl, by simp; omega⟩
      · rw [if_neg h2]
        refine ⟨_, rfl, ?_⟩
        rw [B.wrap_ok (by omega) (by omega), decide_eq_true (by omega : 1 ≤ z), decide_eq_true (by omega : z ≤ 4)]
        simp; omega
  obtain ⟨t, ht, htz⟩ := hZ
  rw [hH, Option.bind_some]
  cases hb : decide (0 ≤ h ∧ h ≤ 6) with
  | false => rw [if_neg (by decide), oubref7_MayPlan.j0, if_pos rfl]; simp
  | true =>
    rw [if_pos rfl, ht, Option.bind_some, htz, oubref7_MayPlan.j0]
    cases h2 : (decide (1 ≤ z) && decide (z ≤ 4)) with
    | false =>
      rw [if_pos (show (!false) = true from rfl)]
      simp only [Bool.true_and, h2, Bool.false_and]
    | true =>
      rw [if_neg (show ¬ (!true) = true by decide), show ((0 : Int)) = ((0 : Nat) : Int) from rfl, mp_l0 h l ls (by omega) (by omega) ls.length k 0 (by omega) (by omega), List.drop_zero, mr_is]
      simp only [Bool.true_and, h2]
      congr 1
      cases ls.all (B.okb h) <;> cases decide ((l.map (·.f0)).Nodup) <;> simp
end Go.Proofs.YtfliapankgdeeaaGreat.A

namespace Go.Proofs.YtfliapankgdeeaaGreat.A
open Go.RowKit Go.Shelf Go.Lib Go.Sort Go.Proofs.YtfliapankgdeeaaGreatW.PrintWords Go.Proofs.YtfliapankgdeeaaGreatW.PrintLast Go.Proofs.YtfliapankgdeeaaGreatW.PrintMore Go.Proofs.YtfliapankgdeeaaGreat.G
set_option linter.unusedVariables false

theorem ord01 : ordB [0, 1] = [1, 0] := by
  refine perm_eq (r := fun a b : Int => leI a b = true ∧ a ≠ b) (fun a b h k => ?_) _ _ ((ordB_perm _).trans (by decide)) ?_ (by decide +kernel)
  · have h1 := h.1
    have h2 := k.1
    have h3 := h.2
    unfold leI at h1 h2
    simp only [decide_eq_true_eq] at h1 h2
    omega
  · have hn : (ordB [0, 1]).Nodup := (ordB_perm _).nodup_iff.2 (by decide)
    exact (ordB_sorted [0, 1]).and hn
theorem plan_first : planP 1 1 [0] [⟨3, 0⟩, ⟨5, 1⟩] = ([⟨0, [5]⟩, ⟨1, [3]⟩], []) := by
  have hu : B.unionOf 1 [0] = [0, 1] := by decide +kernel
  have hs : srt [⟨3, 0⟩, ⟨5, 1⟩] = [⟨3, 0⟩, ⟨5, 1⟩] := (sort_unique (fun a : It => a.f0) (List.Perm.refl _) (by simp) (by simp)).symm
  have h10 : onB 1 1 ⟨3, 0⟩ = true := by decide +kernel
  have h11 : onB 1 1 ⟨5, 1⟩ = false := by decide +kernel
  have h01 : onB 1 0 ⟨5, 1⟩ = true := by decide +kernel
  have hr : runB 1 1 [1, 0] [⟨3, 0⟩, ⟨5, 1⟩] = ([⟨1, [3]⟩, ⟨0, [5]⟩], []) := by simp [runB, tk, takes, h10, h11, h01]
  rw [planP_ok (by decide +kernel), hu, ord01, hs, hr]
  have hf : srtF [⟨1, [3]⟩, ⟨0, [5]⟩] = [⟨0, [5]⟩, ⟨1, [3]⟩] := (sort_unique (fun a : Fl => a.f0) (List.Perm.swap _ _ _) (by simp) (by simp)).symm
  rw [hf]
  rfl
theorem first_eval : F.oublaw11_first.f 20 = some true := by
  unfold F.oublaw11_first.f
  have e : evict_Plan.f 1 1 [0] [⟨3, 0⟩, ⟨5, 1⟩] = some ([⟨0, [5]⟩, ⟨1, [3]⟩], []) := by unfold evict_Plan.f; rw [if_pos (by simp), plan_first]
  rw [e]
  decide +kernel
end Go.Proofs.YtfliapankgdeeaaGreat.A
namespace Go.Proofs.YtfliapankgdeeaaGreat.G
open Go.RowKit Go.Proofs.YtfliapankgdeeaaGreatW.PrintWords Go.Proofs.YtfliapankgdeeaaGreatW.PrintLast Go.Proofs.YtfliapankgdeeaaGreatW.PrintMore
def oublaw11_first.f : Option Bool := some true
theorem oublaw11_first.calls (r : Bool) (w : World) (h : oublaw11_first.f = some r) : Calls Tryz.prog 4 #[] w fun e w' => e = .returned (.bool r) ∧ Below w.heap.size w w' := by
  obtain rfl : true = r := Option.some.inj h
  exact F.oublaw11_first.calls 20 true w ⟨rfl⟩ A.first_eval
end Go.Proofs.YtfliapankgdeeaaGreat.G
