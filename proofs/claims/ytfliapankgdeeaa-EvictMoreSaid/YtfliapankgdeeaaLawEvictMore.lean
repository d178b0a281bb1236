/- A row's arguments of whole numbers and of items, opened. EvictMore: the plain law. EvictMore holds of every input: larger buckets never leave more; with no paths all are left, told in order. No conditions. -/
import Derived.Test.YtfliapankgdeeaaEvQ
import Derived.WalkKit
import Derived.ProofKit
import Derived.OpenShut
import Derived.ShutString
import Derived.ChangeOld
import Derived.Below
import Derived.SizedLaws
import Derived.Deep.Slices
import Derived.ChangeSame
import Derived.Test.YtfliapankgdeeaaMx1
import Derived.Test.YtfliapankgdeeaaRows
import Derived.Test.YtfliapankgdeeaaWSized
namespace Go.Proofs.Ytfliapankgdeeaa.A
open Go.RowKit Go.Maps Go.Sort Go.Shelf Go.Proofs.YtfliapankgdeeaaW.PrintWords Go.Proofs.Ytfliapankgdeeaa.G Go.ChangeShapes Go.WideShapes Go.ChangeAt
set_option linter.unusedVariables false
section
variable {H : Type} {enc : TypeId × Value → H} {W : World}
set_option maxRecDepth 100000 in
theorem open_int_at {n : Nat} {cs : List Value} {x : DataW H × List MemPlace} (h : DataW.trod enc Try.prog W 0 (fun _ => true) true n 3 cs = some x) : ∃ i, cs = [.int .i64 i] ∧ (Lit.int .i64 i).wf = true := by
  cases n with
  | zero => simp [DataW.trod] at h
  | succ n =>
    unfold DataW.trod at h
    rw [Try.underlying3] at h
    match cs, h with
    | [.int k i], h =>
      by_cases hk : k = .i64 ∧ (Lit.int .i64 i).wf = true
      · obtain ⟨rfl, hw⟩ := hk
        exact ⟨i, rfl, hw⟩
      · simp [hk] at h
theorem open_ints_at {n : Nat} {cs : List Value} {x : DataW H × List MemPlace} (h : DataW.trod enc Try.prog W 0 (fun _ => true) true n 22 cs = some x) : ∃ A xs c, cs = [.slice A (xs : List Int).length c] ∧ xs.length ≤ c ∧ Kd.C (Kd.int .i64) W A xs.length xs := by
  rcases open_ints Try.underlying22 Try.underlying3 (by kernel_rfl) h with ⟨rfl, _⟩ | ⟨a, len, cap, zs, rfl, _, hl, hm, hz, _, hcell, hwz⟩
  · exact ⟨none, [], 0, rfl, Nat.le_refl _, Kd.C_nil _ _⟩
  · obtain ⟨l, rfl, hr, _, _, hc⟩ := ReadsInt.ofRowC (k := .i64) (w := W) (a := some a) (len := len) (cap := cap) (zs := zs) (.inr ⟨_, rfl, hl, hm, by simpa using hz, hcell, hwz⟩)
    exact ⟨some a, l, cap, rfl, hc, Kd.C_of_reads (d := (0 : Int)) (h1 := fun _ => rfl) hr⟩
theorem open_item_at {n : Nat} {cs : List Value} {x : DataW H × List MemPlace} (h : DataW.trod enc Try.prog W 0 (fun _ => true) true n 39 cs = some x) : ∃ b : It, k39.K W b cs := by
  obtain ⟨y0, y1, m, _, hl, h0, h1⟩ := trod_struct2 Try.underlying39 h
  have c1 : Try.prog.cellsOf 3 = 1 := by kernel_rfl
  have c3 : Try.prog.cellsOf 39 = 2 := by kernel_rfl
  simp only [c1, c3] at hl h0 h1
  match cs, hl with
  | [v0, v1], _ =>
    obtain ⟨i, e0, _⟩ := open_int_at h0
    obtain ⟨j, e1, _⟩ := open_int_at h1
    simp at e0 e1
    subst e0 e1
    exact ⟨⟨i, j⟩, k39_mk W ⟨i, j⟩⟩
theorem list_of {α : Type} {Q : Nat → α → Prop} : ∀ (n : Nat), (∀ i, i < n → ∃ a, Q i a) → ∃ l : List α, l.length = n ∧ ∀ (i : Nat) a, l[i]? = some a → Q i a
  | 0, _ => ⟨[], rfl, fun i a h => by simp at h⟩
  | n + 1, h => by
    obtain ⟨l, hl, hq⟩ := list_of n (fun i hi => h i (by omega))
    obtain ⟨a, ha⟩ := h n (by omega)
    refine ⟨l ++ [a], by simp [hl], fun i b hb => ?_⟩
    by_cases hi : i < l.length
    · rw [List.getElem?_append_left hi] at hb
      exact hq i b hb
    · have hi2 : i = n := by
        have := (List.getElem?_eq_some_iff.1 hb).1
        simp at this
        omega
      subst hi2
      rw [List.getElem?_append_right (by omega), hl] at hb
      simp at hb
      exact hb ▸ ha
set_option maxRecDepth 100000 in
theorem open_items_at {n : Nat} {cs : List Value} {x : DataW H × List MemPlace} (h : DataW.trod enc Try.prog W 0 (fun _ => true) true n 23 cs = some x) :
    ∃ A l c, cs = [.slice A (l : List It).length c] ∧ l.length ≤ c ∧ l.length ≤ 9223372036854775807 ∧ Kd.C k39 W A l.length l := by
  rcases Go.Deep.open_slice Try.underlying23 h with ⟨rfl, _⟩ | ⟨a, len, cap, m, q, D, Pl, rfl, _, hl, hm, hmm, _, hx⟩
  · exact ⟨none, [], 0, rfl, Nat.le_refl _, by simp, Kd.C_nil _ _⟩
  · have hlm : len ≤ m := by rw [hmm]; split <;> omega
    have c3 : Try.prog.cellsOf 39 = 2 := by kernel_rfl
    obtain ⟨l, rfl, hq⟩ := list_of (Q := fun i (b : It) => ∃ cs', cs'.length = 2 ∧ k39.K W b cs' ∧ (∀ j u, cs'[j]? = some u → W.cell? (a.add (i * 2 + j)) = some u)) len (fun i hi => by
      obtain ⟨cs', h1, h2⟩ := hx i (by omega)
      rw [c3] at h1
      obtain ⟨_, hlen, hcell⟩ := World.cells?_some h1
      obtain ⟨b, hb⟩ := open_item_at h2
      refine ⟨b, cs', hlen, hb, fun j u hu => ?_⟩
      have hj : j < 2 := by have := (List.getElem?_eq_some_iff.1 hu).1; omega
      have := hcell j hj
      rw [hu] at this
      rw [← this]
      congr 1
      unfold Addr.add
      split <;> split <;> split <;> simp_all <;> omega)
    have hbig : l.length ≤ 9223372036854775807 := by unfold maxLen at hm; omega
    refine ⟨some a, l, cap, rfl, hl, hbig, ⟨rfl, hbig, fun _ => ⟨a, rfl, fun j p hj => ?_⟩⟩⟩
    obtain ⟨cs', e1, e2, e3⟩ := hq j p hj
    exact ⟨cs', e1, e2, e3⟩
end
end Go.Proofs.Ytfliapankgdeeaa.A

namespace Go.Proofs.Ytfliapankgdeeaa.A
open Go.RowKit Go.Proofs.YtfliapankgdeeaaW.PrintWords Go.Proofs.YtfliapankgdeeaaW.PrintLast Go.Proofs.YtfliapankgdeeaaW.PrintMore Go.Proofs.Ytfliapankgdeeaa.G Go.Proofs.Ytfliapankgdeeaa.M
set_option linter.unusedVariables false
set_option linter.unusedSimpArgs false

theorem facts_len {h z : Int} {ls : List Int} {items : List It} {f : List Fl} {left : List Int} (FA : Facts h z ls items f left) : f.length ≤ 127 ∧ left.length ≤ items.length ∧ (f.flatMap (·.f1)).length + left.length = items.length := by
  have h1 := congrArg List.length FA.keys
  rw [List.length_map] at h1
  have h2 := B.union_length h ls
  have h3 := FA.perm.length_eq
  rw [List.length_append, List.length_map] at h3
  exact ⟨by omega, by omega, h3⟩

/-- How many of those on the bucket are left when it has been filled. -/
theorem tk_cnt (z : Int) (p : It → Bool) : ∀ (l : List It) (ids : List Int), (tk z p ids l).2.countP p = l.countP p - (z.toNat - ids.length)
  | [], ids => by simp [tk]
  | x :: r, ids => by
    rw [tk]
    split
    · rename_i h
      unfold takes at h
      simp only [Bool.and_eq_true, decide_eq_true_eq] at h
      rw [tk_cnt z p r, List.countP_cons_of_pos h.2, List.length_append, List.length_singleton]
      omega
    · rename_i h
      show (x :: (tk z p ids r).2).countP p = _
      by_cases hp : p x = true
      · unfold takes at h
        rw [hp, Bool.and_true, decide_eq_true_eq] at h
        rw [List.countP_cons_of_pos hp, List.countP_cons_of_pos hp, tk_cnt z p r]
        omega
      · rw [List.countP_cons_of_neg hp, List.countP_cons_of_neg hp, tk_cnt z p r]
/-- .. of those elsewhere all are. -/
theorem tk_else (z : Int) (p q : It → Bool) (hq : ∀ x, p x = true → q x = false) : ∀ (l : List It) (ids : List Int), (tk z p ids l).2.countP q = l.countP q
  | [], ids => by simp [tk]
  | x :: r, ids => by
    rw [tk]
    split
    · rename_i h
      unfold takes at h
      simp only [Bool.and_eq_true] at h
      rw [tk_else z p q hq r, List.countP_cons_of_neg (by rw [hq x h.2]; decide)]
    · show (x :: (tk z p ids r).2).countP q = _
      rw [List.countP_cons, List.countP_cons, tk_else z p q hq r]

theorem lv_all : ((List.range 7).all fun l => (List.range (2 ^ l)).all fun q => decide (lvI ((2 ^ l - 1 + q : Nat) : Int) = l)) = true := by decide +kernel
theorem lv_path {m x l : Nat} (hm : m < 7) (hx : x < 2 ^ m) (hl : l ≤ m) : lvI ((2 ^ l - 1 + x / 2 ^ (m - l) : Nat) : Int) = l := by
  have hq : x / 2 ^ (m - l) < 2 ^ l := by
    rw [Nat.div_lt_iff_lt_mul (Nat.pow_pos (by decide)), ← Nat.pow_add, Nat.add_sub_cancel' hl]
    exact hx
  have h1 := List.all_eq_true.1 (List.all_eq_true.1 lv_all l (List.mem_range.2 (by omega))) _ (List.mem_range.2 hq)
  exact of_decide_eq_true h1
theorem mem_pathOf {m x : Nat} {b : Int} : b ∈ B.pathOf m x ↔ ∃ l, l ≤ m ∧ b = ((2 ^ l - 1 + x / 2 ^ (m - l) : Nat) : Int) := by
  unfold B.pathOf
  rw [List.mem_map]
  constructor
  · rintro ⟨l, hl, rfl⟩
    have := List.mem_range.1 hl
    exact ⟨l, by omega, rfl⟩
  · rintro ⟨l, hl, rfl⟩
    exact ⟨l, List.mem_range.2 (by omega), rfl⟩
/-- Two buckets on one path: whose path leads through the deeper, leads through the other. -/
theorem laminar {h b d : Int} {x y : It} (h1 : onB h b x = true) (h2 : onB h d x = true) (hlv : lvI b ≤ lvI d) (h3 : onB h d y = true) : onB h b y = true := by
  have h1 := of_decide_eq_true h1
  have h2 := of_decide_eq_true h2
  have h3 := of_decide_eq_true h3
  refine decide_eq_true ?_
  have okx : B.okb h x.f1 = true := by
    cases e : B.okb h x.f1 with
    | true => rfl
    | false => unfold B.path at h1; rw [e] at h1; cases h1
  have oky : B.okb h y.f1 = true := by
    cases e : B.okb h y.f1 with
    | true => rfl
    | false => unfold B.path at h3; rw [e] at h3; cases h3
  obtain ⟨m, u, rfl, eu, hm, hu⟩ := B.ok_of okx
  obtain ⟨m', v, e, ev, hm', hv⟩ := B.ok_of oky
  obtain rfl : m = m' := by omega
  rw [eu, B.path_nat hm hu, mem_pathOf] at h1 h2
  rw [ev, B.path_nat hm hv, mem_pathOf] at h3
  rw [ev, B.path_nat hm hv, mem_pathOf]
  obtain ⟨l, hl, rfl⟩ := h1
  obtain ⟨k, hk, rfl⟩ := h2
  obtain ⟨j, hj, e3⟩ := h3
  have e1 := lv_path hm hu hk
  rw [e3, lv_path hm hv hj] at e1
  subst e1
  rw [lv_path hm hu hl, lv_path hm hu hj] at hlv
  have e4 : u / 2 ^ (m - j) = v / 2 ^ (m - j) := by omega
  refine ⟨l, hl, ?_⟩
  have q : ∀ t : Nat, t / 2 ^ (m - l) = t / 2 ^ (m - j) / 2 ^ (j - l) := fun t => by
    rw [Nat.div_div_eq_div_mul, ← Nat.pow_add]
    congr 2
    omega
  rw [q u, q v, e4]

/-- A set of items that splits no bucket of these. -/
def Whole (h : Int) (done : List Int) (q : It → Bool) : Prop := ∀ d ∈ done, (∀ x, onB h d x = true → q x = true) ∨ ∀ x, onB h d x = true → q x = false
theorem cnt_split (p q : It → Bool) (hp : ∀ x, p x = true → q x = true) : ∀ l : List It, l.countP q = l.countP p + l.countP fun x => q x && !p x
  | [] => rfl
  | x :: r => by
    rw [List.countP_cons, List.countP_cons, List.countP_cons, cnt_split p q hp r]
    cases hx : p x with
    | true => rw [hp x hx]; simp; omega
    | false => cases q x <;> simp <;> omega
theorem runB_more (h z : Int) (hz : 0 ≤ z) : ∀ (bs done : List Int) (a b : List It), (∀ d ∈ done, ∀ c ∈ bs, lvI c ≤ lvI d) → bs.Pairwise (fun c d => lvI d ≤ lvI c) → (∀ q, Whole h done q → b.countP q ≤ a.countP q) → (runB (z + 1) h bs b).2.length ≤ (runB z h bs a).2.length
  | [], done, a, b, _, _, hq => by
    have := hq (fun _ => true) (fun d _ => .inl fun _ _ => rfl)
    simpa [runB] using this
  | c :: bs, done, a, b, hd, hs, hq => by
    rw [runB, runB]
    rw [List.pairwise_cons] at hs
    refine runB_more h z hz bs (c :: done) _ _ ?_ hs.2 ?_
    · intro d hdm e he
      rcases List.mem_cons.1 hdm with rfl | hdm
      · exact hs.1 e he
      · exact hd d hdm e (List.mem_cons_of_mem _ he)
    · intro q hw
      have hlam : ∀ d ∈ done, (∀ x, onB h d x = true → onB h c x = true) ∨ ∀ x, onB h d x = true → onB h c x = false := fun d hdm => by
        by_cases e : ∃ x, onB h d x = true ∧ onB h c x = true
        · obtain ⟨x, e1, e2⟩ := e
          exact .inl fun y hy => laminar e2 e1 (hd d hdm c List.mem_cons_self) hy
        · refine .inr fun x hx => ?_
          cases e1 : onB h c x with
          | false => rfl
          | true => exact absurd ⟨x, hx, e1⟩ e
      rcases hw c List.mem_cons_self with e | e
      · rw [cnt_split (onB h c) q e, cnt_split (onB h c) q e, tk_cnt, tk_cnt]
        have e2 : ∀ x, onB h c x = true → (q x && !onB h c x) = false := fun x hx => by rw [hx]; simp
        rw [tk_else (z + 1) _ _ e2, tk_else z _ _ e2]
        have h1 := hq (onB h c) hlam
        have h2 := hq (fun x => q x && !onB h c x) (fun d hdm => by
          rcases hlam d hdm with k | k
          · exact .inr fun x hx => by show (q x && !onB h c x) = false; rw [k x hx]; simp
          · rcases hw d (List.mem_cons_of_mem _ hdm) with k2 | k2
            · exact .inl fun x hx => by show (q x && !onB h c x) = true; rw [k x hx, k2 x hx]; rfl
            · exact .inr fun x hx => by show (q x && !onB h c x) = false; rw [k2 x hx]; rfl)
        simp only [List.length_nil]
        omega
      · rw [tk_else (z + 1) _ _ e, tk_else z _ _ e]
        exact hq q (fun d hdm => hw d (List.mem_cons_of_mem _ hdm))

theorem more_left {h z : Int} {ls : List Int} {items : List It} (ok : okPlan h z ls items = true) (ok2 : okPlan h (z + 1) ls items = true) : (planP h (z + 1) ls items).2.length ≤ (planP h z ls items).2.length := by
  rw [planP_ok ok, planP_ok ok2, List.length_map, List.length_map]
  refine runB_more h z (by have := (ok_z ok).1; omega) _ [] _ _ (fun d hd => by cases hd) ?_ (fun q _ => Nat.le_refl _)
  refine (ordB_sorted (B.unionOf h ls)).imp (fun {a b} k => ?_)
  unfold leI at k
  simp only [decide_eq_true_eq] at k
  omega
theorem ok_up {h z : Int} {ls : List Int} {items : List It} (ok : okPlan h z ls items = true) (hz : z < 4) : okPlan h (z + 1) ls items = true := by
  unfold okPlan at ok ⊢
  simp only [Bool.and_eq_true, decide_eq_true_eq] at ok ⊢
  obtain ⟨⟨⟨⟨⟨h1, h2⟩, h3⟩, h4⟩, h5⟩, h6⟩ := ok
  exact ⟨⟨⟨⟨⟨h1, by omega⟩, by omega⟩, h4⟩, h5⟩, h6⟩
theorem ok_none {h z : Int} {ls : List Int} {items : List It} (ok : okPlan h z ls items = true) : okPlan h z [] items = true := by
  unfold okPlan at ok ⊢
  simp only [Bool.and_eq_true, decide_eq_true_eq] at ok ⊢
  obtain ⟨⟨h4, h5⟩, h6⟩ := ok
  exact ⟨⟨h4, rfl⟩, h6⟩
theorem plan_none {h z : Int} {items : List It} (ok : okPlan h z [] items = true) : planP h z [] items = ([], L.isort (items.map (·.f0))) := by
  rw [planP_ok ok]
  have hu : B.unionOf h [] = [] := by
    unfold B.unionOf
    rw [if_pos (show ([] : List Int).all (B.okb h) = true from rfl), List.filter_eq_nil_iff]
    intro b _ hb
    simp at hb
  rw [hu]
  have ho : ordB [] = [] := (ordB_perm []).eq_nil
  rw [ho]
  have hs : srtF [] = [] := (srtF_perm []).eq_nil
  show (srtF [], (srt items).map (·.f0)) = _
  rw [hs]
  have e := isort_unique ((srt_perm items).map (·.f0)) (by
    rw [List.pairwise_map]
    exact (merge_strict (fun a : It => a.f0) items (ok_nodup ok)).imp (fun h => by omega))
  rw [e]

section
variable {items : List It} {few many all : List Int} {f g : List Fl}
theorem more_l0 (hn : items.length ≤ 60) (b : Option Bool) (M : Nat) (hM : ∀ k, M ≤ k → oublaw11_EvictMore.l0 k items few f many g all (items.map (·.f0)) (items.length : Int) = b) : ∀ (d k i : Nat), i + d = items.length → d + M < k → oublaw11_EvictMore.l0 k items few f many g all ((items.take i).map (·.f0)) (i : Int) = b
  | d, 0, i, _, hk => by omega
  | 0, k + 1, i, hi, hk => by
    obtain rfl : i = items.length := by omega
    rw [List.take_length]
    exact hM _ (by omega)
  | d + 1, k + 1, i, hi, hk => by
    have hlt : i < items.length := by omega
    rw [oublaw11_EvictMore.l0, if_pos (by omega), if_pos (by omega), if_pos (by rw [List.length_map, List.length_take]; omega), wrap_at i (by omega), rdI hlt]
    have := more_l0 hn b M hM d k (i + 1) (by omega) (by omega)
    rw [List.take_succ_eq_append_getElem hlt, List.map_append] at this
    exact this
end

theorem more_true (h z : Int) (ls : List Int) (items : List It) : oublaw11_EvictMore.f 40000 h z ls items = some true := by
  unfold oublaw11_EvictMore.f
  rw [show oublaw11_first.f = some true from rfl, Option.bind_some, if_pos rfl]
  by_cases h1 : (ls.length : Int) > 60
  · rw [if_pos h1]; rfl
  rw [if_neg h1]
  by_cases h2 : (items.length : Int) > 60
  · rw [if_pos h2]; rfl
  rw [if_neg h2]
  by_cases h3 : z ≥ 4
  · rw [if_pos h3]; rfl
  rw [if_neg h3, items_any items (by omega) 40000 (by omega), Option.bind_some, mayPlan_any h z ls items (by omega) (by omega) 40000 (by omega), Option.bind_some]
  cases ok : okPlan h z ls items with
  | false => rfl
  | true =>
    have FA := facts ok
    obtain ⟨l1, l2, l3⟩ := facts_len FA
    have hz := ok_z ok
    obtain ⟨k, hk⟩ : ∃ k, 40000 = k + 1 := ⟨39999, rfl⟩
    have hl : ls.length < 1000 ∧ items.length < 1000 := ⟨by omega, by omega⟩
    rw [hk, oublaw11_EvictMore.j0, if_neg (show ¬ (!true) = true by decide), B.wrap_ok (by omega) (by omega),
      show evict_Plan.f h (z + 1) ls items = some (planP h (z + 1) ls items) from if_pos hl, Option.bind_some,
      show evict_Plan.f h z ls items = some (planP h z ls items) from if_pos hl, Option.bind_some,
      show evict_Plan.f h z [] items = some (planP h z [] items) from if_pos ⟨by show (0 : Nat) < 1000; omega, hl.2⟩, Option.bind_some, plan_none (ok_none ok)]
    refine more_l0 (by omega) (some true) 1000 (fun k' hk' => ?_) items.length k 0 (by omega) (by omega)
    obtain ⟨k', rfl⟩ : ∃ q, k' = q + 1 := ⟨k' - 1, by omega⟩
    have hm := more_left ok (ok_up ok (by omega))
    rw [oublaw11_EvictMore.l0, if_neg (by omega), show oublaw11_first.f = some true from rfl, Option.bind_some, if_pos rfl, if_pos (by omega), held_any _ (by omega) (by omega) _ (by omega), Option.bind_some, B.wrap_ok (by omega) (by omega), if_pos (by omega), if_pos (show ((([] : List Fl).length : Nat) : Int) = 0 from rfl), show oubref_Sorted.f (items.map (·.f0)) = some (L.isort (items.map (·.f0))) from if_pos (by rw [List.length_map]; omega), Option.bind_some, B.ints_same _ (by rw [(L.isort_perm _).length_eq, List.length_map]; omega) _ (by rw [(L.isort_perm _).length_eq, List.length_map]; omega), Option.bind_some]
end Go.Proofs.Ytfliapankgdeeaa.A

namespace Go.Proofs.Ytfliapankgdeeaa.evictMore
open Go.ChangeShapes Go.WideShapes Go.ChangeAt Go.RowKit
set_option linter.unusedVariables false
theorem own : ownKnob Try.prog.godebug = none := by kernel_rfl
theorem laidOut : laidOutB Try.prog = true := by kernel_rfl
set_option maxRecDepth 100000 in
theorem lifted (os : Os) (started : os.Started) (H : Type) (enc : TypeId × Value → H) :
    ReturnsInHanded {} Try.checked os 5 .any (Rows.evictMoreSpec.pre6 enc Try.prog Try.f5 Rows.evictMoreRow.domain false) (Rows.evictMoreSpec.post enc Try.prog Try.f5 false true false false) := by
  refine returnsInHanded_of_change_sized (C := Try.checked) own started (by kernel_rfl) Try.func5
    (ChangeSpec.witness6 (enc := enc) (C := Try.checked) false ⟨#[], #[.int .i64 0, .int .i64 0, .slice none 0 0, .slice none 0 0], []⟩ 8 (by kernel_rfl) (by kernel_rfl) (by kernel_rfl) (by kernel_rfl)) ?_
  intro W base args ds gs before hval0 hW hcnd hsz0 _
  have hval : ∀ (j : Nat) t v, Try.f5.params[j]? = some t → args[j]? = some v → Value.okWide Try.prog W .any base t v := hval0
  have hW' := hW
  obtain ⟨p, q, hA0, hV, rfl, hfz, hnd⟩ := hW
  have hA : DataW.TrodAll enc Try.prog W 0 (fun _ => true) true Try.f5.params.toList args.toList ds p := hA0
  rw [Try.params5] at hA hval
  obtain ⟨v0, vs0, d0, ds0, p0, q0, hargs, rfl, rfl, h0, r0⟩ := trodAll_cons hA
  obtain ⟨v1, vs1, d1, ds1, p1, q1, rfl, rfl, rfl, h1, r1⟩ := trodAll_cons r0
  obtain ⟨v2, vs2, d2, ds2, p2, q2, rfl, rfl, rfl, h2, r2⟩ := trodAll_cons r1
  obtain ⟨v3, vs3, d3, ds3, p3, q3, rfl, rfl, rfl, h3, r3⟩ := trodAll_cons r2
  obtain ⟨rfl, rfl, rfl⟩ := trodAll_nil r3
  obtain rfl : args = #[v0, v1, v2, v3] := by cases args; simp_all
  obtain ⟨rfl, rfl⟩ := trodVars_none hV
  obtain ⟨n0, rfl⟩ := okWide_int Try.underlying3 (hval 0 3 v0 rfl rfl)
  obtain ⟨n1, rfl⟩ := okWide_int Try.underlying3 (hval 1 3 v1 rfl rfl)
  obtain ⟨a2, len2, cap2, rfl⟩ := okWide_slice Try.underlying22 (hval 2 22 v2 rfl rfl)
  obtain ⟨a3, len3, cap3, rfl⟩ := okWide_slice Try.underlying23 (hval 3 23 v3 rfl rfl)
  have k0 := h0
  have k1 := h1
  have k2 := h2
  have k3 := h3
  have lt0 : ∀ x ∈ p0, x.block < W.heap.size := by obtain ⟨m, hm⟩ := k0; exact DataW.trod_lt m _ _ _ hm
  have lt1 : ∀ x ∈ p1, x.block < W.heap.size := by obtain ⟨m, hm⟩ := k1; exact DataW.trod_lt m _ _ _ hm
  have lt2 : ∀ x ∈ p2, x.block < W.heap.size := by obtain ⟨m, hm⟩ := k2; exact DataW.trod_lt m _ _ _ hm
  have lt3 : ∀ x ∈ p3, x.block < W.heap.size := by obtain ⟨m, hm⟩ := k3; exact DataW.trod_lt m _ _ _ hm
  obtain ⟨l2, e2, w2, c2⟩ : ∃ l : List Int, len2 = l.length ∧ l.length ≤ cap2 ∧ Go.Proofs.YtfliapankgdeeaaW.PrintWords.Kd.C (Go.Proofs.YtfliapankgdeeaaW.PrintWords.Kd.int .i64) W a2 l.length l := by
    obtain ⟨fuel, hf⟩ := h2
    obtain ⟨A, l, c, e, h1, h3⟩ := A.open_ints_at hf
    simp [Value.cells] at e
    obtain ⟨rfl, rfl, rfl⟩ := e
    exact ⟨l, rfl, h1, h3⟩
  obtain ⟨l3, e3, w3, c3⟩ : ∃ l : List A.It, len3 = l.length ∧ l.length ≤ cap3 ∧ Go.Proofs.YtfliapankgdeeaaW.PrintWords.Kd.C G.k39 W a3 l.length l := by
    obtain ⟨fuel, hf⟩ := h3
    obtain ⟨A, l, c, e, h1, _, h3⟩ := A.open_items_at hf
    simp [Value.cells] at e
    obtain ⟨rfl, rfl, rfl⟩ := e
    exact ⟨l, rfl, h1, h3⟩
  subst e2 e3
  clear hA0 hval0 hsz0
  have main := M.oublaw11_EvictMore.calls 40000 n0 n1 a2 cap2 l2 a3 cap3 l3 true W c2 w2 c3 w3 ⟨rfl⟩ (A.more_true n0 n1 l2 l3)
  refine main.mono fun e W' ⟨he, bel⟩ => ?_
  subst he
  exact ⟨_, rfl, _, _, _, [], _, [], hW', trodAll_mk1 (shut_bool Try.underlying4 _), (trodAll_cons_mk (Below.trod laidOut (by kernel_rfl) (of_decide_eq_true (by kernel_rfl)) k0 bel lt0) (trodAll_cons_mk (Below.trod laidOut (by kernel_rfl) (of_decide_eq_true (by kernel_rfl)) k1 bel lt1) (trodAll_cons_mk (Below.trod laidOut (by kernel_rfl) (of_decide_eq_true (by kernel_rfl)) k2 bel lt2) (trodAll_cons_mk (Below.trod laidOut (by kernel_rfl) (of_decide_eq_true (by kernel_rfl)) k3 bel lt3) trodAll_mk0)))), rfl, bel.frame _, fun h => by cases h⟩
theorem over : Rows.evictMoreRow.holds Try.pinned (OpenSpec.ofChange Rows.evictMoreSpec) :=
  OpenClaim.holds_of_wide 5 Try.f5 rfl rfl rfl rfl rfl rfl rfl ⟨rfl, rfl, rfl, rfl, rfl⟩ rfl rfl rfl rfl rfl (by kernel_rfl) Try.func5 (by kernel_rfl)
    (of_decide_eq_true (by kernel_rfl)) (by unfold Func.isWrapper; first | (rw [if_pos (by decide +kernel)]; kernel_rfl) | (rw [if_neg (by decide +kernel)]; exact ⟨rfl, rfl⟩))
    (fun os started H enc _ => lifted os started H enc)
theorem proved : Rows.EvictMoreSaid := over
#print axioms proved
end Go.Proofs.Ytfliapankgdeeaa.evictMore
namespace Go.Proofs.Ytfliapankgdeeaa
/-- The row, under a short name, for the claim. -/
theorem evictMore_holds : Rows.EvictMoreSaid := evictMore.proved
end Go.Proofs.Ytfliapankgdeeaa
