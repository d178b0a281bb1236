/- A row's arguments of whole numbers and of items, opened. EvictOnce: the plain law. EvictOnce holds of every input: each item is in one bucket of its own path, or left. No conditions. -/
import Derived.Test.YtfliapankgdeeaaEvQ
import Derived.WalkKit
import Derived.ProofKit
import Derived.OpenShut
import Derived.ShutString
import Derived.ChangeOld
import Derived.Below
import Derived.SizedLaws
import Derived.Deep.Slices
import Derived.ChangeSame
import Derived.Test.YtfliapankgdeeaaOx1
import Derived.Test.YtfliapankgdeeaaRows
import Derived.Test.YtfliapankgdeeaaWSized
namespace Go.Proofs.Ytfliapankgdeeaa.A
open Go.RowKit Go.Maps Go.Sort Go.Shelf Go.Proofs.YtfliapankgdeeaaW.PrintWords Go.Proofs.Ytfliapankgdeeaa.G Go.ChangeShapes Go.WideShapes Go.ChangeAt
set_option linter.unusedVariables false
section
variable {H : Type} {enc : TypeId × Value → H} {W : World}
set_option maxRecDepth 100000 in
theorem open_int_at {n : Nat} {cs : List Value} {x : DataW H × List MemPlace} (h : DataW.trod enc Try.prog W 0 (fun _ => true) true n 3 cs = some x) : ∃ i, cs = [.int .i64 i] ∧ (Lit.int .i64 i).wf = true := by
  cases n with
  | zero => simp [DataW.trod] at h
  | succ n =>
    unfold DataW.trod at h
    rw [Try.underlying3] at h
    match cs, h with
    | [.int k i], h =>
      by_cases hk : k = .i64 ∧ (Lit.int .i64 i).wf = true
      · obtain ⟨rfl, hw⟩ := hk
        exact ⟨i, rfl, hw⟩
      · simp [hk] at h
theorem open_ints_at {n : Nat} {cs : List Value} {x : DataW H × List MemPlace} (h : DataW.trod enc Try.prog W 0 (fun _ => true) true n 22 cs = some x) : ∃ A xs c, cs = [.slice A (xs : List Int).length c] ∧ xs.length ≤ c ∧ Kd.C (Kd.int .i64) W A xs.length xs := by
  rcases open_ints Try.underlying22 Try.underlying3 (by kernel_rfl) h with ⟨rfl, _⟩ | ⟨a, len, cap, zs, rfl, _, hl, hm, hz, _, hcell, hwz⟩
  · exact ⟨none, [], 0, rfl, Nat.le_refl _, Kd.C_nil _ _⟩
  · obtain ⟨l, rfl, hr, _, _, hc⟩ := ReadsInt.ofRowC (k := .i64) (w := W) (a := some a) (len := len) (cap := cap) (zs := zs) (.inr ⟨_, rfl, hl, hm, by simpa using hz, hcell, hwz⟩)
    exact ⟨some a, l, cap, rfl, hc, Kd.C_of_reads (d := (0 : Int)) (h1 := fun _ => rfl) hr⟩
theorem open_item_at {n : Nat} {cs : List Value} {x : DataW H × List MemPlace} (h : DataW.trod enc Try.prog W 0 (fun _ => true) true n 39 cs = some x) : ∃ b : It, k39.K W b cs := by
  obtain ⟨y0, y1, m, _, hl, h0, h1⟩ := trod_struct2 Try.underlying39 h
  have c1 : Try.prog.cellsOf 3 = 1 := by kernel_rfl
  have c3 : Try.prog.cellsOf 39 = 2 := by kernel_rfl
  simp only [c1, c3] at hl h0 h1
  match cs, hl with
  | [v0, v1], _ =>
    obtain ⟨i, e0, _⟩ := open_int_at h0
    obtain ⟨j, e1, _⟩ := open_int_at h1
    simp at e0 e1
    subst e0 e1
    exact ⟨⟨i, j⟩, k39_mk W ⟨i, j⟩⟩
theorem list_of {α : Type} {Q : Nat → α → Prop} : ∀ (n : Nat), (∀ i, i < n → ∃ a, Q i a) → ∃ l : List α, l.length = n ∧ ∀ (i : Nat) a, l[i]? = some a → Q i a
  | 0, _ => ⟨[], rfl, fun i a h => by simp at h⟩
  | n + 1, h => by
    obtain ⟨l, hl, hq⟩ := list_of n (fun i hi => h i (by omega))
    obtain ⟨a, ha⟩ := h n (by omega)
    refine ⟨l ++ [a], by simp [hl], fun i b hb => ?_⟩
    by_cases hi : i < l.length
    · rw [List.getElem?_append_left hi] at hb
      exact hq i b hb
    · have hi2 : i = n := by
        have := (List.getElem?_eq_some_iff.1 hb).1
        simp at this
        omega
      subst hi2
      rw [List.getElem?_append_right (by omega), hl] at hb
      simp at hb
      exact hb ▸ ha
set_option maxRecDepth 100000 in
theorem open_items_at {n : Nat} {cs : List Value} {x : DataW H × List MemPlace} (h : DataW.trod enc Try.prog W 0 (fun _ => true) true n 23 cs = some x) :
    ∃ A l c, cs = [.slice A (l : List It).length c] ∧ l.length ≤ c ∧ l.length ≤ 9223372036854775807 ∧ Kd.C k39 W A l.length l := by
  rcases Go.Deep.open_slice Try.underlying23 h with ⟨rfl, _⟩ | ⟨a, len, cap, m, q, D, Pl, rfl, _, hl, hm, hmm, _, hx⟩
  · exact ⟨none, [], 0, rfl, Nat.le_refl _, by simp, Kd.C_nil _ _⟩
  · have hlm : len ≤ m := by rw [hmm]; split <;> omega
    have c3 : Try.prog.cellsOf 39 = 2 := by kernel_rfl
    obtain ⟨l, rfl, hq⟩ := list_of (Q := fun i (b : It) => ∃ cs', cs'.length = 2 ∧ k39.K W b cs' ∧ (∀ j u, cs'[j]? = some u → W.cell? (a.add (i * 2 + j)) = some u)) len (fun i hi => by
      obtain ⟨cs', h1, h2⟩ := hx i (by omega)
      rw [c3] at h1
      obtain ⟨_, hlen, hcell⟩ := World.cells?_some h1
      obtain ⟨b, hb⟩ := open_item_at h2
      refine ⟨b, cs', hlen, hb, fun j u hu => ?_⟩
      have hj : j < 2 := by have := (List.getElem?_eq_some_iff.1 hu).1; omega
      have := hcell j hj
      rw [hu] at this
      rw [← this]
      congr 1
      unfold Addr.add
      split <;> split <;> split <;> simp_all <;> omega)
    have hbig : l.length ≤ 9223372036854775807 := by unfold maxLen at hm; omega
    refine ⟨some a, l, cap, rfl, hl, hbig, ⟨rfl, hbig, fun _ => ⟨a, rfl, fun j p hj => ?_⟩⟩⟩
    obtain ⟨cs', e1, e2, e3⟩ := hq j p hj
    exact ⟨cs', e1, e2, e3⟩
end
end Go.Proofs.Ytfliapankgdeeaa.A

namespace Go.Proofs.Ytfliapankgdeeaa.A
open Go.RowKit Go.Proofs.YtfliapankgdeeaaW.PrintWords Go.Proofs.YtfliapankgdeeaaW.PrintLast Go.Proofs.YtfliapankgdeeaaW.PrintMore Go.Proofs.Ytfliapankgdeeaa.G Go.Proofs.Ytfliapankgdeeaa.O
set_option linter.unusedVariables false
set_option linter.unusedSimpArgs false

theorem countP_flat (n : Int) : ∀ f : List Fl, (f.flatMap (·.f1)).Nodup → f.countP (fun F => decide (n ∈ F.f1)) = (f.flatMap (·.f1)).count n
  | [], _ => rfl
  | F :: r, h => by
    rw [List.flatMap_cons, List.nodup_append] at h
    rw [List.countP_cons, List.flatMap_cons, List.count_append, countP_flat n r h.2.1]
    by_cases e : n ∈ F.f1
    · rw [if_pos (by simpa using e)]
      have : F.f1.count n = 1 := by
        have h1 := List.nodup_iff_count.1 h.1 n
        have h2 := List.count_pos_iff.2 e
        omega
      omega
    · rw [if_neg (by simpa using e), List.count_eq_zero_of_not_mem e]
      omega
theorem facts_once {h z : Int} {ls : List Int} {items : List It} {f : List Fl} {left : List Int} (F : Facts h z ls items f left) (hn : (items.map (·.f0)).Nodup) {x : It} (hx : x ∈ items) : f.countP (fun F => decide (x.f0 ∈ F.f1)) + (if x.f0 ∈ left then 1 else 0) = 1 := by
  have hnd := F.perm.nodup_iff.2 hn
  have hc : (f.flatMap (·.f1) ++ left).count x.f0 = 1 := by
    have h1 := List.nodup_iff_count.1 hnd x.f0
    have h2 := List.count_pos_iff.2 (F.perm.mem_iff.2 (List.mem_map.2 ⟨x, hx, rfl⟩))
    omega
  rw [List.nodup_append] at hnd
  rw [countP_flat x.f0 f hnd.1]
  rw [List.count_append] at hc
  by_cases e : x.f0 ∈ left
  · rw [if_pos e]
    have h2 := List.count_pos_iff.2 e
    have h1 := List.nodup_iff_count.1 hnd.2.1 x.f0
    omega
  · rw [if_neg e]
    rw [List.count_eq_zero_of_not_mem e] at hc
    omega

section
variable {h z : Int} {ls : List Int} {items : List It} {f : List Fl} {left : List Int}
theorem once_l2 (hf : f.length ≤ 127) (i : Nat) (hi : i < items.length) (n : Int) (hn : n = 1) (hfull : ∀ F ∈ f, onB h F.f0 items[i] = true → z ≤ (F.f1.length : Int)) (hi60 : items.length ≤ 60) (M : Nat) (hM : ∀ k, M ≤ k → oublaw11_EvictOnce.l0 k h z items f left ((i + 1 : Nat) : Int) = some true) : ∀ (d k q : Nat), q + d = f.length → d + M + 40 < k → oublaw11_EvictOnce.l2 k h z items f left (i : Int) n (q : Int) = some true
  | d, 0, q, _, hk => by omega
  | 0, k + 1, q, hq, hk => by
    rw [oublaw11_EvictOnce.l2, if_neg (by omega), if_pos hn, wrap_at i (by omega), hM k (by omega)]
  | d + 1, k + 1, q, hq, hk => by
    have hlt : q < f.length := by omega
    rw [oublaw11_EvictOnce.l2, if_pos (by omega), if_pos (by omega), if_pos (by omega), if_pos (by omega), rdF hlt, rdI hi, B.on_any _ _ _ k (by omega), Option.bind_some, wrap_at q (by omega)]
    by_cases e : decide (f[q].f0 ∈ B.path h items[i].f1) = true
    · rw [if_pos e, if_neg (by have := hfull f[q] (List.getElem_mem hlt) e; omega)]
      exact once_l2 hf i hi n hn hfull hi60 M hM d k (q + 1) (by omega) (by omega)
    · rw [if_neg e]
      exact once_l2 hf i hi n hn hfull hi60 M hM d k (q + 1) (by omega) (by omega)
theorem once_l1 (FA : Facts h z ls items f left) (hnd : (items.map (·.f0)).Nodup) (hz : z ≤ 4) (hf : f.length ≤ 127) (hle : left.length ≤ 60) (i : Nat) (hi : i < items.length) (hi60 : items.length ≤ 60) (M : Nat) (hM : ∀ k, M ≤ k → oublaw11_EvictOnce.l0 k h z items f left ((i + 1 : Nat) : Int) = some true) : ∀ (d k q : Nat), q + d = f.length → d + M + 300 < k → oublaw11_EvictOnce.l1 k h z items f left (i : Int) (((f.take q).countP (fun F => decide (items[i].f0 ∈ F.f1)) : Nat) : Int) (q : Int) = some true
  | d, 0, q, _, hk => by omega
  | 0, k + 1, q, hq, hk => by
    obtain rfl : q = f.length := by omega
    have hone := facts_once FA hnd (List.getElem_mem hi)
    rw [oublaw11_EvictOnce.l1, if_neg (by omega), if_pos (by omega), if_pos (by omega), rdI hi, has_any _ _ (by omega) k (by omega), Option.bind_some, List.take_length]
    by_cases e : items[i].f0 ∈ left
    · rw [if_pos e] at hone
      rw [if_pos (by simpa using e), show (f.countP fun F => decide (items[i].f0 ∈ F.f1)) = 0 by omega, show wrap64 (((0 : Nat) : Int) + 1) = 1 from wrap_at 0 (by omega), show ((0 : Int)) = ((0 : Nat) : Int) from rfl]
      exact once_l2 hf i hi 1 rfl (fun F hF ho => FA.full _ (List.getElem_mem hi) e F hF ho) hi60 M hM f.length k 0 (by omega) (by omega)
    · rw [if_neg e] at hone
      rw [if_neg (by simpa using e), if_pos (by omega), wrap_at i (by omega), hM k (by omega)]
  | d + 1, k + 1, q, hq, hk => by
    have hlt : q < f.length := by omega
    have hFl := FA.le f[q] (List.getElem_mem hlt)
    have hcn : (f.take q).countP (fun F => decide (items[i].f0 ∈ F.f1)) ≤ 127 := Nat.le_trans List.countP_le_length (by rw [List.length_take]; omega)
    rw [oublaw11_EvictOnce.l1, if_pos (by omega), if_pos (by omega), rdF hlt, if_neg (by omega), if_pos (by omega), if_pos (by omega), rdI hi, has_any _ _ (by omega) k (by omega), Option.bind_some, wrap_at q (by omega)]
    have ih := once_l1 FA hnd hz hf hle i hi hi60 M hM d k (q + 1) (by omega) (by omega)
    rw [List.take_succ_eq_append_getElem hlt, List.countP_append, List.countP_cons, List.countP_nil] at ih
    by_cases e : items[i].f0 ∈ f[q].f1
    · rw [if_pos (by simpa using e), B.on_any _ _ _ k (by omega), Option.bind_some]
      have ho := FA.on f[q] (List.getElem_mem hlt) _ (List.getElem_mem hi) e
      rw [if_pos (show decide (f[q].f0 ∈ B.path h items[i].f1) = true from ho), wrap_at _ (by omega)]
      rw [if_pos (by simpa using e)] at ih
      simpa using ih
    · rw [if_neg (by simpa using e)]
      rw [if_neg (by simpa using e)] at ih
      simpa using ih
theorem once_l0 (FA : Facts h z ls items f left) (hnd : (items.map (·.f0)).Nodup) (hz : z ≤ 4) (hf : f.length ≤ 127) (hle : left.length ≤ 60) (hi60 : items.length ≤ 60) (c : Nat) (hc : 600 ≤ c) : ∀ (d k i : Nat), i + d = items.length → d * c + 1 < k → oublaw11_EvictOnce.l0 k h z items f left (i : Int) = some true := by
  intro d
  induction d with
  | zero =>
    intro k i hi hk
    obtain ⟨k, rfl⟩ : ∃ q, k = q + 1 := ⟨k - 1, by omega⟩
    rw [oublaw11_EvictOnce.l0, if_neg (by omega), show oublaw11_first.f = some true from rfl, Option.bind_some]
  | succ d ih =>
    intro k i hi hk
    obtain ⟨k, rfl⟩ : ∃ q, k = q + 1 := ⟨k - 1, by omega⟩
    rw [oublaw11_EvictOnce.l0, if_pos (by omega)]
    rw [Nat.succ_mul] at hk
    obtain ⟨e, he⟩ : ∃ e, e = d * c := ⟨_, rfl⟩
    rw [← he] at hk ih
    obtain ⟨M, hM⟩ : ∃ M, M = e + 2 := ⟨_, rfl⟩
    have hrest : ∀ k', M ≤ k' → oublaw11_EvictOnce.l0 k' h z items f left ((i + 1 : Nat) : Int) = some true := fun k' hk' => ih k' (i + 1) (by omega) (by omega)
    have hk3 : f.length + M + 300 < k := by omega
    have := once_l1 FA hnd hz hf hle i (by omega) hi60 M hrest f.length k 0 (by omega) hk3
    simpa using this
end

theorem facts_len {h z : Int} {ls : List Int} {items : List It} {f : List Fl} {left : List Int} (FA : Facts h z ls items f left) : f.length ≤ 127 ∧ left.length ≤ items.length ∧ (f.flatMap (·.f1)).length + left.length = items.length := by
  have h1 := congrArg List.length FA.keys
  rw [List.length_map] at h1
  have h2 := B.union_length h ls
  have h3 := FA.perm.length_eq
  rw [List.length_append, List.length_map] at h3
  exact ⟨by omega, by omega, h3⟩

theorem once_true (h z : Int) (ls : List Int) (items : List It) : oublaw11_EvictOnce.f 40000 h z ls items = some true := by
  unfold oublaw11_EvictOnce.f
  rw [show oublaw11_first.f = some true from rfl, Option.bind_some, if_pos rfl]
  by_cases h1 : (ls.length : Int) > 60
  · rw [if_pos h1]; rfl
  rw [if_neg h1]
  by_cases h2 : (items.length : Int) > 60
  · rw [if_pos h2]; rfl
  rw [if_neg h2, items_any items (by omega) 40000 (by omega), Option.bind_some, mayPlan_any h z ls items (by omega) (by omega) 40000 (by omega), Option.bind_some]
  cases ok : okPlan h z ls items with
  | false => rfl
  | true =>
    have FA := facts ok
    obtain ⟨l1, l2, l3⟩ := facts_len FA
    obtain ⟨k, hk⟩ : ∃ k, 40000 = k + 1 + 1 := ⟨39998, rfl⟩
    rw [hk, oublaw11_EvictOnce.j0, if_neg (show ¬ (!true) = true by decide), show evict_Plan.f h z ls items = some (planP h z ls items) from if_pos ⟨by omega, by omega⟩, Option.bind_some, buckets_any _ (by omega) _ (by omega), Option.bind_some, B.union_any h ls (by omega) _ (by omega), Option.bind_some, FA.keys, B.ints_same _ (by have := B.union_length h ls; omega) _ (by have := B.union_length h ls; omega), Option.bind_some, if_pos rfl, held_any _ (by omega) (by omega) _ (by omega), Option.bind_some]
    have e : (wrap64 ((((planP h z ls items).1.flatMap (·.f1)).length : Int) + ((planP h z ls items).2.length : Int)) != (items.length : Int)) = false := by
      rw [B.wrap_ok (by omega) (by omega)]
      rw [bne_eq_false_iff_eq]
      omega
    rw [e, oublaw11_EvictOnce.j1, if_neg (by decide), show ((0 : Int)) = ((0 : Nat) : Int) from rfl]
    exact once_l0 FA (ok_nodup ok) (ok_z ok).2.1 l1 (by omega) (by omega) 600 (Nat.le_refl _) items.length k 0 (by omega) (by omega)
end Go.Proofs.Ytfliapankgdeeaa.A

namespace Go.Proofs.Ytfliapankgdeeaa.evictOnce
open Go.ChangeShapes Go.WideShapes Go.ChangeAt Go.RowKit
set_option linter.unusedVariables false
theorem own : ownKnob Try.prog.godebug = none := by kernel_rfl
theorem laidOut : laidOutB Try.prog = true := by kernel_rfl
set_option maxRecDepth 100000 in
theorem lifted (os : Os) (started : os.Started) (H : Type) (enc : TypeId × Value → H) :
    ReturnsInHanded {} Try.checked os 3 .any (Rows.evictOnceSpec.pre6 enc Try.prog Try.f3 Rows.evictOnceRow.domain false) (Rows.evictOnceSpec.post enc Try.prog Try.f3 false true false false) := by
  refine returnsInHanded_of_change_sized (C := Try.checked) own started (by kernel_rfl) Try.func3
    (ChangeSpec.witness6 (enc := enc) (C := Try.checked) false ⟨#[], #[.int .i64 0, .int .i64 0, .slice none 0 0, .slice none 0 0], []⟩ 8 (by kernel_rfl) (by kernel_rfl) (by kernel_rfl) (by kernel_rfl)) ?_
  intro W base args ds gs before hval0 hW hcnd hsz0 _
  have hval : ∀ (j : Nat) t v, Try.f3.params[j]? = some t → args[j]? = some v → Value.okWide Try.prog W .any base t v := hval0
  have hW' := hW
  obtain ⟨p, q, hA0, hV, rfl, hfz, hnd⟩ := hW
  have hA : DataW.TrodAll enc Try.prog W 0 (fun _ => true) true Try.f3.params.toList args.toList ds p := hA0
  rw [Try.params3] at hA hval
  obtain ⟨v0, vs0, d0, ds0, p0, q0, hargs, rfl, rfl, h0, r0⟩ := trodAll_cons hA
  obtain ⟨v1, vs1, d1, ds1, p1, q1, rfl, rfl, rfl, h1, r1⟩ := trodAll_cons r0
  obtain ⟨v2, vs2, d2, ds2, p2, q2, rfl, rfl, rfl, h2, r2⟩ := trodAll_cons r1
  obtain ⟨v3, vs3, d3, ds3, p3, q3, rfl, rfl, rfl, h3, r3⟩ := trodAll_cons r2
  obtain ⟨rfl, rfl, rfl⟩ := trodAll_nil r3
  obtain rfl : args = #[v0, v1, v2, v3] := by cases args; simp_all
  obtain ⟨rfl, rfl⟩ := trodVars_none hV
  obtain ⟨n0, rfl⟩ := okWide_int Try.underlying3 (hval 0 3 v0 rfl rfl)
  obtain ⟨n1, rfl⟩ := okWide_int Try.underlying3 (hval 1 3 v1 rfl rfl)
  obtain ⟨a2, len2, cap2, rfl⟩ := okWide_slice Try.underlying22 (hval 2 22 v2 rfl rfl)
  obtain ⟨a3, len3, cap3, rfl⟩ := okWide_slice Try.underlying23 (hval 3 23 v3 rfl rfl)
  have k0 := h0
  have k1 := h1
  have k2 := h2
  have k3 := h3
  have lt0 : ∀ x ∈ p0, x.block < W.heap.size := by obtain ⟨m, hm⟩ := k0; exact DataW.trod_lt m _ _ _ hm
  have lt1 : ∀ x ∈ p1, x.block < W.heap.size := by obtain ⟨m, hm⟩ := k1; exact DataW.trod_lt m _ _ _ hm
  have lt2 : ∀ x ∈ p2, x.block < W.heap.size := by obtain ⟨m, hm⟩ := k2; exact DataW.trod_lt m _ _ _ hm
  have lt3 : ∀ x ∈ p3, x.block < W.heap.size := by obtain ⟨m, hm⟩ := k3; exact DataW.trod_lt m _ _ _ hm
  obtain ⟨l2, e2, w2, c2⟩ : ∃ l : List Int, len2 = l.length ∧ l.length ≤ cap2 ∧ Go.Proofs.YtfliapankgdeeaaW.PrintWords.Kd.C (Go.Proofs.YtfliapankgdeeaaW.PrintWords.Kd.int .i64) W a2 l.length l := by
    obtain ⟨fuel, hf⟩ := h2
    obtain ⟨A, l, c, e, h1, h3⟩ := A.open_ints_at hf
    simp [Value.cells] at e
    obtain ⟨rfl, rfl, rfl⟩ := e
    exact ⟨l, rfl, h1, h3⟩
  obtain ⟨l3, e3, w3, c3⟩ : ∃ l : List A.It, len3 = l.length ∧ l.length ≤ cap3 ∧ Go.Proofs.YtfliapankgdeeaaW.PrintWords.Kd.C G.k39 W a3 l.length l := by
    obtain ⟨fuel, hf⟩ := h3
    obtain ⟨A, l, c, e, h1, _, h3⟩ := A.open_items_at hf
    simp [Value.cells] at e
    obtain ⟨rfl, rfl, rfl⟩ := e
    exact ⟨l, rfl, h1, h3⟩
  subst e2 e3
  clear hA0 hval0 hsz0
  have main := O.oublaw11_EvictOnce.calls 40000 n0 n1 a2 cap2 l2 a3 cap3 l3 true W c2 w2 c3 w3 ⟨rfl⟩ (A.once_true n0 n1 l2 l3)
  refine main.mono fun e W' ⟨he, bel⟩ => ?_
  subst he
  exact ⟨_, rfl, _, _, _, [], _, [], hW', trodAll_mk1 (shut_bool Try.underlying4 _), (trodAll_cons_mk (Below.trod laidOut (by kernel_rfl) (of_decide_eq_true (by kernel_rfl)) k0 bel lt0) (trodAll_cons_mk (Below.trod laidOut (by kernel_rfl) (of_decide_eq_true (by kernel_rfl)) k1 bel lt1) (trodAll_cons_mk (Below.trod laidOut (by kernel_rfl) (of_decide_eq_true (by kernel_rfl)) k2 bel lt2) (trodAll_cons_mk (Below.trod laidOut (by kernel_rfl) (of_decide_eq_true (by kernel_rfl)) k3 bel lt3) trodAll_mk0)))), rfl, bel.frame _, fun h => by cases h⟩
theorem over : Rows.evictOnceRow.holds Try.pinned (OpenSpec.ofChange Rows.evictOnceSpec) :=
  OpenClaim.holds_of_wide 3 Try.f3 rfl rfl rfl rfl rfl rfl rfl ⟨rfl, rfl, rfl, rfl, rfl⟩ rfl rfl rfl rfl rfl (by kernel_rfl) Try.func3 (by kernel_rfl)
    (of_decide_eq_true (by kernel_rfl)) (by unfold Func.isWrapper; first | (rw [if_pos (by decide +kernel)]; kernel_rfl) | (rw [if_neg (by decide +kernel)]; exact ⟨rfl, rfl⟩))
    (fun os started H enc _ => lifted os started H enc)
theorem proved : Rows.EvictOnceSaid := over
#print axioms proved
end Go.Proofs.Ytfliapankgdeeaa.evictOnce
namespace Go.Proofs.Ytfliapankgdeeaa
/-- The row, under a short name, for the claim. -/
theorem evictOnce_holds : Rows.EvictOnceSaid := evictOnce.proved
end Go.Proofs.Ytfliapankgdeeaa
