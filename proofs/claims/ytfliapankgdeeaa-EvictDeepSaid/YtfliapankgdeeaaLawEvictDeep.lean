/- A row's arguments of whole numbers and of items, opened. EvictDeep: the plain law. EvictDeep holds of every input: nobody could lie deeper: below where an item is each bucket of its path that is filled at all is full; the order in which items are told does not count. No conditions. -/
import Derived.Test.YtfliapankgdeeaaEvQ
import Derived.WalkKit
import Derived.ProofKit
import Derived.OpenShut
import Derived.ShutString
import Derived.ChangeOld
import Derived.Below
import Derived.SizedLaws
import Derived.Deep.Slices
import Derived.ChangeSame
import Derived.Test.YtfliapankgdeeaaDx1
import Derived.Test.YtfliapankgdeeaaRows
import Derived.Test.YtfliapankgdeeaaWSized
namespace Go.Proofs.Ytfliapankgdeeaa.A
open Go.RowKit Go.Maps Go.Sort Go.Shelf Go.Proofs.YtfliapankgdeeaaW.PrintWords Go.Proofs.Ytfliapankgdeeaa.G Go.ChangeShapes Go.WideShapes Go.ChangeAt
set_option linter.unusedVariables false
section
variable {H : Type} {enc : TypeId × Value → H} {W : World}
set_option maxRecDepth 100000 in
theorem open_int_at {n : Nat} {cs : List Value} {x : DataW H × List MemPlace} (h : DataW.trod enc Try.prog W 0 (fun _ => true) true n 3 cs = some x) : ∃ i, cs = [.int .i64 i] ∧ (Lit.int .i64 i).wf = true := by
  cases n with
  | zero => simp [DataW.trod] at h
  | succ n =>
    unfold DataW.trod at h
    rw [Try.underlying3] at h
    match cs, h with
    | [.int k i], h =>
      by_cases hk : k = .i64 ∧ (Lit.int .i64 i).wf = true
      · obtain ⟨rfl, hw⟩ := hk
        exact ⟨i, rfl, hw⟩
      · simp [hk] at h
theorem open_ints_at {n : Nat} {cs : List Value} {x : DataW H × List MemPlace} (h : DataW.trod enc Try.prog W 0 (fun _ => true) true n 22 cs = some x) : ∃ A xs c, cs = [.slice A (xs : List Int).length c] ∧ xs.length ≤ c ∧ Kd.C (Kd.int .i64) W A xs.length xs := by
  rcases open_ints Try.underlying22 Try.underlying3 (by kernel_rfl) h with ⟨rfl, _⟩ | ⟨a, len, cap, zs, rfl, _, hl, hm, hz, _, hcell, hwz⟩
  · exact ⟨none, [], 0, rfl, Nat.le_refl _, Kd.C_nil _ _⟩
  · obtain ⟨l, rfl, hr, _, _, hc⟩ := ReadsInt.ofRowC (k := .i64) (w := W) (a := some a) (len := len) (cap := cap) (zs := zs) (.inr ⟨_, rfl, hl, hm, by simpa using hz, hcell, hwz⟩)
    exact ⟨some a, l, cap, rfl, hc, Kd.C_of_reads (d := (0 : Int)) (h1 := fun _ => rfl) hr⟩
theorem open_item_at {n : Nat} {cs : List Value} {x : DataW H × List MemPlace} (h : DataW.trod enc Try.prog W 0 (fun _ => true) true n 39 cs = some x) : ∃ b : It, k39.K W b cs := by
  obtain ⟨y0, y1, m, _, hl, h0, h1⟩ := trod_struct2 Try.underlying39 h
  have c1 : Try.prog.cellsOf 3 = 1 := by kernel_rfl
  have c3 : Try.prog.cellsOf 39 = 2 := by kernel_rfl
  simp only [c1, c3] at hl h0 h1
  match cs, hl with
  | [v0, v1], _ =>
    obtain ⟨i, e0, _⟩ := open_int_at h0
    obtain ⟨j, e1, _⟩ := open_int_at h1
    simp at e0 e1
    subst e0 e1
    exact ⟨⟨i, j⟩, k39_mk W ⟨i, j⟩⟩
theorem list_of {α : Type} {Q : Nat → α → Prop} : ∀ (n : Nat), (∀ i, i < n → ∃ a, Q i a) → ∃ l : List α, l.length = n ∧ ∀ (i : Nat) a, l[i]? = some a → Q i a
  | 0, _ => ⟨[], rfl, fun i a h => by simp at h⟩
  | n + 1, h => by
    obtain ⟨l, hl, hq⟩ := list_of n (fun i hi => h i (by omega))
    obtain ⟨a, ha⟩ := h n (by omega)
    refine ⟨l ++ [a], by simp [hl], fun i b hb => ?_⟩
    by_cases hi : i < l.length
    · rw [List.getElem?_append_left hi] at hb
      exact hq i b hb
    · have hi2 : i = n := by
        have := (List.getElem?_eq_some_iff.1 hb).1
        simp at this
        omega
      subst hi2
      rw [List.getElem?_append_right (by omega), hl] at hb
      simp at hb
      exact hb ▸ ha
set_option maxRecDepth 100000 in
theorem open_items_at {n : Nat} {cs : List Value} {x : DataW H × List MemPlace} (h : DataW.trod enc Try.prog W 0 (fun _ => true) true n 23 cs = some x) :
    ∃ A l c, cs = [.slice A (l : List It).length c] ∧ l.length ≤ c ∧ l.length ≤ 9223372036854775807 ∧ Kd.C k39 W A l.length l := by
  rcases Go.Deep.open_slice Try.underlying23 h with ⟨rfl, _⟩ | ⟨a, len, cap, m, q, D, Pl, rfl, _, hl, hm, hmm, _, hx⟩
  · exact ⟨none, [], 0, rfl, Nat.le_refl _, by simp, Kd.C_nil _ _⟩
  · have hlm : len ≤ m := by rw [hmm]; split <;> omega
    have c3 : Try.prog.cellsOf 39 = 2 := by kernel_rfl
    obtain ⟨l, rfl, hq⟩ := list_of (Q := fun i (b : It) => ∃ cs', cs'.length = 2 ∧ k39.K W b cs' ∧ (∀ j u, cs'[j]? = some u → W.cell? (a.add (i * 2 + j)) = some u)) len (fun i hi => by
      obtain ⟨cs', h1, h2⟩ := hx i (by omega)
      rw [c3] at h1
      obtain ⟨_, hlen, hcell⟩ := World.cells?_some h1
      obtain ⟨b, hb⟩ := open_item_at h2
      refine ⟨b, cs', hlen, hb, fun j u hu => ?_⟩
      have hj : j < 2 := by have := (List.getElem?_eq_some_iff.1 hu).1; omega
      have := hcell j hj
      rw [hu] at this
      rw [← this]
      congr 1
      unfold Addr.add
      split <;> split <;> split <;> simp_all <;> omega)
    have hbig : l.length ≤ 9223372036854775807 := by unfold maxLen at hm; omega
    refine ⟨some a, l, cap, rfl, hl, hbig, ⟨rfl, hbig, fun _ => ⟨a, rfl, fun j p hj => ?_⟩⟩⟩
    obtain ⟨cs', e1, e2, e3⟩ := hq j p hj
    exact ⟨cs', e1, e2, e3⟩
end
end Go.Proofs.Ytfliapankgdeeaa.A

namespace Go.Proofs.Ytfliapankgdeeaa.A
open Go.RowKit Go.Proofs.YtfliapankgdeeaaW.PrintWords Go.Proofs.YtfliapankgdeeaaW.PrintLast Go.Proofs.YtfliapankgdeeaaW.PrintMore Go.Proofs.Ytfliapankgdeeaa.G Go.Proofs.Ytfliapankgdeeaa.D
set_option linter.unusedVariables false
set_option linter.unusedSimpArgs false

theorem facts_len {h z : Int} {ls : List Int} {items : List It} {f : List Fl} {left : List Int} (FA : Facts h z ls items f left) : f.length ≤ 127 ∧ left.length ≤ items.length ∧ (f.flatMap (·.f1)).length + left.length = items.length := by
  have h1 := congrArg List.length FA.keys
  rw [List.length_map] at h1
  have h2 := B.union_length h ls
  have h3 := FA.perm.length_eq
  rw [List.length_append, List.length_map] at h3
  exact ⟨by omega, by omega, h3⟩
theorem lev_any (b : Int) (h0 : 0 ≤ b) (h1 : b < 127) (k : Nat) (hk : 20 ≤ k) : tree_Level.f k b = some (lvI b : Int) := by
  have := lev_at ⟨b.toNat, by omega⟩
  have e : ((b.toNat : Nat) : Int) = b := by omega
  simp only [e] at this
  exact at_rounds (tree_Level.mono b) hk this

theorem perm_plan {h z : Int} {ls : List Int} {a b : List It} (hp : a.Perm b) : planP h z ls a = planP h z ls b := by
  have e : okPlan h z ls a = okPlan h z ls b := by
    unfold okPlan
    rw [hp.all_eq, decide_eq_decide.2 (hp.map (·.f0)).nodup_iff]
  unfold planP
  rw [e]
  cases ok : okPlan h z ls b with
  | false => rfl
  | true =>
    have hn := ok_nodup ok
    have es : srt a = srt b := sort_unique (fun a : It => a.f0) ((srt_perm a).trans hp) ((merge_strict (fun a : It => a.f0) a ((hp.map _).nodup_iff.2 hn)).imp (fun h => by omega)) hn
    rw [es]

theorem same_loop (l : List Rf) (hl : l.length ≤ 1000) (hm : ∀ F ∈ l, F.f1.length ≤ 1000) : ∀ (d k i : Nat), i + d = l.length → d + 1001 < k → oubref7_SameFills.l0 k l l (i : Int) = some true
  | d, 0, i, _, h => by omega
  | 0, k + 1, i, hi, _ => by rw [oubref7_SameFills.l0, if_neg (by omega)]
  | d + 1, k + 1, i, hi, h => by
    have hlt : i < l.length := by omega
    have := hm _ (List.getElem_mem hlt)
    rw [oubref7_SameFills.l0, if_pos (by omega), if_pos (by omega), if_pos (by omega), if_pos rfl, rdRf hlt, B.ints_same _ (by omega) k (by omega), Option.bind_some, if_pos rfl, wrap_at i (by omega)]
    exact same_loop l hl hm d k (i + 1) (by omega) (by omega)
theorem same_any (l : List Rf) (hl : l.length ≤ 1000) (hm : ∀ F ∈ l, F.f1.length ≤ 1000) (k : Nat) (hk : 3000 ≤ k) : oubref7_SameFills.f k l l = some true := by
  unfold oubref7_SameFills.f
  rw [if_pos rfl]
  exact same_loop l hl hm l.length k 0 (by omega) (by omega)

/-- The items told from the r-th on. -/
theorem rot_perm (items : List It) (r : Nat) (hr : r < items.length) : ((List.range items.length).map fun i => items[(i + r) % items.length]!).Perm items := by
  have e : ((List.range items.length).map fun i => items[(i + r) % items.length]!) = items.drop r ++ items.take r := by
    apply List.ext_getElem
    · simp; omega
    · intro i h1 h2
      have hi : i < items.length := by simpa using h1
      simp only [List.getElem_map, List.getElem_range]
      by_cases q : i < items.length - r
      · rw [List.getElem_append_left (by simpa using q), List.getElem_drop, Nat.mod_eq_of_lt (by omega), getElem!_pos items _ (by omega)]
        congr 1; omega
      · have e2 : (i + r) % items.length = i + r - items.length := by rw [Nat.mod_eq_sub_mod (by omega), Nat.mod_eq_of_lt (by omega)]
        rw [List.getElem_append_right (by simp; omega), List.getElem_take, e2, getElem!_pos items _ (by omega)]
        congr 1
        simp
        omega
  rw [e]
  exact List.perm_append_comm.trans (by rw [List.take_append_drop])

section
variable {h z : Int} {ls : List Int} {items : List It} {f : List Fl} {left : List Int}
theorem deep_l3 (hz : z ≤ 4) (hf : f.length ≤ 127) (hb : ∀ F ∈ f, 0 ≤ F.f0 ∧ F.f0 < 127) (i : Nat) (hi : i < items.length) (q : Nat) (hq : q < f.length) (hdeep : ∀ F ∈ f, lvI f[q].f0 < lvI F.f0 → onB h F.f0 items[i] = true → z ≤ (F.f1.length : Int)) (M : Nat) (hM : ∀ k, M ≤ k → oublaw11_EvictDeep.l2 k h z items f (i : Int) ((q + 1 : Nat) : Int) = some true) : ∀ (d k j : Nat), j + d = f.length → d + M + 60 < k → oublaw11_EvictDeep.l3 k h z items f (i : Int) (q : Int) (j : Int) = some true
  | d, 0, j, _, hk => by omega
  | 0, k + 1, j, hj, hk => by
    rw [oublaw11_EvictDeep.l3, if_neg (by omega), wrap_at q (by omega), hM k (by omega)]
  | d + 1, k + 1, j, hj, hk => by
    have hlt : j < f.length := by omega
    obtain ⟨b1, b2⟩ := hb _ (List.getElem_mem hlt)
    obtain ⟨b3, b4⟩ := hb _ (List.getElem_mem hq)
    rw [oublaw11_EvictDeep.l3, if_pos (by omega), if_pos (by omega), rdF hlt, lev_any _ b1 b2 k (by omega), Option.bind_some, if_pos (by omega), if_pos (by omega), rdF hq, lev_any _ b3 b4 k (by omega), Option.bind_some, wrap_at j (by omega)]
    have ih := deep_l3 hz hf hb i hi q hq hdeep M hM d k (j + 1) (by omega) (by omega)
    by_cases e : (lvI f[j].f0 : Int) > (lvI f[q].f0 : Int)
    · rw [if_pos e, if_pos (by omega), if_pos (by omega), rdI hi, B.on_any _ _ _ k (by omega), Option.bind_some]
      by_cases e2 : decide (f[j].f0 ∈ B.path h items[i].f1) = true
      · rw [if_pos e2, if_neg (by have := hdeep f[j] (List.getElem_mem hlt) (by omega) e2; omega)]
        exact ih
      · rw [if_neg e2]; exact ih
    · rw [if_neg e]; exact ih
theorem deep_l2 (FA : Facts h z ls items f left) (hz : z ≤ 4) (hf : f.length ≤ 127) (hb : ∀ F ∈ f, 0 ≤ F.f0 ∧ F.f0 < 127) (i : Nat) (hi : i < items.length) (hi60 : items.length ≤ 60) (c : Nat) (hc : 400 ≤ c) (M : Nat) (hM : ∀ k, M ≤ k → oublaw11_EvictDeep.l1 k h z items f ((i + 1 : Nat) : Int) = some true) : ∀ (d k q : Nat), q + d = f.length → d * c + M + 1 < k → oublaw11_EvictDeep.l2 k h z items f (i : Int) (q : Int) = some true := by
  intro d
  induction d with
  | zero =>
    intro k q hq hk
    obtain ⟨k, rfl⟩ : ∃ r, k = r + 1 := ⟨k - 1, by omega⟩
    rw [oublaw11_EvictDeep.l2, if_neg (by omega), wrap_at i (by omega), hM k (by omega)]
  | succ d ih =>
    intro k q hq hk
    obtain ⟨k, rfl⟩ : ∃ r, k = r + 1 := ⟨k - 1, by omega⟩
    rw [Nat.succ_mul] at hk
    obtain ⟨e, he⟩ : ∃ e, e = d * c := ⟨_, rfl⟩
    rw [← he] at hk ih
    have hlt : q < f.length := by omega
    have hFl := FA.le f[q] (List.getElem_mem hlt)
    rw [oublaw11_EvictDeep.l2, if_pos (by omega), if_pos (by omega), if_pos (by omega), if_pos (by omega), rdF hlt, rdI hi, has_any _ _ (by omega) k (by omega), Option.bind_some, wrap_at q (by omega)]
    by_cases e2 : items[i].f0 ∈ f[q].f1
    · rw [if_pos (by simpa using e2), show ((0 : Int)) = ((0 : Nat) : Int) from rfl]
      obtain ⟨M2, hM2⟩ : ∃ M2, M2 = e + M + 2 := ⟨_, rfl⟩
      exact deep_l3 hz hf hb i hi q hlt (fun F hF hlv ho => FA.deep _ (List.getElem_mem hi) F hF _ (List.getElem_mem hlt) e2 hlv ho) M2 (fun k' hk' => ih k' (q + 1) (by omega) (by omega)) f.length k 0 (by omega) (by omega)
    · rw [if_neg (by simpa using e2)]
      exact ih k (q + 1) (by omega) (by omega)
theorem deep_l1 (FA : Facts h z ls items f left) (hz : z ≤ 4) (hf : f.length ≤ 127) (hb : ∀ F ∈ f, 0 ≤ F.f0 ∧ F.f0 < 127) (hi60 : items.length ≤ 60) (c : Nat) (hc : c = 400) (c2 : Nat) (hc2 : 127 * c + 10 ≤ c2) : ∀ (d k i : Nat), i + d = items.length → d * c2 + 1 < k → oublaw11_EvictDeep.l1 k h z items f (i : Int) = some true := by
  intro d
  induction d with
  | zero =>
    intro k i hi hk
    obtain ⟨k, rfl⟩ : ∃ r, k = r + 1 := ⟨k - 1, by omega⟩
    rw [oublaw11_EvictDeep.l1, if_neg (by omega), show oublaw11_first.f = some true from rfl, Option.bind_some]
  | succ d ih =>
    intro k i hi hk
    obtain ⟨k, rfl⟩ : ∃ r, k = r + 1 := ⟨k - 1, by omega⟩
    rw [Nat.succ_mul] at hk
    obtain ⟨e, he⟩ : ∃ e, e = d * c2 := ⟨_, rfl⟩
    rw [← he] at hk ih
    have hfc : f.length * c ≤ 127 * c := Nat.mul_le_mul_right c hf
    obtain ⟨M, hM⟩ : ∃ M, M = e + 2 := ⟨_, rfl⟩
    have hk3 : f.length * c + M + 1 < k := by omega
    rw [oublaw11_EvictDeep.l1, if_pos (by omega), show ((0 : Int)) = ((0 : Nat) : Int) from rfl]
    exact deep_l2 FA hz hf hb i (by omega) hi60 c (by omega) M (fun k' hk' => ih k' (i + 1) (by omega) (by omega)) f.length k 0 (by omega) hk3

theorem deep_l0 (turn : Int) (ht : 0 ≤ turn) (hn : items.length ≤ 60) (r : Nat) (hr : turn.tmod (items.length : Int) = (r : Int)) (hrl : 0 < items.length → r < items.length) (M : Nat) (b : Option Bool) (hM : ∀ k, M ≤ k → oublaw11_EvictDeep.l0 k h z ls items turn f left ((List.range items.length).map fun i => items[(i + r) % items.length]!) (items.length : Int) = b) : ∀ (d k i : Nat), i + d = items.length → d + M < k → oublaw11_EvictDeep.l0 k h z ls items turn f left ((List.range i).map fun i => items[(i + r) % items.length]!) (i : Int) = b
  | d, 0, i, _, hk => by omega
  | 0, k + 1, i, hi, hk => by
    obtain rfl : i = items.length := by omega
    exact hM _ (by omega)
  | d + 1, k + 1, i, hi, hk => by
    have hr2 := hrl (by omega)
    have e1 : wrap64 ((i : Int) + (r : Int)) = ((i + r : Nat) : Int) := by rw [B.wrap_ok (by omega) (by omega)]; omega
    have e2 : Int.tmod ((i + r : Nat) : Int) (items.length : Int) = (((i + r) % items.length : Nat) : Int) := by rw [Int.tmod_eq_emod_of_nonneg (by omega)]; exact (Int.natCast_emod _ _).symm
    have hm : (i + r) % items.length < items.length := Nat.mod_lt _ (by omega)
    rw [oublaw11_EvictDeep.l0, if_pos (by omega), if_neg (by omega), hr, e1, e2, if_pos (by omega), if_pos (by omega), if_pos (by rw [List.length_map, List.length_range]; omega), rdI hm, wrap_at i (by omega)]
    have ih := deep_l0 turn ht hn r hr hrl M b hM d k (i + 1) (by omega) (by omega)
    rw [List.range_succ, List.map_append] at ih
    have e3 : [i].map (fun i => items[(i + r) % items.length]!) = [items[(i + r) % items.length]] := by
      simp only [List.map_cons, List.map_nil]
      rw [getElem!_pos items ((i + r) % items.length) hm]
    rw [e3] at ih
    exact ih
end

theorem deep_true (h z : Int) (ls : List Int) (items : List It) (turn : Int) : oublaw11_EvictDeep.f 9000000 h z ls items turn = some true := by
  unfold oublaw11_EvictDeep.f
  rw [show oublaw11_first.f = some true from rfl, Option.bind_some, if_pos rfl]
  by_cases h1 : (ls.length : Int) > 40
  · rw [if_pos h1]; rfl
  rw [if_neg h1]
  by_cases h2 : (items.length : Int) > 40
  · rw [if_pos h2]; rfl
  rw [if_neg h2]
  by_cases h3 : turn < 0
  · rw [if_pos h3]; rfl
  rw [if_neg h3, items_any items (by omega) 9000000 (by omega), Option.bind_some, mayPlan_any h z ls items (by omega) (by omega) 9000000 (by omega), Option.bind_some]
  cases ok : okPlan h z ls items with
  | false => rfl
  | true =>
    have FA := facts ok
    obtain ⟨l1, l2, l3⟩ := facts_len FA
    have hz := (ok_z ok).2.1
    have hb : ∀ F ∈ (planP h z ls items).1, 0 ≤ F.f0 ∧ F.f0 < 127 := fun F hF => union_in (h := h) (l := ls) (by rw [← FA.keys]; exact List.mem_map.2 ⟨F, hF, rfl⟩)
    obtain ⟨k, hk⟩ : ∃ k, 9000000 = k + 1 := ⟨8999999, rfl⟩
    rw [hk, oublaw11_EvictDeep.j0, if_neg (show ¬ (!true) = true by decide), show evict_Plan.f h z ls items = some (planP h z ls items) from if_pos ⟨by omega, by omega⟩, Option.bind_some]
    obtain ⟨r, hr⟩ : ∃ r : Nat, turn.tmod (items.length : Int) = (r : Int) := ⟨(turn.tmod (items.length : Int)).toNat, by have := Int.tmod_nonneg (b := (items.length : Int)) (a := turn) (by omega) |> fun h => h; omega⟩
    have hrl : 0 < items.length → r < items.length := fun h0 => by
      have := Int.tmod_lt_of_pos turn (show (0 : Int) < (items.length : Int) by omega)
      omega
    have hend : ∀ k', 8000000 ≤ k' → oublaw11_EvictDeep.l0 k' h z ls items turn (planP h z ls items).1 (planP h z ls items).2 ((List.range items.length).map fun i => items[(i + r) % items.length]!) (items.length : Int) = some true := by
      intro k' hk'
      obtain ⟨k', rfl⟩ : ∃ q, k' = q + 1 + 1 := ⟨k' - 2, by omega⟩
      have hperm : ((List.range items.length).map fun i => items[(i + r) % items.length]!).Perm items := by
        by_cases h0 : 0 < items.length
        · exact rot_perm items r (hrl h0)
        · have : items = [] := List.eq_nil_of_length_eq_zero (by omega)
          subst this
          simp
      have hpl : evict_Plan.f h z ls ((List.range items.length).map fun i => items[(i + r) % items.length]!) = some (planP h z ls items) := by
        unfold evict_Plan.f
        rw [if_pos ⟨by omega, by rw [hperm.length_eq]; omega⟩, perm_plan hperm]
      rw [oublaw11_EvictDeep.l0, if_neg (by omega), hpl, Option.bind_some, fills_any _ (by omega) _ (by omega), Option.bind_some, Option.bind_some, same_any _ (by rw [List.length_map]; omega) (fun F hF => by
        obtain ⟨G, hG, rfl⟩ := List.mem_map.1 hF
        have := FA.le G hG
        show G.f1.length ≤ 1000
        omega) _ (by omega), Option.bind_some, if_pos rfl, B.ints_same _ (by omega) _ (by omega), Option.bind_some, oublaw11_EvictDeep.j2, if_neg (by decide), show ((0 : Int)) = ((0 : Nat) : Int) from rfl]
      obtain ⟨c, hc⟩ : ∃ c, c = 400 := ⟨_, rfl⟩
      obtain ⟨c2, hc2⟩ : ∃ c2, c2 = 60000 := ⟨_, rfl⟩
      have hm : items.length * c2 ≤ 40 * c2 := Nat.mul_le_mul_right c2 (by omega)
      exact deep_l1 FA hz l1 hb (by omega) c hc c2 (by omega) items.length k' 0 (by omega) (by omega)
    exact deep_l0 turn (by omega) (by omega) r hr hrl 8000000 (some true) hend items.length k 0 (by omega) (by omega)
end Go.Proofs.Ytfliapankgdeeaa.A

namespace Go.Proofs.Ytfliapankgdeeaa.evictDeep
open Go.ChangeShapes Go.WideShapes Go.ChangeAt Go.RowKit
set_option linter.unusedVariables false
theorem own : ownKnob Try.prog.godebug = none := by kernel_rfl
theorem laidOut : laidOutB Try.prog = true := by kernel_rfl
set_option maxRecDepth 100000 in
theorem lifted (os : Os) (started : os.Started) (H : Type) (enc : TypeId × Value → H) :
    ReturnsInHanded {} Try.checked os 4 .any (Rows.evictDeepSpec.pre6 enc Try.prog Try.f4 Rows.evictDeepRow.domain false) (Rows.evictDeepSpec.post enc Try.prog Try.f4 false true false false) := by
  refine returnsInHanded_of_change_sized (C := Try.checked) own started (by kernel_rfl) Try.func4
    (ChangeSpec.witness6 (enc := enc) (C := Try.checked) false ⟨#[], #[.int .i64 0, .int .i64 0, .slice none 0 0, .slice none 0 0, .int .i64 0], []⟩ 8 (by kernel_rfl) (by kernel_rfl) (by kernel_rfl) (by kernel_rfl)) ?_
  intro W base args ds gs before hval0 hW hcnd hsz0 _
  have hval : ∀ (j : Nat) t v, Try.f4.params[j]? = some t → args[j]? = some v → Value.okWide Try.prog W .any base t v := hval0
  have hW' := hW
  obtain ⟨p, q, hA0, hV, rfl, hfz, hnd⟩ := hW
  have hA : DataW.TrodAll enc Try.prog W 0 (fun _ => true) true Try.f4.params.toList args.toList ds p := hA0
  rw [Try.params4] at hA hval
  obtain ⟨v0, vs0, d0, ds0, p0, q0, hargs, rfl, rfl, h0, r0⟩ := trodAll_cons hA
  obtain ⟨v1, vs1, d1, ds1, p1, q1, rfl, rfl, rfl, h1, r1⟩ := trodAll_cons r0
  obtain ⟨v2, vs2, d2, ds2, p2, q2, rfl, rfl, rfl, h2, r2⟩ := trodAll_cons r1
  obtain ⟨v3, vs3, d3, ds3, p3, q3, rfl, rfl, rfl, h3, r3⟩ := trodAll_cons r2
  obtain ⟨v4, vs4, d4, ds4, p4, q4, rfl, rfl, rfl, h4, r4⟩ := trodAll_cons r3
  obtain ⟨rfl, rfl, rfl⟩ := trodAll_nil r4
  obtain rfl : args = #[v0, v1, v2, v3, v4] := by cases args; simp_all
  obtain ⟨rfl, rfl⟩ := trodVars_none hV
  obtain ⟨n0, rfl⟩ := okWide_int Try.underlying3 (hval 0 3 v0 rfl rfl)
  obtain ⟨n1, rfl⟩ := okWide_int Try.underlying3 (hval 1 3 v1 rfl rfl)
  obtain ⟨a2, len2, cap2, rfl⟩ := okWide_slice Try.underlying22 (hval 2 22 v2 rfl rfl)
  obtain ⟨a3, len3, cap3, rfl⟩ := okWide_slice Try.underlying23 (hval 3 23 v3 rfl rfl)
  obtain ⟨n4, rfl⟩ := okWide_int Try.underlying3 (hval 4 3 v4 rfl rfl)
  have k0 := h0
  have k1 := h1
  have k2 := h2
  have k3 := h3
  have k4 := h4
  have lt0 : ∀ x ∈ p0, x.block < W.heap.size := by obtain ⟨m, hm⟩ := k0; exact DataW.trod_lt m _ _ _ hm
  have lt1 : ∀ x ∈ p1, x.block < W.heap.size := by obtain ⟨m, hm⟩ := k1; exact DataW.trod_lt m _ _ _ hm
  have lt2 : ∀ x ∈ p2, x.block < W.heap.size := by obtain ⟨m, hm⟩ := k2; exact DataW.trod_lt m _ _ _ hm
  have lt3 : ∀ x ∈ p3, x.block < W.heap.size := by obtain ⟨m, hm⟩ := k3; exact DataW.trod_lt m _ _ _ hm
  have lt4 : ∀ x ∈ p4, x.block < W.heap.size := by obtain ⟨m, hm⟩ := k4; exact DataW.trod_lt m _ _ _ hm
  obtain ⟨l2, e2, w2, c2⟩ : ∃ l : List Int, len2 = l.length ∧ l.length ≤ cap2 ∧ Go.Proofs.YtfliapankgdeeaaW.PrintWords.Kd.C (Go.Proofs.YtfliapankgdeeaaW.PrintWords.Kd.int .i64) W a2 l.length l := by
    obtain ⟨fuel, hf⟩ := h2
    obtain ⟨A, l, c, e, h1, h3⟩ := A.open_ints_at hf
    simp [Value.cells] at e
    obtain ⟨rfl, rfl, rfl⟩ := e
    exact ⟨l, rfl, h1, h3⟩
  obtain ⟨l3, e3, w3, c3⟩ : ∃ l : List A.It, len3 = l.length ∧ l.length ≤ cap3 ∧ Go.Proofs.YtfliapankgdeeaaW.PrintWords.Kd.C G.k39 W a3 l.length l := by
    obtain ⟨fuel, hf⟩ := h3
    obtain ⟨A, l, c, e, h1, _, h3⟩ := A.open_items_at hf
    simp [Value.cells] at e
    obtain ⟨rfl, rfl, rfl⟩ := e
    exact ⟨l, rfl, h1, h3⟩
  subst e2 e3
  clear hA0 hval0 hsz0
  have main := D.oublaw11_EvictDeep.calls 9000000 n0 n1 a2 cap2 l2 a3 cap3 l3 n4 true W c2 w2 c3 w3 ⟨rfl⟩ (A.deep_true n0 n1 l2 l3 n4)
  refine main.mono fun e W' ⟨he, bel⟩ => ?_
  subst he
  exact ⟨_, rfl, _, _, _, [], _, [], hW', trodAll_mk1 (shut_bool Try.underlying4 _), (trodAll_cons_mk (Below.trod laidOut (by kernel_rfl) (of_decide_eq_true (by kernel_rfl)) k0 bel lt0) (trodAll_cons_mk (Below.trod laidOut (by kernel_rfl) (of_decide_eq_true (by kernel_rfl)) k1 bel lt1) (trodAll_cons_mk (Below.trod laidOut (by kernel_rfl) (of_decide_eq_true (by kernel_rfl)) k2 bel lt2) (trodAll_cons_mk (Below.trod laidOut (by kernel_rfl) (of_decide_eq_true (by kernel_rfl)) k3 bel lt3) (trodAll_cons_mk (Below.trod laidOut (by kernel_rfl) (of_decide_eq_true (by kernel_rfl)) k4 bel lt4) trodAll_mk0))))), rfl, bel.frame _, fun h => by cases h⟩
theorem over : Rows.evictDeepRow.holds Try.pinned (OpenSpec.ofChange Rows.evictDeepSpec) :=
  OpenClaim.holds_of_wide 4 Try.f4 rfl rfl rfl rfl rfl rfl rfl ⟨rfl, rfl, rfl, rfl, rfl⟩ rfl rfl rfl rfl rfl (by kernel_rfl) Try.func4 (by kernel_rfl)
    (of_decide_eq_true (by kernel_rfl)) (by unfold Func.isWrapper; first | (rw [if_pos (by decide +kernel)]; kernel_rfl) | (rw [if_neg (by decide +kernel)]; exact ⟨rfl, rfl⟩))
    (fun os started H enc _ => lifted os started H enc)
theorem proved : Rows.EvictDeepSaid := over
#print axioms proved
end Go.Proofs.Ytfliapankgdeeaa.evictDeep
namespace Go.Proofs.Ytfliapankgdeeaa
/-- The row, under a short name, for the claim. -/
theorem evictDeep_holds : Rows.EvictDeepSaid := evictDeep.proved
end Go.Proofs.Ytfliapankgdeeaa
