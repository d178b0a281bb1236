/- A row's arguments of whole numbers and of items, opened. EvictPlans: the plain law. The document's Plan answers what evict.Plan answers. EvictPlans holds of every input: who goes where and who is left is what the document says, told in order; what was handed in stays as it was; the deepest level, too, is the document's. No conditions. -/
import Derived.Test.YtfliapankgdeeaaGreatEvQ
import Derived.WalkKit
import Derived.ProofKit
import Derived.OpenShut
import Derived.ShutString
import Derived.ChangeOld
import Derived.Below
import Derived.SizedLaws
import Derived.Deep.Slices
import Derived.ChangeSame
import Derived.Test.YtfliapankgdeeaaGreatEvRf
import Derived.Test.YtfliapankgdeeaaGreatEvSp
import Derived.Test.YtfliapankgdeeaaGreatPx3
import Derived.Test.YtfliapankgdeeaaGreatRows
import Derived.Test.YtfliapankgdeeaaGreatWSized
namespace Go.Proofs.YtfliapankgdeeaaGreat.A
open Go.RowKit Go.Maps Go.Sort Go.Shelf Go.Proofs.YtfliapankgdeeaaGreatW.PrintWords Go.Proofs.YtfliapankgdeeaaGreat.G Go.ChangeShapes Go.WideShapes Go.ChangeAt
set_option linter.unusedVariables false
section
variable {H : Type} {enc : TypeId × Value → H} {W : World}
set_option maxRecDepth 100000 in
theorem open_int_at {n : Nat} {cs : List Value} {x : DataW H × List MemPlace} (h : DataW.trod enc Tryz.prog W 0 (fun _ => true) true n 3 cs = some x) : ∃ i, cs = [.int .i64 i] ∧ (Lit.int .i64 i).wf = true := by
  cases n with
  | zero => simp [DataW.trod] at h
  | succ n =>
    unfold DataW.trod at h
    rw [Tryz.underlying3] at h
    match cs, h with
    | [.int k i], h =>
      by_cases hk : k = .i64 ∧ (Lit.int .i64 i).wf = true
      · obtain ⟨rfl, hw⟩ := hk
        exact ⟨i, rfl, hw⟩
      · simp [hk] at h
theorem open_ints_at {n : Nat} {cs : List Value} {x : DataW H × List MemPlace} (h : DataW.trod enc Tryz.prog W 0 (fun _ => true) true n 22 cs = some x) : ∃ A xs c, cs = [.slice A (xs : List Int).length c] ∧ xs.length ≤ c ∧ Kd.C (Kd.int .i64) W A xs.length xs := by
  rcases open_ints Tryz.underlying22 Tryz.underlying3 (by kernel_rfl) h with ⟨rfl, _⟩ | ⟨a, len, cap, zs, rfl, _, hl, hm, hz, _, hcell, hwz⟩
  · exact ⟨none, [], 0, rfl, Nat.le_refl _, Kd.C_nil _ _⟩
  · obtain ⟨l, rfl, hr, _, _, hc⟩ := ReadsInt.ofRowC (k := .i64) (w := W) (a := some a) (len := len) (cap := cap) (zs := zs) (.inr ⟨_, rfl, hl, hm, by simpa using hz, hcell, hwz⟩)
    exact ⟨some a, l, cap, rfl, hc, Kd.C_of_reads (d := (0 : Int)) (h1 := fun _ => rfl) hr⟩
theorem open_item_at {n : Nat} {cs : List Value} {x : DataW H × List MemPlace} (h : DataW.trod enc Tryz.prog W 0 (fun _ => true) true n 35 cs = some x) : ∃ b : It, k35.K W b cs := by
  obtain ⟨y0, y1, m, _, hl, h0, h1⟩ := trod_struct2 Tryz.underlying35 h
  have c1 : Tryz.prog.cellsOf 3 = 1 := by kernel_rfl
  have c3 : Tryz.prog.cellsOf 35 = 2 := by kernel_rfl
  simp only [c1, c3] at hl h0 h1
  match cs, hl with
  | [v0, v1], _ =>
    obtain ⟨i, e0, _⟩ := open_int_at h0
    obtain ⟨j, e1, _⟩ := open_int_at h1
    simp at e0 e1
    subst e0 e1
    exact ⟨⟨i, j⟩, k35_mk W ⟨i, j⟩⟩
theorem list_of {α : Type} {Q : Nat → α → Prop} : ∀ (n : Nat), (∀ i, i < n → ∃ a, Q i a) → ∃ l : List α, l.length = n ∧ ∀ (i : Nat) a, l[i]? = some a → Q i a
  | 0, _ => ⟨[], rfl, fun i a h => by simp at h⟩
  | n + 1, h => by
    obtain ⟨l, hl, hq⟩ := list_of n (fun i hi => h i (by omega))
    obtain ⟨a, ha⟩ := h n (by omega)
    refine ⟨l ++ [a], by simp [hl], fun i b hb => ?_⟩
    by_cases hi : i < l.length
    · rw [List.getElem?_append_left hi] at hb
      exact hq i b hb
    · have hi2 : i = n := by
        have := (List.getElem?_eq_some_iff.1 hb).1
        simp at this
        omega
      subst hi2
      rw [List.getElem?_append_right (by omega), hl] at hb
      simp at hb
      exact hb ▸ ha
set_option maxRecDepth 100000 in
theorem open_items_at {n : Nat} {cs : List Value} {x : DataW H × List MemPlace} (h : DataW.trod enc Tryz.prog W 0 (fun _ => true) true n 23 cs = some x) :
    ∃ A l c, cs = [.slice A (l : List It).length c] ∧ l.length ≤ c ∧ l.length ≤ 9223372036854775807 ∧ Kd.C k35 W A l.length l := by
  rcases Go.Deep.open_slice Tryz.underlying23 h with ⟨rfl, _⟩ | ⟨a, len, cap, m, q, D, Pl, rfl, _, hl, hm, hmm, _, hx⟩
  · exact ⟨none, [], 0, rfl, Nat.le_refl _, by simp, Kd.C_nil _ _⟩
  · have hlm : len ≤ m := by rw [hmm]; split <;> omega
    have c3 : Tryz.prog.cellsOf 35 = 2 := by kernel_rfl
    obtain ⟨l, rfl, hq⟩ := list_of (Q := fun i (b : It) => ∃ cs', cs'.length = 2 ∧ k35.K W b cs' ∧ (∀ j u, cs'[j]? = some u → W.cell? (a.add (i * 2 + j)) = some u)) len (fun i hi => by
      obtain ⟨cs', h1, h2⟩ := hx i (by omega)
      rw [c3] at h1
      obtain ⟨_, hlen, hcell⟩ := World.cells?_some h1
      obtain ⟨b, hb⟩ := open_item_at h2
      refine ⟨b, cs', hlen, hb, fun j u hu => ?_⟩
      have hj : j < 2 := by have := (List.getElem?_eq_some_iff.1 hu).1; omega
      have := hcell j hj
      rw [hu] at this
      rw [← this]
      congr 1
      unfold Addr.add
      split <;> split <;> split <;> simp_all <;> omega)
    have hbig : l.length ≤ 9223372036854775807 := by unfold maxLen at hm; omega
    refine ⟨some a, l, cap, rfl, hl, hbig, ⟨rfl, hbig, fun _ => ⟨a, rfl, fun j p hj => ?_⟩⟩⟩
    obtain ⟨cs', e1, e2, e3⟩ := hq j p hj
    exact ⟨cs', e1, e2, e3⟩
end
end Go.Proofs.YtfliapankgdeeaaGreat.A

namespace Go.Proofs.YtfliapankgdeeaaGreat.A
open Go.RowKit Go.Lib Go.Proofs.YtfliapankgdeeaaGreatW.PrintWords Go.Proofs.YtfliapankgdeeaaGreatW.PrintLast Go.Proofs.YtfliapankgdeeaaGreatW.PrintMore Go.Proofs.YtfliapankgdeeaaGreat.G Go.Proofs.YtfliapankgdeeaaGreat.P
set_option linter.unusedVariables false
set_option linter.unusedSimpArgs false

/-- The leaf that the search behind an id ends with. -/
def lf (id : Int) : List It → Int → Int
  | [], c => c
  | y :: r, c => lf id r (if y.f0 = id then y.f1 else c)
theorem lf_none {id : Int} : ∀ (l : List It) (c : Int), (∀ y ∈ l, y.f0 ≠ id) → lf id l c = c
  | [], _, _ => rfl
  | y :: r, c, h => by
    rw [lf, if_neg (h y List.mem_cons_self)]
    exact lf_none r c (fun q hq => h q (List.mem_cons_of_mem _ hq))
theorem lf_in {x : It} : ∀ (l : List It) (c : Int), (l.map (·.f0)).Nodup → x ∈ l → lf x.f0 l c = x.f1
  | [], _, _, h => by cases h
  | y :: r, c, hn, h => by
    rw [List.map_cons, List.nodup_cons] at hn
    rw [lf]
    rcases List.mem_cons.1 h with rfl | h
    · rw [if_pos rfl]
      exact lf_none r _ (fun q hq e => hn.1 (e ▸ List.mem_map.2 ⟨q, hq, rfl⟩))
    · exact lf_in r _ hn.2 h

/-- What stands at a bucket's place. -/
def slot : List Fl → Int → Rf
  | [], _ => z58
  | f :: r, b => if f.f0 = b then cvF f else slot r b
theorem slot_none {b : Int} : ∀ F : List Fl, b ∉ F.map (·.f0) → slot F b = z58
  | [], _ => rfl
  | f :: r, h => by
    rw [List.map_cons, List.mem_cons, not_or] at h
    rw [slot, if_neg (fun e => h.1 e.symm)]
    exact slot_none r h.2
theorem slot_in {f : Fl} : ∀ F : List Fl, (F.map (·.f0)).Nodup → f ∈ F → slot F f.f0 = cvF f
  | [], _, h => by cases h
  | g :: r, hn, h => by
    rw [List.map_cons, List.nodup_cons] at hn
    rw [slot]
    rcases List.mem_cons.1 h with rfl | h
    · rw [if_pos rfl]
    · rw [if_neg (fun e => hn.1 (by rw [e]; exact List.mem_map.2 ⟨f, h, rfl⟩))]
      exact slot_in r hn.2 h
theorem slot_snoc {g : Fl} {b : Int} : ∀ F : List Fl, b ≠ g.f0 → slot (F ++ [g]) b = slot F b
  | [], h => by
    show (if g.f0 = b then cvF g else z58) = z58
    rw [if_neg (fun e => h e.symm)]
  | f :: r, h => by
    rw [List.cons_append, slot, slot, slot_snoc r h]
theorem slot_last {g : Fl} : ∀ F : List Fl, g.f0 ∉ F.map (·.f0) → slot (F ++ [g]) g.f0 = cvF g
  | [], _ => by rw [List.nil_append, slot, if_pos rfl]
  | f :: r, h => by
    rw [List.map_cons, List.mem_cons, not_or] at h
    rw [List.cons_append, slot, if_neg (fun e => h.1 e.symm)]
    exact slot_last r h.2
theorem slot_set {u : List Int} {i : Nat} {F : List Fl} {ids : List Int} (hu : u.Nodup) (hi : i < u.length) (hb : u[i] ∉ F.map (·.f0)) :
    (u.map (slot F)).set i ⟨u[i], ids⟩ = u.map (slot (F ++ [⟨u[i], ids⟩])) := by
  apply List.ext_getElem
  · simp
  · intro j h1 h2
    simp only [List.length_set, List.length_map] at h1
    rw [List.getElem_set, List.getElem_map]
    by_cases e : i = j
    · subst e
      rw [if_pos rfl, List.getElem_map]
      exact (slot_last (g := ⟨u[i], ids⟩) F hb).symm
    · rw [if_neg e, List.getElem_map, slot_snoc F]
      exact fun q => e ((List.getElem_inj hu).1 q).symm

/-- The buckets in the document's order: the levels downward, each by number. -/
def order (u : List Int) : Nat → List Int
  | 0 => []
  | d + 1 => u.filter (fun b => decide (lvI b = d)) ++ order u d
theorem order_mem {u : List Int} {b : Int} : ∀ d, b ∈ order u d ↔ b ∈ u ∧ lvI b < d
  | 0 => by simp [order]
  | d + 1 => by
    rw [order, List.mem_append, order_mem d, List.mem_filter, decide_eq_true_eq]
    constructor
    · rintro (⟨h1, h2⟩ | ⟨h1, h2⟩) <;> exact ⟨h1, by omega⟩
    · rintro ⟨h1, h2⟩
      by_cases e : lvI b = d
      · exact .inl ⟨h1, e⟩
      · exact .inr ⟨h1, by omega⟩
theorem order_le {u : List Int} (hu : u.Pairwise (· < ·)) : ∀ d, (order u d).Pairwise fun a b => leI a b = true
  | 0 => List.Pairwise.nil
  | d + 1 => by
    rw [order, List.pairwise_append]
    refine ⟨?_, order_le hu d, ?_⟩
    · refine (List.Pairwise.and_mem.1 (hu.filter _)).imp ?_
      rintro a b ⟨ha, hb, h⟩
      have h1 := of_decide_eq_true (List.mem_filter.1 ha).2
      have h2 := of_decide_eq_true (List.mem_filter.1 hb).2
      exact decide_eq_true (.inr ⟨by omega, by omega⟩)
    · intro a ha b hb
      have h1 := of_decide_eq_true (List.mem_filter.1 ha).2
      have h2 := (order_mem d).1 hb
      exact decide_eq_true (.inl (by omega))
theorem leI_anti {a b : Int} (h1 : leI a b = true) (h2 : leI b a = true) : a = b := by
  have := of_decide_eq_true h1
  have := of_decide_eq_true h2
  omega
theorem order_nodup {u : List Int} (hu : u.Pairwise (· < ·)) : ∀ d, (order u d).Nodup
  | 0 => List.nodup_nil
  | d + 1 => by
    rw [order]
    refine List.nodup_append.2 ⟨(hu.filter _).imp (fun h => by omega), order_nodup hu d, ?_⟩
    intro a ha b hb e
    subst e
    have h1 := of_decide_eq_true (List.mem_filter.1 ha).2
    have h2 := (order_mem d).1 hb
    omega
theorem order_is {u : List Int} (hu : u.Pairwise (· < ·)) (d : Nat) (hd : ∀ b ∈ u, lvI b < d) : order u d = ordB u := by
  have hp : (order u d).Perm (ordB u) := by
    refine List.Perm.trans ?_ (ordB_perm u).symm
    refine (List.perm_ext_iff_of_nodup (order_nodup hu d) (hu.imp (fun h => by omega))).2 (fun b => ?_)
    rw [order_mem]
    exact ⟨And.left, fun h => ⟨h, hd b h⟩⟩
  exact List.Perm.eq_of_pairwise (fun a b _ _ h1 h2 => leI_anti h1 h2) (order_le hu d) (ordB_sorted u) hp

section
variable {h z : Int} {items : List It} {u : List Int}

theorem l4_loop (hl : items.length ≤ 100) (left : List Int) (out : List Rf) (lv : Int) (ii : Nat) (rest : List Int) (kk : Nat) (hkk : kk < left.length) (leaf : Int) (M : Nat) (R : Option (List Rf × List Int))
    (hM : ∀ k, M ≤ k → oubref7_Plan.l4 k h z (items.map cv) left u out lv (ii : Int) rest (kk : Int) leaf (items.length : Int) = R) :
    ∀ (d k j : Nat) (c : Int), j + d = items.length → d + M ≤ k → lf left[kk] (items.drop j) c = leaf → oubref7_Plan.l4 k h z (items.map cv) left u out lv (ii : Int) rest (kk : Int) c (j : Int) = R
  | 0, k, j, c, hj, hk, e => by
    obtain rfl : j = items.length := by omega
    rw [List.drop_length, lf] at e
    rw [e]
    exact hM k (by omega)
  | d + 1, 0, j, c, _, hk, _ => by omega
  | d + 1, k + 1, j, c, hj, hk, e => by
    have hlt : j < items.length := by omega
    rw [List.drop_eq_getElem_cons hlt, lf] at e
    have hr : rd_T56 (items.map cv) (j : Int) = cv items[j] := by rw [rdRi (by simpa using hlt), List.getElem_map]
    rw [oubref7_Plan.l4, if_pos (by rw [List.length_map]; omega), if_pos (by omega), if_pos (by omega), if_pos (by omega), hr, rdN hkk, wrap_at j (by omega)]
    show (if items[j].f0 = left[kk] then _ else _) = R
    by_cases q : items[j].f0 = left[kk]
    · rw [if_pos q] at e ⊢
      exact l4_loop hl left out lv ii rest kk hkk leaf M R hM d k (j + 1) _ (by omega) (by omega) e
    · rw [if_neg q] at e ⊢
      exact l4_loop hl left out lv ii rest kk hkk leaf M R hM d k (j + 1) _ (by omega) (by omega) e

/-- One bucket: who is taken, who is left. -/
theorem l3_loop (hl : items.length ≤ 100) (hn : (items.map (·.f0)).Nodup) (hu : u.length ≤ 200) (lft : List It) (hlf : ∀ x ∈ lft, x ∈ items) (hll : lft.length ≤ 100) (out : List Rf) (hout : out.length = u.length) (lv : Int) (ii : Nat) (hii : ii < u.length) (IDS REST : List Int) (M : Nat) (R : Option (List Rf × List Int))
    (hM : ∀ k, M ≤ k → oubref7_Plan.l3 k h z (items.map cv) (lft.map (·.f0)) u (out.set ii ⟨u[ii], IDS⟩) lv (ii : Int) REST (lft.length : Int) = R) (hM30 : 30 ≤ M) :
    ∀ (d k j : Nat) (ids rest : List Int), j + d = lft.length → d * 200 + M ≤ k → ids.length ≤ j → rest.length ≤ j → (tk z (onB h u[ii]) ids (lft.drop j)).1 = IDS → rest ++ (tk z (onB h u[ii]) ids (lft.drop j)).2.map (·.f0) = REST →
      oubref7_Plan.l3 k h z (items.map cv) (lft.map (·.f0)) u (out.set ii ⟨u[ii], ids⟩) lv (ii : Int) rest (j : Int) = R
  | 0, k, j, ids, rest, hj, hk, h1, h2, e1, e2 => by
    obtain rfl : j = lft.length := by omega
    rw [List.drop_length, tk] at e1 e2
    simp only [List.map_nil, List.append_nil] at e1 e2
    subst e1 e2
    exact hM k (by omega)
  | d + 1, 0, j, ids, rest, _, hk, _, _, _, _ => by omega
  | d + 1, k + 1, j, ids, rest, hj, hk, h1, h2, e1, e2 => by
    have hlt : j < lft.length := by omega
    have hx := hlf _ (List.getElem_mem hlt)
    rw [List.drop_eq_getElem_cons hlt, tk] at e1 e2
    have hlm : (lft.map (·.f0)).length = lft.length := List.length_map _
    have hgm : (lft.map (·.f0))[j]'(by omega) = lft[j].f0 := List.getElem_map _
    rw [oubref7_Plan.l3, if_pos (by omega), show ((0 : Int)) = ((0 : Nat) : Int) from rfl]
    rw [Nat.succ_mul] at hk
    refine l4_loop hl _ _ lv ii rest j (by omega) lft[j].f1 (k - items.length) R (fun k' hk' => ?_) items.length k 0 _ (by omega) (by omega) (by rw [hgm, List.drop_zero]; exact lf_in items _ hn hx)
    obtain ⟨k', rfl⟩ : ∃ q, k' = q + 1 := ⟨k' - 1, by omega⟩
    have hol : (out.set ii (⟨u[ii], ids⟩ : Rf)).length = u.length := by rw [List.length_set, hout]
    have hro : rd_T58 (out.set ii (⟨u[ii], ids⟩ : Rf)) (ii : Int) = ⟨u[ii], ids⟩ := by rw [rdRf (by omega), List.getElem_set_self]
    have hon : oubref7_On.f k' h u[ii] lft[j].f1 = some (onB h u[ii] lft[j]) := B.refOn_any h u[ii] lft[j].f1 k' (by omega)
    have hrl : rd (lft.map (·.f0)) (j : Int) = lft[j].f0 := by rw [rdN (by omega), hgm]
    have ih := l3_loop hl hn hu lft hlf hll out hout lv ii hii IDS REST M R hM hM30 d k' (j + 1)
    rw [oubref7_Plan.l4, if_neg (by rw [List.length_map]; omega), if_pos (by omega), if_pos (by omega), hro]
    unfold takes at e1 e2
    by_cases c1 : (ids.length : Int) < z
    · rw [if_pos (by exact c1), if_pos (by omega), rdN hii, hon, Option.bind_some]
      cases c2 : onB h u[ii] lft[j] with
      | true =>
        rw [c2, decide_eq_true c1, Bool.true_and, if_pos rfl] at e1 e2
        rw [if_pos rfl, if_pos (by omega), if_pos (by omega), if_pos (by show ids.length < _; omega), hrl, wrap_at j (by omega), Int.toNat_natCast, List.set_set]
        exact ih _ _ (by omega) (by omega) (by rw [List.length_append]; simp; omega) (by omega) e1 e2
      | false =>
        rw [c2, decide_eq_true c1, Bool.true_and, if_neg (by decide)] at e1 e2
        rw [if_neg (by decide), if_pos (by omega), if_pos (by omega), if_pos (by omega), hrl, wrap_at j (by omega)]
        exact ih _ _ (by omega) (by omega) (by omega) (by rw [List.length_append]; simp; omega) e1 (by rw [← e2, List.map_cons, List.append_assoc]; rfl)
    · rw [decide_eq_false c1, Bool.false_and, if_neg (by decide)] at e1 e2
      rw [if_neg (by exact c1), if_pos (by omega), if_pos (by omega), if_pos (by omega), hrl, wrap_at j (by omega)]
      exact ih _ _ (by omega) (by omega) (by omega) (by rw [List.length_append]; simp; omega) e1 (by rw [← e2, List.map_cons, List.append_assoc]; rfl)

/-- What is told of the buckets done: who is left, what they have. -/
def lftP (h z : Int) (items : List It) (P : List Int) : List Int := (runB z h P (srt items)).2.map (·.f0)
def outP (h z : Int) (items : List It) (u P : List Int) : List Rf := u.map (slot (runB z h P (srt items)).1)

theorem l2_loop (hl : items.length ≤ 100) (hn : (items.map (·.f0)).Nodup) (hu : u.length ≤ 200) (hu1 : u.Nodup) (hub : ∀ b ∈ u, 0 ≤ b ∧ b < 127) (lv : Nat) (c : Nat) (hc : 22000 ≤ c) (T : List Int) (M : Nat) (hM30 : 30 ≤ M) (R : Option (List Rf × List Int))
    (hM : ∀ k, M ≤ k → oubref7_Plan.l2 k h z (items.map cv) (lftP h z items T) u (outP h z items u T) (lv : Int) (u.length : Int) = R) :
    ∀ (d k i : Nat) (P : List Int), i + d = u.length → d * c + M ≤ k → P ++ (u.drop i).filter (fun b => decide (lvI b = lv)) = T → (∀ b ∈ P, ∀ j (hj : j < u.length), i ≤ j → lvI u[j] = lv → u[j] ≠ b) →
      oubref7_Plan.l2 k h z (items.map cv) (lftP h z items P) u (outP h z items u P) (lv : Int) (i : Int) = R
  | 0, k, i, P, hi, hk, e, _ => by
    obtain rfl : i = u.length := by omega
    rw [List.drop_length, List.filter_nil, List.append_nil] at e
    subst e
    exact hM k (by omega)
  | d + 1, 0, i, P, _, hk, _, _ => by rw [Nat.succ_mul] at hk; omega
  | d + 1, k + 1, i, P, hi, hk, e, hP => by
    have hlt : i < u.length := by omega
    obtain ⟨b0, b1⟩ := hub _ (List.getElem_mem hlt)
    rw [Nat.succ_mul] at hk
    obtain ⟨q, hq⟩ : ∃ q, q = d * c := ⟨_, rfl⟩
    rw [← hq] at hk
    have ih := l2_loop hl hn hu hu1 hub lv c hc T M hM30 R hM d
    rw [← hq] at ih
    rw [List.drop_eq_getElem_cons hlt, List.filter_cons] at e
    have hol : (outP h z items u P).length = u.length := List.length_map _
    rw [oubref7_Plan.l2, if_pos (by omega), if_pos (by omega), rdN hlt, B.refLevel_any _ b0 b1 k (by omega), Option.bind_some, wrap_at i (by omega)]
    by_cases cl : lvI u[i] = lv
    · rw [decide_eq_true cl, if_pos rfl] at e
      rw [if_pos (by omega), if_pos (by omega), Int.toNat_natCast, show ((0 : Int)) = ((0 : Nat) : Int) from rfl]
      have hbk : u[i] ∉ (runB z h P (srt items)).1.map (·.f0) := by
        rw [runB_keys]
        exact fun hm => hP _ hm i hlt (Nat.le_refl _) cl rfl
      have hsl : rd_T58 (outP h z items u P) (i : Int) = z58 := by
        rw [rdRf (by omega)]
        unfold outP
        rw [List.getElem_map]
        exact slot_none _ hbk
      rw [hsl]
      have hsub := runB_sub (z := z) (h := h) P (srt items)
      have hlen := hsub.length_le
      rw [(srt_perm items).length_eq] at hlen
      refine l3_loop hl hn hu (runB z h P (srt items)).2 (fun x hx => (srt_perm items).mem_iff.1 (hsub.mem hx)) (by omega) (outP h z items u P) hol (lv : Int) i hlt (tk z (onB h u[i]) [] (runB z h P (srt items)).2).1 ((tk z (onB h u[i]) [] (runB z h P (srt items)).2).2.map (·.f0)) (q + M + 1) R (fun k' hk' => ?_) (by omega) (runB z h P (srt items)).2.length k 0 [] [] (by omega) (by omega) (by simp) (by simp) (by rw [List.drop_zero]) (by rw [List.drop_zero, List.nil_append])
      obtain ⟨k', rfl⟩ : ∃ q, k' = q + 1 := ⟨k' - 1, by omega⟩
      rw [oubref7_Plan.l3, if_neg (by rw [List.length_map]; omega), wrap_at i (by omega)]
      have es := slot_set (ids := (tk z (onB h u[i]) [] (runB z h P (srt items)).2).1) hu1 hlt hbk
      have e2 : (outP h z items u P).set i ⟨u[i], (tk z (onB h u[i]) [] (runB z h P (srt items)).2).1⟩ = outP h z items u (P ++ [u[i]]) := by
        unfold outP
        rw [es, runB_snoc]
      have e3 : (tk z (onB h u[i]) [] (runB z h P (srt items)).2).2.map (·.f0) = lftP h z items (P ++ [u[i]]) := by
        unfold lftP
        rw [runB_snoc]
      rw [e2, e3]
      refine ih k' (i + 1) (P ++ [u[i]]) (by omega) (by omega) (by rw [List.append_assoc]; exact e) ?_
      intro b hb j hj hij hlj
      rcases List.mem_append.1 hb with hb | hb
      · exact hP b hb j hj (by omega) hlj
      · rw [List.mem_singleton.1 hb]
        exact fun q => by have := (List.getElem_inj hu1).1 q; omega
    · rw [decide_eq_false cl, if_neg (by decide)] at e
      rw [if_neg (by omega)]
      exact ih k (i + 1) P (by omega) (by omega) e (fun b hb j hj hij hlj => hP b hb j hj (by omega) hlj)

theorem l1_loop (hl : items.length ≤ 100) (hn : (items.map (·.f0)).Nodup) (hu : u.length ≤ 200) (hu1 : u.Pairwise (· < ·)) (hub : ∀ b ∈ u, 0 ≤ b ∧ b < 127) (c : Nat) (hc : c = 22000) (c2 : Nat) (hc2 : 200 * c + 100 ≤ c2) (T : List Int) :
    ∀ (d k : Nat) (P : List Int), d ≤ 100 → d * c2 + 1 ≤ k → P ++ order u d = T → (∀ b ∈ P, d ≤ lvI b) →
      oubref7_Plan.l1 k h z (items.map cv) (lftP h z items P) u (outP h z items u P) ((d : Int) - 1) = some (outP h z items u T, lftP h z items T)
  | 0, k, P, hd, hk, e, hP => by
    obtain ⟨k, rfl⟩ : ∃ q, k = q + 1 := ⟨k - 1, by omega⟩
    rw [order, List.append_nil] at e
    subst e
    rw [oubref7_Plan.l1, if_neg (by omega)]
  | d + 1, k, P, hd, hk, e, hP => by
    rw [Nat.succ_mul] at hk
    obtain ⟨q, hq⟩ : ∃ q, q = d * c2 := ⟨_, rfl⟩
    rw [← hq] at hk
    obtain ⟨k, rfl⟩ : ∃ q, k = q + 1 := ⟨k - 1, by omega⟩
    have ih := l1_loop hl hn hu hu1 hub c hc c2 hc2 T d
    rw [← hq] at ih
    have hu2 : u.Nodup := hu1.imp (fun h => by omega)
    have hm : u.length * c ≤ 200 * c := Nat.mul_le_mul_right c hu
    rw [order, ← List.append_assoc] at e
    rw [oubref7_Plan.l1, if_pos (by omega), show (((d + 1 : Nat) : Int) - 1) = (d : Int) by omega, show ((0 : Int)) = ((0 : Nat) : Int) from rfl]
    refine l2_loop hl hn hu hu2 hub d c (by omega) (P ++ u.filter (fun b => decide (lvI b = d))) (q + 40) (by omega) _ (fun k' hk' => ?_) u.length k 0 P (by omega) (by omega) (by rw [List.drop_zero]) (fun b hb j hj _ hlj eb => ?_)
    · obtain ⟨k', rfl⟩ : ∃ q, k' = q + 1 := ⟨k' - 1, by omega⟩
      rw [oubref7_Plan.l2, if_neg (by omega), B.wrap_ok (by omega) (by omega)]
      refine ih k' _ (by omega) (by omega) e ?_
      intro b hb
      rcases List.mem_append.1 hb with hb | hb
      · have := hP b hb; omega
      · have := of_decide_eq_true (List.mem_filter.1 hb).2; omega
    · have := hP b hb
      rw [← eb] at this
      omega

theorem l0_loop (ls : List Int) (hl : items.length ≤ 100) (M : Nat) (R : Option (List Rf × List Int)) (hM : ∀ k, M ≤ k → oubref7_Plan.l0 k h z ls (items.map cv) (items.map (·.f0)) (items.length : Int) = R) :
    ∀ (d k i : Nat), i + d = items.length → d + M ≤ k → oubref7_Plan.l0 k h z ls (items.map cv) ((items.take i).map (·.f0)) (i : Int) = R
  | 0, k, i, hi, hk => by
    obtain rfl : i = items.length := by omega
    rw [List.take_length]
    exact hM k (by omega)
  | d + 1, 0, i, _, hk => by omega
  | d + 1, k + 1, i, hi, hk => by
    have hlt : i < items.length := by omega
    have hr : rd_T56 (items.map cv) (i : Int) = cv items[i] := by rw [rdRi (by simpa using hlt), List.getElem_map]
    rw [oubref7_Plan.l0, if_pos (by rw [List.length_map]; omega), if_pos (by omega), if_pos (by rw [List.length_map, List.length_take]; omega), hr, wrap_at i (by omega)]
    have ih := l0_loop ls hl M R hM d k (i + 1) (by omega) (by omega)
    rw [List.take_succ_eq_append_getElem hlt, List.map_append] at ih
    exact ih

theorem sorted_ids (items : List It) : L.isort (items.map (·.f0)) = (srt items).map (·.f0) := by
  refine (isort_unique ((srt_perm items).map _) ?_).symm
  have := List.pairwise_mergeSort (le := fun a b : It => decide (a.f0 ≤ b.f0)) (fun a b c h1 h2 => by simp at *; omega) (fun a b => by simp; omega) items
  rw [List.pairwise_map]
  exact this.imp (fun h => by simpa using h)
end

theorem lev_le {h b : Int} {ls : List Int} (m : Nat) (hm : h = m) (hm6 : m ≤ 6) (hb : b ∈ B.unionOf h ls) : lvI b < m + 1 := by
  subst hm
  unfold B.unionOf at hb
  split at hb
  · obtain ⟨n, hn, rfl⟩ := List.mem_map.1 (List.mem_filter.1 hb).1
    have hn := List.mem_range.1 hn
    unfold B.bucketsOf at hn
    rw [if_pos ⟨by omega, by omega⟩, Int.toNat_natCast] at hn
    unfold lvI
    rw [Nat.log2_lt (by omega)]
    simp only [Int.ofNat_eq_natCast, Int.toNat_natCast]
    rw [Nat.pow_succ]
    omega
  · cases hb

theorem slots_all {u : List Int} (F : List Fl) (h1 : (srtF F).map (·.f0) = u) (h2 : (F.map (·.f0)).Nodup) : u.map (slot F) = (srtF F).map cvF := by
  rw [← h1, List.map_map]
  exact List.map_congr_left (fun g hg => slot_in F h2 ((srtF_perm F).mem_iff.1 hg))

/-- The document's Plan. -/
theorem refPlan_any (h z : Int) (ls : List Int) (items : List It) (hls : ls.length ≤ 60) (hl : items.length ≤ 60) (k : Nat) (hk : 40000000 ≤ k) :
    oubref7_Plan.f k h z ls (items.map cv) = some ((planP h z ls items).1.map cvF, (planP h z ls items).2) := by
  unfold oubref7_Plan.f
  rw [mayPlan_any h z ls items (by omega) (by omega) k (by omega), Option.bind_some]
  cases ok : okPlan h z ls items with
  | false =>
    rw [if_neg (by decide)]
    unfold planP
    rw [ok, if_neg (by decide)]
    rfl
  | true =>
    rw [if_pos rfl, show ((0 : Int)) = ((0 : Nat) : Int) from rfl]
    have hn := ok_nodup ok
    obtain ⟨z1, z4, h0, h6⟩ := ok_z ok
    obtain ⟨m, hm⟩ : ∃ m : Nat, h = m := ⟨h.toNat, by omega⟩
    have FA := facts ok
    have hus := union_strict h ls
    have hul := B.union_length h ls
    have hub : ∀ b ∈ B.unionOf h ls, 0 ≤ b ∧ b < 127 := fun b hb => union_in hb
    have eo := order_is hus (m + 1) (fun b hb => lev_le m hm (by omega) hb)
    have hfin : (outP h z items (B.unionOf h ls) (ordB (B.unionOf h ls)), lftP h z items (ordB (B.unionOf h ls))) = ((planP h z ls items).1.map cvF, (planP h z ls items).2) := by
      rw [planP_ok ok]
      have hk := FA.keys
      rw [planP_ok ok] at hk
      refine Prod.ext (slots_all _ hk ?_) rfl
      rw [runB_keys]
      exact (ordB_perm _).nodup_iff.2 (hus.imp (fun h => by omega))
    have hend : ∀ k', 32000000 ≤ k' → oubref7_Plan.l0 k' h z ls (items.map cv) (items.map (·.f0)) (items.length : Int) = some ((planP h z ls items).1.map cvF, (planP h z ls items).2) := by
      intro k' hk'
      obtain ⟨k', rfl⟩ : ∃ q, k' = q + 1 := ⟨k' - 1, by omega⟩
      rw [oubref7_Plan.l0, if_neg (by rw [List.length_map]; omega), show oubref_Sorted.f (items.map (·.f0)) = some (L.isort (items.map (·.f0))) from if_pos (by rw [List.length_map]; omega), Option.bind_some, B.refUnion_any h ls (by omega) k' (by omega), Option.bind_some, if_pos (by omega), if_pos (by rw [Int.toNat_natCast]; omega), Int.toNat_natCast, sorted_ids]
      obtain ⟨c, hc⟩ : ∃ c, c = 22000 := ⟨_, rfl⟩
      obtain ⟨c2, hc2⟩ : ∃ c2, c2 = 200 * c + 100 := ⟨_, rfl⟩
      have hmc : (m + 1) * c2 ≤ 7 * c2 := Nat.mul_le_mul_right c2 (by omega)
      have := l1_loop (h := h) (z := z) (items := items) (by omega) hn (by omega) hus hub c hc c2 (by omega) (ordB (B.unionOf h ls)) (m + 1) k' [] (by omega) (by omega) (by rw [List.nil_append]; exact eo) (fun b hb => by cases hb)
      rw [hfin] at this
      have e1 : lftP h z items [] = (srt items).map (·.f0) := rfl
      have e2 : outP h z items (B.unionOf h ls) [] = List.replicate (B.unionOf h ls).length z58 := by
        unfold outP
        exact (List.map_congr_left (fun b _ => rfl)).trans List.map_const'
      have e3 : (((m + 1 : Nat) : Int) - 1) = h := by omega
      rw [e1, e2, e3] at this
      exact this
    exact l0_loop ls (by omega) 32000000 _ hend items.length k 0 (by omega) (by omega)

theorem same_loop (l : List Rf) (hl : l.length ≤ 1000) (hm : ∀ F ∈ l, F.f1.length ≤ 1000) : ∀ (d k i : Nat), i + d = l.length → d + 1001 < k → oubref7_SameFills.l0 k l l (i : Int) = some true
  | d, 0, i, _, h => by omega
  | 0, k + 1, i, hi, _ => by rw [oubref7_SameFills.l0, if_neg (by omega)]
  | d + 1, k + 1, i, hi, h => by
    have hlt : i < l.length := by omega
    have := hm _ (List.getElem_mem hlt)
    rw [oubref7_SameFills.l0, if_pos (by omega), if_pos (by omega), if_pos (by omega), if_pos rfl, rdRf hlt, B.ints_same _ (by omega) k (by omega), Option.bind_some, if_pos rfl, wrap_at i (by omega)]
    exact same_loop l hl hm d k (i + 1) (by omega) (by omega)
theorem same_any (l : List Rf) (hl : l.length ≤ 1000) (hm : ∀ F ∈ l, F.f1.length ≤ 1000) (k : Nat) (hk : 3000 ≤ k) : oubref7_SameFills.f k l l = some true := by
  unfold oubref7_SameFills.f
  rw [if_pos rfl]
  exact same_loop l hl hm l.length k 0 (by omega) (by omega)

theorem plans_l0 (h : Int) (ls : List Int) (items : List It) (leaf : Int) (f : List Fl) (left : List Int) (g : List Rf) (rest : List Int) (hl : items.length ≤ 60) (M : Nat) (R : Option Bool) (hM : ∀ k, M ≤ k → oublaw11_EvictPlans.l0 k h ls items leaf ls items f left g rest (items.length : Int) = R) :
    ∀ (d k i : Nat), i + d = items.length → d + M ≤ k → oublaw11_EvictPlans.l0 k h ls items leaf ls items f left g rest (i : Int) = R
  | 0, k, i, hi, hk => by
    obtain rfl : i = items.length := by omega
    exact hM k (by omega)
  | d + 1, 0, i, _, hk => by omega
  | d + 1, k + 1, i, hi, hk => by
    rw [oublaw11_EvictPlans.l0, if_pos (by omega), if_pos (by omega), if_pos (by omega), if_neg (by simp), wrap_at i (by omega)]
    exact plans_l0 h ls items leaf f left g rest hl M R hM d k (i + 1) (by omega) (by omega)

theorem plan_lens (h z : Int) (ls : List Int) (items : List It) : (planP h z ls items).1.length ≤ 127 ∧ (planP h z ls items).2.length ≤ items.length ∧ ∀ F ∈ (planP h z ls items).1, F.f1.length ≤ items.length := by
  cases ok : okPlan h z ls items with
  | false =>
    have e : planP h z ls items = ([], []) := by unfold planP; rw [ok, if_neg (by decide)]
    rw [e]
    exact ⟨by simp, by simp, fun F hF => by cases hF⟩
  | true =>
    have FA := facts ok
    have h1 := congrArg List.length FA.keys
    rw [List.length_map] at h1
    have h2 := B.union_length h ls
    have h3 := FA.perm.length_eq
    rw [List.length_append, List.length_map] at h3
    refine ⟨by omega, by omega, fun F hF => ?_⟩
    obtain ⟨a, b, e⟩ := List.append_of_mem hF
    rw [e] at h3
    simp only [List.flatMap_append, List.flatMap_cons, List.length_append] at h3
    omega

theorem plans_true (h z : Int) (ls : List Int) (items : List It) (leaf : Int) : oublaw11_EvictPlans.f 50000000 h z ls items leaf = some true := by
  unfold oublaw11_EvictPlans.f
  rw [show oublaw11_first.f = some true from rfl, Option.bind_some, if_pos rfl]
  by_cases h1 : (ls.length : Int) > 60
  · rw [if_pos h1]; rfl
  rw [if_neg h1]
  by_cases h2 : (items.length : Int) > 60
  · rw [decide_eq_true h2]; rfl
  rw [decide_eq_false h2]
  obtain ⟨k, hk⟩ : ∃ k, 50000000 = k + 1 := ⟨49999999, rfl⟩
  rw [hk, oublaw11_EvictPlans.j0, if_neg (by decide)]
  have hcp : oubref_CopyInts.f ls = some ls := by
    unfold oubref_CopyInts.f
    rw [Option.bind_some, if_pos (by simp; omega), List.nil_append]
  obtain ⟨n1, n2, n3⟩ := plan_lens h z ls items
  rw [hcp, Option.bind_some, Option.bind_some, if_pos (by simp; omega), Option.bind_some, List.nil_append, show evict_Plan.f h z ls items = some (planP h z ls items) from if_pos ⟨by omega, by omega⟩, Option.bind_some, items_any items (by omega) k (by omega), Option.bind_some, refPlan_any h z ls items (by omega) (by omega) k (by omega), Option.bind_some, show ((0 : Int)) = ((0 : Nat) : Int) from rfl]
  refine plans_l0 h ls items leaf _ _ _ _ (by omega) 40000000 (some true) (fun k' hk' => ?_) items.length k 0 (by omega) (by omega)
  obtain ⟨k', rfl⟩ : ∃ q, k' = q + 1 := ⟨k' - 1, by omega⟩
  obtain ⟨r, r1, r2⟩ := B.deepest_same h leaf ls (by omega) k' (by omega)
  rw [oublaw11_EvictPlans.l0, if_neg (by omega), show oublaw11_first.f = some true from rfl, Option.bind_some, if_pos rfl, fills_any _ (by omega) _ (by omega), Option.bind_some, same_any _ (by rw [List.length_map]; omega) (fun F hF => by
    obtain ⟨G, hG, rfl⟩ := List.mem_map.1 hF
    have := n3 G hG
    show G.f1.length ≤ 1000
    omega) _ (by omega), Option.bind_some, if_pos rfl, B.ints_same _ (by omega) _ (by omega), Option.bind_some, if_pos rfl, r1, Option.bind_some, r2, Option.bind_some, if_pos rfl, B.ints_same _ (by omega) _ (by omega), Option.bind_some]
end Go.Proofs.YtfliapankgdeeaaGreat.A

namespace Go.Proofs.YtfliapankgdeeaaGreat.evictPlans
open Go.ChangeShapes Go.WideShapes Go.ChangeAt Go.RowKit
set_option linter.unusedVariables false
theorem own : ownKnob Tryz.prog.godebug = none := by kernel_rfl
theorem laidOut : laidOutB Tryz.prog = true := by kernel_rfl
set_option maxRecDepth 100000 in
theorem lifted (os : Os) (started : os.Started) (H : Type) (enc : TypeId × Value → H) :
    ReturnsInHanded {} Tryz.checked os 3 .any (Rows.evictPlansSpec.pre6 enc Tryz.prog Tryz.f3 Rows.evictPlansRow.domain false) (Rows.evictPlansSpec.post enc Tryz.prog Tryz.f3 false true false false) := by
  refine returnsInHanded_of_change_sized (C := Tryz.checked) own started (by kernel_rfl) Tryz.func3
    (ChangeSpec.witness6 (enc := enc) (C := Tryz.checked) false ⟨#[], #[.int .i64 0, .int .i64 0, .slice none 0 0, .slice none 0 0, .int .i64 0], []⟩ 8 (by kernel_rfl) (by kernel_rfl) (by kernel_rfl) (by kernel_rfl)) ?_
  intro W base args ds gs before hval0 hW hcnd hsz0 _
  have hval : ∀ (j : Nat) t v, Tryz.f3.params[j]? = some t → args[j]? = some v → Value.okWide Tryz.prog W .any base t v := hval0
  have hW' := hW
  obtain ⟨p, q, hA0, hV, rfl, hfz, hnd⟩ := hW
  have hA : DataW.TrodAll enc Tryz.prog W 0 (fun _ => true) true Tryz.f3.params.toList args.toList ds p := hA0
  rw [Tryz.params3] at hA hval
  obtain ⟨v0, vs0, d0, ds0, p0, q0, hargs, rfl, rfl, h0, r0⟩ := trodAll_cons hA
  obtain ⟨v1, vs1, d1, ds1, p1, q1, rfl, rfl, rfl, h1, r1⟩ := trodAll_cons r0
  obtain ⟨v2, vs2, d2, ds2, p2, q2, rfl, rfl, rfl, h2, r2⟩ := trodAll_cons r1
  obtain ⟨v3, vs3, d3, ds3, p3, q3, rfl, rfl, rfl, h3, r3⟩ := trodAll_cons r2
  obtain ⟨v4, vs4, d4, ds4, p4, q4, rfl, rfl, rfl, h4, r4⟩ := trodAll_cons r3
  obtain ⟨rfl, rfl, rfl⟩ := trodAll_nil r4
  obtain rfl : args = #[v0, v1, v2, v3, v4] := by cases args; simp_all
  obtain ⟨rfl, rfl⟩ := trodVars_none hV
  obtain ⟨n0, rfl⟩ := okWide_int Tryz.underlying3 (hval 0 3 v0 rfl rfl)
  obtain ⟨n1, rfl⟩ := okWide_int Tryz.underlying3 (hval 1 3 v1 rfl rfl)
  obtain ⟨a2, len2, cap2, rfl⟩ := okWide_slice Tryz.underlying22 (hval 2 22 v2 rfl rfl)
  obtain ⟨a3, len3, cap3, rfl⟩ := okWide_slice Tryz.underlying23 (hval 3 23 v3 rfl rfl)
  obtain ⟨n4, rfl⟩ := okWide_int Tryz.underlying3 (hval 4 3 v4 rfl rfl)
  have k0 := h0
  have k1 := h1
  have k2 := h2
  have k3 := h3
  have k4 := h4
  have lt0 : ∀ x ∈ p0, x.block < W.heap.size := by obtain ⟨m, hm⟩ := k0; exact DataW.trod_lt m _ _ _ hm
  have lt1 : ∀ x ∈ p1, x.block < W.heap.size := by obtain ⟨m, hm⟩ := k1; exact DataW.trod_lt m _ _ _ hm
  have lt2 : ∀ x ∈ p2, x.block < W.heap.size := by obtain ⟨m, hm⟩ := k2; exact DataW.trod_lt m _ _ _ hm
  have lt3 : ∀ x ∈ p3, x.block < W.heap.size := by obtain ⟨m, hm⟩ := k3; exact DataW.trod_lt m _ _ _ hm
  have lt4 : ∀ x ∈ p4, x.block < W.heap.size := by obtain ⟨m, hm⟩ := k4; exact DataW.trod_lt m _ _ _ hm
  obtain ⟨l2, e2, w2, c2⟩ : ∃ l : List Int, len2 = l.length ∧ l.length ≤ cap2 ∧ Go.Proofs.YtfliapankgdeeaaGreatW.PrintWords.Kd.C (Go.Proofs.YtfliapankgdeeaaGreatW.PrintWords.Kd.int .i64) W a2 l.length l := by
    obtain ⟨fuel, hf⟩ := h2
    obtain ⟨A, l, c, e, h1, h3⟩ := A.open_ints_at hf
    simp [Value.cells] at e
    obtain ⟨rfl, rfl, rfl⟩ := e
    exact ⟨l, rfl, h1, h3⟩
  obtain ⟨l3, e3, w3, c3⟩ : ∃ l : List A.It, len3 = l.length ∧ l.length ≤ cap3 ∧ Go.Proofs.YtfliapankgdeeaaGreatW.PrintWords.Kd.C G.k35 W a3 l.length l := by
    obtain ⟨fuel, hf⟩ := h3
    obtain ⟨A, l, c, e, h1, _, h3⟩ := A.open_items_at hf
    simp [Value.cells] at e
    obtain ⟨rfl, rfl, rfl⟩ := e
    exact ⟨l, rfl, h1, h3⟩
  subst e2 e3
  clear hA0 hval0 hsz0
  have main := P.oublaw11_EvictPlans.calls 50000000 n0 n1 a2 cap2 l2 a3 cap3 l3 n4 true W c2 w2 c3 w3 ⟨rfl⟩ (A.plans_true n0 n1 l2 l3 n4)
  refine main.mono fun e W' ⟨he, bel⟩ => ?_
  subst he
  exact ⟨_, rfl, _, _, _, [], _, [], hW', trodAll_mk1 (shut_bool Tryz.underlying4 _), (trodAll_cons_mk (Below.trod laidOut (by kernel_rfl) (of_decide_eq_true (by kernel_rfl)) k0 bel lt0) (trodAll_cons_mk (Below.trod laidOut (by kernel_rfl) (of_decide_eq_true (by kernel_rfl)) k1 bel lt1) (trodAll_cons_mk (Below.trod laidOut (by kernel_rfl) (of_decide_eq_true (by kernel_rfl)) k2 bel lt2) (trodAll_cons_mk (Below.trod laidOut (by kernel_rfl) (of_decide_eq_true (by kernel_rfl)) k3 bel lt3) (trodAll_cons_mk (Below.trod laidOut (by kernel_rfl) (of_decide_eq_true (by kernel_rfl)) k4 bel lt4) trodAll_mk0))))), rfl, bel.frame _, fun h => by cases h⟩
theorem over : Rows.evictPlansRow.holds Tryz.pinned (OpenSpec.ofChange Rows.evictPlansSpec) :=
  OpenClaim.holds_of_wide 3 Tryz.f3 rfl rfl rfl rfl rfl rfl rfl ⟨rfl, rfl, rfl, rfl, rfl⟩ rfl rfl rfl rfl rfl (by kernel_rfl) Tryz.func3 (by kernel_rfl)
    (of_decide_eq_true (by kernel_rfl)) (by unfold Func.isWrapper; first | (rw [if_pos (by decide +kernel)]; kernel_rfl) | (rw [if_neg (by decide +kernel)]; exact ⟨rfl, rfl⟩))
    (fun os started H enc _ => lifted os started H enc)
theorem proved : Rows.EvictPlansSaid := over
#print axioms proved
end Go.Proofs.YtfliapankgdeeaaGreat.evictPlans
namespace Go.Proofs.YtfliapankgdeeaaGreat
/-- The row, under a short name, for the claim. -/
theorem evictPlans_holds : Rows.EvictPlansSaid := evictPlans.proved
end Go.Proofs.YtfliapankgdeeaaGreat
