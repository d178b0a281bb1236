/- A row's arguments of whole numbers and of items, opened. EvictRoom: the plain law. EvictRoom holds of every input: with room for all each item lies at the deepest level that its path shares with one that is laid. No conditions. -/
import Derived.Test.YtfliapankgdeeaaEvQ
import Derived.WalkKit
import Derived.ProofKit
import Derived.OpenShut
import Derived.ShutString
import Derived.ChangeOld
import Derived.Below
import Derived.SizedLaws
import Derived.Deep.Slices
import Derived.ChangeSame
import Derived.Test.YtfliapankgdeeaaVx1
import Derived.Test.YtfliapankgdeeaaRows
import Derived.Test.YtfliapankgdeeaaWSized
namespace Go.Proofs.Ytfliapankgdeeaa.A
open Go.RowKit Go.Maps Go.Sort Go.Shelf Go.Proofs.YtfliapankgdeeaaW.PrintWords Go.Proofs.Ytfliapankgdeeaa.G Go.ChangeShapes Go.WideShapes Go.ChangeAt
set_option linter.unusedVariables false
section
variable {H : Type} {enc : TypeId × Value → H} {W : World}
set_option maxRecDepth 100000 in
theorem open_int_at {n : Nat} {cs : List Value} {x : DataW H × List MemPlace} (h : DataW.trod enc Try.prog W 0 (fun _ => true) true n 3 cs = some x) : ∃ i, cs = [.int .i64 i] ∧ (Lit.int .i64 i).wf = true := by
  cases n with
  | zero => simp [DataW.trod] at h
  | succ n =>
    unfold DataW.trod at h
    rw [Try.underlying3] at h
    match cs, h with
    | [.int k i], h =>
      by_cases hk : k = .i64 ∧ (Lit.int .i64 i).wf = true
      · obtain ⟨rfl, hw⟩ := hk
        exact ⟨i, rfl, hw⟩
      · simp [hk] at h
theorem open_ints_at {n : Nat} {cs : List Value} {x : DataW H × List MemPlace} (h : DataW.trod enc Try.prog W 0 (fun _ => true) true n 22 cs = some x) : ∃ A xs c, cs = [.slice A (xs : List Int).length c] ∧ xs.length ≤ c ∧ Kd.C (Kd.int .i64) W A xs.length xs := by
  rcases open_ints Try.underlying22 Try.underlying3 (by kernel_rfl) h with ⟨rfl, _⟩ | ⟨a, len, cap, zs, rfl, _, hl, hm, hz, _, hcell, hwz⟩
  · exact ⟨none, [], 0, rfl, Nat.le_refl _, Kd.C_nil _ _⟩
  · obtain ⟨l, rfl, hr, _, _, hc⟩ := ReadsInt.ofRowC (k := .i64) (w := W) (a := some a) (len := len) (cap := cap) (zs := zs) (.inr ⟨_, rfl, hl, hm, by simpa using hz, hcell, hwz⟩)
    exact ⟨some a, l, cap, rfl, hc, Kd.C_of_reads (d := (0 : Int)) (h1 := fun _ => rfl) hr⟩
theorem open_item_at {n : Nat} {cs : List Value} {x : DataW H × List MemPlace} (h : DataW.trod enc Try.prog W 0 (fun _ => true) true n 39 cs = some x) : ∃ b : It, k39.K W b cs := by
  obtain ⟨y0, y1, m, _, hl, h0, h1⟩ := trod_struct2 Try.underlying39 h
  have c1 : Try.prog.cellsOf 3 = 1 := by kernel_rfl
  have c3 : Try.prog.cellsOf 39 = 2 := by kernel_rfl
  simp only [c1, c3] at hl h0 h1
  match cs, hl with
  | [v0, v1], _ =>
    obtain ⟨i, e0, _⟩ := open_int_at h0
    obtain ⟨j, e1, _⟩ := open_int_at h1
    simp at e0 e1
    subst e0 e1
    exact ⟨⟨i, j⟩, k39_mk W ⟨i, j⟩⟩
theorem list_of {α : Type} {Q : Nat → α → Prop} : ∀ (n : Nat), (∀ i, i < n → ∃ a, Q i a) → ∃ l : List α, l.length = n ∧ ∀ (i : Nat) a, l[i]? = some a → Q i a
  | 0, _ => ⟨[], rfl, fun i a h => by simp at h⟩
  | n + 1, h => by
    obtain ⟨l, hl, hq⟩ := list_of n (fun i hi => h i (by omega))
    obtain ⟨a, ha⟩ := h n (by omega)
    refine ⟨l ++ [a], by simp [hl], fun i b hb => ?_⟩
    by_cases hi : i < l.length
    · rw [List.getElem?_append_left hi] at hb
      exact hq i b hb
    · have hi2 : i = n := by
        have := (List.getElem?_eq_some_iff.1 hb).1
        simp at this
        omega
      subst hi2
      rw [List.getElem?_append_right (by omega), hl] at hb
      simp at hb
      exact hb ▸ ha
set_option maxRecDepth 100000 in
theorem open_items_at {n : Nat} {cs : List Value} {x : DataW H × List MemPlace} (h : DataW.trod enc Try.prog W 0 (fun _ => true) true n 23 cs = some x) :
    ∃ A l c, cs = [.slice A (l : List It).length c] ∧ l.length ≤ c ∧ l.length ≤ 9223372036854775807 ∧ Kd.C k39 W A l.length l := by
  rcases Go.Deep.open_slice Try.underlying23 h with ⟨rfl, _⟩ | ⟨a, len, cap, m, q, D, Pl, rfl, _, hl, hm, hmm, _, hx⟩
  · exact ⟨none, [], 0, rfl, Nat.le_refl _, by simp, Kd.C_nil _ _⟩
  · have hlm : len ≤ m := by rw [hmm]; split <;> omega
    have c3 : Try.prog.cellsOf 39 = 2 := by kernel_rfl
    obtain ⟨l, rfl, hq⟩ := list_of (Q := fun i (b : It) => ∃ cs', cs'.length = 2 ∧ k39.K W b cs' ∧ (∀ j u, cs'[j]? = some u → W.cell? (a.add (i * 2 + j)) = some u)) len (fun i hi => by
      obtain ⟨cs', h1, h2⟩ := hx i (by omega)
      rw [c3] at h1
      obtain ⟨_, hlen, hcell⟩ := World.cells?_some h1
      obtain ⟨b, hb⟩ := open_item_at h2
      refine ⟨b, cs', hlen, hb, fun j u hu => ?_⟩
      have hj : j < 2 := by have := (List.getElem?_eq_some_iff.1 hu).1; omega
      have := hcell j hj
      rw [hu] at this
      rw [← this]
      congr 1
      unfold Addr.add
      split <;> split <;> split <;> simp_all <;> omega)
    have hbig : l.length ≤ 9223372036854775807 := by unfold maxLen at hm; omega
    refine ⟨some a, l, cap, rfl, hl, hbig, ⟨rfl, hbig, fun _ => ⟨a, rfl, fun j p hj => ?_⟩⟩⟩
    obtain ⟨cs', e1, e2, e3⟩ := hq j p hj
    exact ⟨cs', e1, e2, e3⟩
end
end Go.Proofs.Ytfliapankgdeeaa.A

namespace Go.Proofs.Ytfliapankgdeeaa.A
open Go.RowKit Go.Proofs.YtfliapankgdeeaaW.PrintWords Go.Proofs.YtfliapankgdeeaaW.PrintLast Go.Proofs.YtfliapankgdeeaaW.PrintMore Go.Proofs.Ytfliapankgdeeaa.G Go.Proofs.Ytfliapankgdeeaa.V
set_option linter.unusedVariables false
set_option linter.unusedSimpArgs false

theorem facts_len {h z : Int} {ls : List Int} {items : List It} {f : List Fl} {left : List Int} (FA : Facts h z ls items f left) : f.length ≤ 127 ∧ left.length ≤ items.length ∧ (f.flatMap (·.f1)).length + left.length = items.length := by
  have h1 := congrArg List.length FA.keys
  rw [List.length_map] at h1
  have h2 := B.union_length h ls
  have h3 := FA.perm.length_eq
  rw [List.length_append, List.length_map] at h3
  exact ⟨by omega, by omega, h3⟩

theorem lev_any (b : Int) (h0 : 0 ≤ b) (h1 : b < 127) (k : Nat) (hk : 20 ≤ k) : tree_Level.f k b = some (lvI b : Int) := by
  have := lev_at ⟨b.toNat, by omega⟩
  have e : ((b.toNat : Nat) : Int) = b := by omega
  simp only [e] at this
  exact at_rounds (tree_Level.mono b) hk this

def shB (m a b : Nat) : Bool := match tree_Shared.f 20 m a b with
  | some s => decide (0 ≤ s) && ((B.pathOf m a).any fun c => decide (c ∈ B.pathOf m b) && decide ((lvI c : Int) = s)) && ((B.pathOf m a).all fun c => !decide (c ∈ B.pathOf m b) || decide ((lvI c : Int) ≤ s))
  | none => false
theorem sh_all : ((List.range 7).all fun m => (List.range (2 ^ m)).all fun a => (List.range (2 ^ m)).all fun b => shB m a b) = true := by decide +kernel
/-- Two leaves' shared level: that of the deepest bucket on both paths. -/
theorem shared_any {h a b : Int} (ha : B.okb h a = true) (hb : B.okb h b = true) : ∃ s : Int, (∀ k, 20 ≤ k → tree_Shared.f k h a b = some s) ∧ 0 ≤ s ∧ (∃ c, c ∈ B.path h a ∧ c ∈ B.path h b ∧ (lvI c : Int) = s) ∧ ∀ c, c ∈ B.path h a → c ∈ B.path h b → (lvI c : Int) ≤ s := by
  obtain ⟨m, x, rfl, rfl, hm, hx⟩ := B.ok_of ha
  obtain ⟨m', y, e, rfl, hm', hy⟩ := B.ok_of hb
  obtain rfl : m = m' := by omega
  have h1 := List.all_eq_true.1 (List.all_eq_true.1 (List.all_eq_true.1 sh_all m (List.mem_range.2 hm)) x (List.mem_range.2 hx)) y (List.mem_range.2 hy)
  unfold shB at h1
  rw [B.path_nat hm hx, B.path_nat hm hy]
  cases hs : tree_Shared.f 20 m x y with
  | none => rw [hs] at h1; cases h1
  | some s =>
    rw [hs] at h1
    simp only [Bool.and_eq_true, decide_eq_true_eq, List.any_eq_true, List.all_eq_true, Bool.or_eq_true, Bool.not_eq_true', decide_eq_false_iff_not] at h1
    obtain ⟨⟨h2, c, hc, hc2, hc3⟩, h4⟩ := h1
    exact ⟨s, fun k hk => at_rounds (tree_Shared.mono m x y) hk hs, h2, ⟨c, hc, hc2, hc3⟩, fun c hc hc' => (h4 c hc).resolve_left (fun q => q hc')⟩

theorem deepest_loop (h x : Int) (ls : List Int) (hl : ls.length ≤ 100) (hx : B.okb h x = true) (hls : ls.all (B.okb h) = true) : ∀ (d k i : Nat) (cur : Int), i + d = ls.length → d + 40 < k → ∃ r, evict_Deepest.l0 k h x cur ls (ls.length : Int) (i : Int) = some r ∧ cur ≤ r ∧ (∀ n ∈ ls.drop i, ∀ c, c ∈ B.path h n → c ∈ B.path h x → (lvI c : Int) ≤ r) ∧ (r = cur ∨ ∃ n ∈ ls.drop i, ∃ c, c ∈ B.path h n ∧ c ∈ B.path h x ∧ (lvI c : Int) = r) ∧ (0 < d → 0 ≤ r)
  | d, 0, i, cur, _, hk => by omega
  | 0, k + 1, i, cur, hi, hk => by
    obtain rfl : i = ls.length := by omega
    refine ⟨cur, by rw [evict_Deepest.l0, if_neg (by omega)], Int.le_refl _, ?_, .inl rfl, fun h => absurd h (by omega)⟩
    rw [List.drop_length]
    intro n hn; cases hn
  | d + 1, k + 1, i, cur, hi, hk => by
    have hlt : i < ls.length := by omega
    obtain ⟨s, h1, h2, ⟨c, hc1, hc2, hc3⟩, h4⟩ := shared_any (List.all_eq_true.1 hls _ (List.getElem_mem hlt)) hx
    obtain ⟨r, e1, e2, e3, e4, _⟩ := deepest_loop h x ls hl hx hls d k (i + 1) (mx cur s) (by omega) (by omega)
    have hm1 : cur ≤ mx cur s ∧ s ≤ mx cur s ∧ (mx cur s = cur ∨ mx cur s = s) := by unfold mx; split <;> omega
    refine ⟨r, ?_, by omega, ?_, ?_, fun _ => by omega⟩
    · rw [evict_Deepest.l0, if_pos (by omega), if_pos (by omega), if_pos (by omega), rdN hlt, h1 k (by omega), Option.bind_some, if_neg (by omega), wrap_at i (by omega)]
      exact e1
    · rw [List.drop_eq_getElem_cons hlt]
      intro n hn c' hc' hc''
      rcases List.mem_cons.1 hn with rfl | hn
      · have := h4 c' hc' hc''; omega
      · exact e3 n hn c' hc' hc''
    · rw [List.drop_eq_getElem_cons hlt]
      rcases e4 with e4 | ⟨n, hn, c', q⟩
      · rcases hm1.2.2 with q | q
        · exact .inl (by omega)
        · exact .inr ⟨_, List.mem_cons_self, c, hc1, hc2, by omega⟩
      · exact .inr ⟨n, List.mem_cons_of_mem _ hn, c', q⟩
theorem deepest_any (h x : Int) (ls : List Int) (hl : ls.length ≤ 100) (h0 : 0 < ls.length) (hx : B.okb h x = true) (hls : ls.all (B.okb h) = true) (k : Nat) (hk : 200 ≤ k) : ∃ r, evict_Deepest.f k h ls x = some r ∧ (∀ n ∈ ls, ∀ c, c ∈ B.path h n → c ∈ B.path h x → (lvI c : Int) ≤ r) ∧ (∃ n ∈ ls, ∃ c, c ∈ B.path h n ∧ c ∈ B.path h x ∧ (lvI c : Int) = r) := by
  obtain ⟨r, e1, e2, e3, e4, e5⟩ := deepest_loop h x ls hl hx hls ls.length k 0 (-1) (by omega) (by omega)
  have := e5 h0
  refine ⟨r, e1, by simpa using e3, ?_⟩
  rcases e4 with e4 | e4
  · omega
  · simpa using e4

theorem mem_union {h b : Int} {ls : List Int} (hls : ls.all (B.okb h) = true) : b ∈ B.unionOf h ls ↔ ∃ n ∈ ls, b ∈ B.path h n := by
  unfold B.unionOf
  rw [if_pos hls, List.mem_filter, List.any_eq_true]
  constructor
  · rintro ⟨_, n, hn, hb⟩
    exact ⟨n, hn, of_decide_eq_true hb⟩
  · rintro ⟨n, hn, hb⟩
    refine ⟨?_, n, hn, decide_eq_true hb⟩
    have := B.path_in hb
    exact List.mem_map.2 ⟨b.toNat, List.mem_range.2 (by omega), by simp; omega⟩

section
variable {h : Int} {ls : List Int} {items : List It} {f : List Fl} {left : List Int}
theorem mem_flat {F : Fl} {n : Int} (hF : F ∈ f) (hn : n ∈ F.f1) : n ∈ f.flatMap (·.f1) := List.mem_flatMap.2 ⟨F, hF, hn⟩
theorem len_flat {F : Fl} (hF : F ∈ f) : F.f1.length ≤ (f.flatMap (·.f1)).length := by
  obtain ⟨a, b, rfl⟩ := List.append_of_mem hF
  simp only [List.flatMap_append, List.flatMap_cons, List.length_append]
  omega
theorem len_flat2 {F G : Fl} (hF : F ∈ f) (hG : G ∈ f) (hne : F ≠ G) : F.f1.length + G.f1.length ≤ (f.flatMap (·.f1)).length := by
  obtain ⟨a, b, rfl⟩ := List.append_of_mem hF
  rw [List.mem_append, List.mem_cons] at hG
  simp only [List.flatMap_append, List.flatMap_cons, List.length_append]
  rcases hG with hG | hG | hG
  · have := len_flat hG; omega
  · exact absurd hG.symm hne
  · have := len_flat hG; omega

/-- With room for all nobody is left. -/
theorem room_left (FA : Facts h 4 ls items f left) (h4 : items.length ≤ 4) (h0 : 0 < ls.length) (ok : okPlan h 4 ls items = true) : left = [] := by
  cases left with
  | nil => rfl
  | cons n r =>
    have hlen := FA.perm.length_eq
    rw [List.length_append, List.length_map, List.length_cons] at hlen
    have hn : n ∈ items.map (·.f0) := FA.perm.mem_iff.1 (List.mem_append_right _ List.mem_cons_self)
    obtain ⟨x, hx, rfl⟩ := List.mem_map.1 hn
    obtain ⟨hls, hit⟩ := ok_leaves ok
    obtain ⟨a, l', rfl⟩ : ∃ a l', ls = a :: l' := by cases ls with | nil => simp at h0 | cons a l' => exact ⟨a, l', rfl⟩
    obtain ⟨s, _, _, ⟨c, hc1, hc2, _⟩, _⟩ := shared_any (List.all_eq_true.1 hls a List.mem_cons_self) (hit x hx)
    have hu : c ∈ B.unionOf h (a :: l') := (mem_union hls).2 ⟨a, List.mem_cons_self, hc1⟩
    rw [← FA.keys] at hu
    obtain ⟨F, hF, rfl⟩ := List.mem_map.1 hu
    have hfull := FA.full x hx List.mem_cons_self F hF (decide_eq_true hc2)
    have := len_flat hF
    omega

theorem room_at (FA : Facts h 4 ls items f left) (h4 : items.length ≤ 4) (h0 : 0 < ls.length) (hl : ls.length ≤ 100) (ok : okPlan h 4 ls items = true) {x : It} (hx : x ∈ items) {G : Fl} (hG : G ∈ f) (hxG : x.f0 ∈ G.f1) (k : Nat) (hk : 200 ≤ k) : evict_Deepest.f k h ls x.f1 = some (lvI G.f0 : Int) := by
  obtain ⟨hls, hit⟩ := ok_leaves ok
  obtain ⟨r, e1, e2, n, hn, c, hc1, hc2, hc3⟩ := deepest_any h x.f1 ls hl h0 (hit x hx) hls k hk
  rw [e1]
  congr 1
  have hon := FA.on G hG x hx hxG
  have hGu : G.f0 ∈ B.unionOf h ls := by rw [← FA.keys]; exact List.mem_map.2 ⟨G, hG, rfl⟩
  obtain ⟨n', hn', hb'⟩ := (mem_union hls).1 hGu
  have h1 := e2 n' hn' G.f0 hb' (of_decide_eq_true hon)
  have hcu : c ∈ B.unionOf h ls := (mem_union hls).2 ⟨n, hn, hc1⟩
  rw [← FA.keys] at hcu
  obtain ⟨F, hF, rfl⟩ := List.mem_map.1 hcu
  by_cases q : lvI G.f0 < lvI F.f0
  · exfalso
    have hd := FA.deep x hx F hF G hG hxG q (decide_eq_true hc2)
    have hne : F ≠ G := fun e => by rw [e] at q; omega
    have := len_flat2 hF hG hne
    have hg : 0 < G.f1.length := List.length_pos_iff.2 (fun e => by rw [e] at hxG; cases hxG)
    have hlen := FA.perm.length_eq
    rw [List.length_append, List.length_map] at hlen
    omega
  · omega

theorem room_l1 (FA : Facts h 4 ls items f left) (hnd : (items.map (·.f0)).Nodup) (h4 : items.length ≤ 4) (h0 : 0 < ls.length) (hl : ls.length ≤ 100) (ok : okPlan h 4 ls items = true) (hleft : left = []) (hf : f.length ≤ 127) (i : Nat) (hi : i < items.length) (M : Nat) (hM : ∀ k, M ≤ k → oublaw11_EvictRoom.l0 k h ls items f left ((i + 1 : Nat) : Int) = some true) : ∀ (d k q : Nat) (at_ : Int), q + d = f.length → d + M + 400 < k → ((∃ G ∈ f.take q, items[i].f0 ∈ G.f1) → ∃ G ∈ f, items[i].f0 ∈ G.f1 ∧ at_ = (lvI G.f0 : Int)) → oublaw11_EvictRoom.l1 k h ls items f left (i : Int) at_ (q : Int) = some true
  | d, 0, q, at_, _, hk, _ => by omega
  | 0, k + 1, q, at_, hq, hk, hat => by
    obtain rfl : q = f.length := by omega
    have hx : items[i] ∈ items := List.getElem_mem hi
    have hin : items[i].f0 ∈ f.flatMap (·.f1) := by
      have := FA.perm.mem_iff.2 (List.mem_map.2 ⟨_, hx, rfl⟩)
      rwa [hleft, List.append_nil] at this
    obtain ⟨G0, hG0, hxG0⟩ := List.mem_flatMap.1 hin
    obtain ⟨G, hG, hxG, rfl⟩ := hat ⟨G0, by rw [List.take_length]; exact hG0, hxG0⟩
    rw [oublaw11_EvictRoom.l1, if_neg (by omega), if_neg (by omega), if_pos (by omega), if_pos (by omega), rdI hi, room_at FA h4 h0 hl ok hx hG hxG k (by omega), Option.bind_some, if_pos rfl, wrap_at i (by omega), hM k (by omega)]
  | d + 1, k + 1, q, at_, hq, hk, hat => by
    have hlt : q < f.length := by omega
    have hFl := FA.le f[q] (List.getElem_mem hlt)
    have hb : 0 ≤ f[q].f0 ∧ f[q].f0 < 127 := union_in (l := ls) (h := h) (by rw [← FA.keys]; exact List.mem_map.2 ⟨_, List.getElem_mem hlt, rfl⟩)
    rw [oublaw11_EvictRoom.l1, if_pos (by omega), if_pos (by omega), if_pos (by omega), if_pos (by omega), rdF hlt, rdI hi, has_any _ _ (by omega) k (by omega), Option.bind_some, wrap_at q (by omega)]
    by_cases e : items[i].f0 ∈ f[q].f1
    · rw [if_pos (by simpa using e), lev_any _ hb.1 hb.2 k (by omega), Option.bind_some]
      exact room_l1 FA hnd h4 h0 hl ok hleft hf i hi M hM d k (q + 1) _ (by omega) (by omega) (fun _ => ⟨_, List.getElem_mem hlt, e, rfl⟩)
    · rw [if_neg (by simpa using e)]
      refine room_l1 FA hnd h4 h0 hl ok hleft hf i hi M hM d k (q + 1) _ (by omega) (by omega) (fun hG => hat ?_)
      obtain ⟨G, hG, hxG⟩ := hG
      rw [List.take_succ_eq_append_getElem hlt, List.mem_append, List.mem_singleton] at hG
      rcases hG with hG | rfl
      · exact ⟨G, hG, hxG⟩
      · exact absurd hxG e
theorem room_l0 (FA : Facts h 4 ls items f left) (hnd : (items.map (·.f0)).Nodup) (h4 : items.length ≤ 4) (h0 : 0 < ls.length) (hl : ls.length ≤ 100) (ok : okPlan h 4 ls items = true) (hleft : left = []) (hf : f.length ≤ 127) (c : Nat) (hc : 1000 ≤ c) : ∀ (d k i : Nat), i + d = items.length → d * c + 1 < k → oublaw11_EvictRoom.l0 k h ls items f left (i : Int) = some true := by
  intro d
  induction d with
  | zero =>
    intro k i hi hk
    obtain ⟨k, rfl⟩ : ∃ q, k = q + 1 := ⟨k - 1, by omega⟩
    rw [oublaw11_EvictRoom.l0, if_neg (by omega), show oublaw11_first.f = some true from rfl, Option.bind_some, if_pos rfl, hleft]
    rfl
  | succ d ih =>
    intro k i hi hk
    obtain ⟨k, rfl⟩ : ∃ q, k = q + 1 := ⟨k - 1, by omega⟩
    rw [oublaw11_EvictRoom.l0, if_pos (by omega)]
    rw [Nat.succ_mul] at hk
    obtain ⟨e, he⟩ : ∃ e, e = d * c := ⟨_, rfl⟩
    rw [← he] at hk ih
    obtain ⟨M, hM⟩ : ∃ M, M = e + 2 := ⟨_, rfl⟩
    have hrest : ∀ k', M ≤ k' → oublaw11_EvictRoom.l0 k' h ls items f left ((i + 1 : Nat) : Int) = some true := fun k' hk' => ih k' (i + 1) (by omega) (by omega)
    have hk3 : f.length + M + 400 < k := by omega
    have := room_l1 FA hnd h4 h0 hl ok hleft hf i (by omega) M hrest f.length k 0 (-1) (by omega) hk3 (fun ⟨G, hG, _⟩ => by simp at hG)
    simpa using this
end

theorem room_true (h : Int) (ls : List Int) (items : List It) : oublaw11_EvictRoom.f 40000 h ls items = some true := by
  unfold oublaw11_EvictRoom.f
  rw [show oublaw11_first.f = some true from rfl, Option.bind_some, if_pos rfl]
  by_cases h1 : (ls.length : Int) > 60
  · rw [if_pos h1]; rfl
  rw [if_neg h1]
  by_cases h0 : (ls.length : Int) < 1
  · rw [if_pos h0]; rfl
  rw [if_neg h0]
  by_cases h2 : (items.length : Int) > 4
  · rw [if_pos h2]; rfl
  rw [if_neg h2, items_any items (by omega) 40000 (by omega), Option.bind_some, mayPlan_any h 4 ls items (by omega) (by omega) 40000 (by omega), Option.bind_some]
  cases ok : okPlan h 4 ls items with
  | false => rfl
  | true =>
    have FA := facts ok
    obtain ⟨l1, l2, l3⟩ := facts_len FA
    obtain ⟨k, hk⟩ : ∃ k, 40000 = k + 1 := ⟨39999, rfl⟩
    rw [hk, oublaw11_EvictRoom.j0, if_neg (show ¬ (!true) = true by decide), show evict_Plan.f h 4 ls items = some (planP h 4 ls items) from if_pos ⟨by omega, by omega⟩, Option.bind_some, show ((0 : Int)) = ((0 : Nat) : Int) from rfl]
    have hleft := room_left FA (by omega) (by omega) ok
    exact room_l0 FA (ok_nodup ok) (by omega) (by omega) (by omega) ok hleft l1 1000 (Nat.le_refl _) items.length k 0 (by omega) (by omega)
end Go.Proofs.Ytfliapankgdeeaa.A

namespace Go.Proofs.Ytfliapankgdeeaa.evictRoom
open Go.ChangeShapes Go.WideShapes Go.ChangeAt Go.RowKit
set_option linter.unusedVariables false
theorem own : ownKnob Try.prog.godebug = none := by kernel_rfl
theorem laidOut : laidOutB Try.prog = true := by kernel_rfl
set_option maxRecDepth 100000 in
theorem lifted (os : Os) (started : os.Started) (H : Type) (enc : TypeId × Value → H) :
    ReturnsInHanded {} Try.checked os 6 .any (Rows.evictRoomSpec.pre6 enc Try.prog Try.f6 Rows.evictRoomRow.domain false) (Rows.evictRoomSpec.post enc Try.prog Try.f6 false true false false) := by
  refine returnsInHanded_of_change_sized (C := Try.checked) own started (by kernel_rfl) Try.func6
    (ChangeSpec.witness6 (enc := enc) (C := Try.checked) false ⟨#[], #[.int .i64 0, .slice none 0 0, .slice none 0 0], []⟩ 8 (by kernel_rfl) (by kernel_rfl) (by kernel_rfl) (by kernel_rfl)) ?_
  intro W base args ds gs before hval0 hW hcnd hsz0 _
  have hval : ∀ (j : Nat) t v, Try.f6.params[j]? = some t → args[j]? = some v → Value.okWide Try.prog W .any base t v := hval0
  have hW' := hW
  obtain ⟨p, q, hA0, hV, rfl, hfz, hnd⟩ := hW
  have hA : DataW.TrodAll enc Try.prog W 0 (fun _ => true) true Try.f6.params.toList args.toList ds p := hA0
  rw [Try.params6] at hA hval
  obtain ⟨v0, vs0, d0, ds0, p0, q0, hargs, rfl, rfl, h0, r0⟩ := trodAll_cons hA
  obtain ⟨v1, vs1, d1, ds1, p1, q1, rfl, rfl, rfl, h1, r1⟩ := trodAll_cons r0
  obtain ⟨v2, vs2, d2, ds2, p2, q2, rfl, rfl, rfl, h2, r2⟩ := trodAll_cons r1
  obtain ⟨rfl, rfl, rfl⟩ := trodAll_nil r2
  obtain rfl : args = #[v0, v1, v2] := by cases args; simp_all
  obtain ⟨rfl, rfl⟩ := trodVars_none hV
  obtain ⟨n0, rfl⟩ := okWide_int Try.underlying3 (hval 0 3 v0 rfl rfl)
  obtain ⟨a1, len1, cap1, rfl⟩ := okWide_slice Try.underlying22 (hval 1 22 v1 rfl rfl)
  obtain ⟨a2, len2, cap2, rfl⟩ := okWide_slice Try.underlying23 (hval 2 23 v2 rfl rfl)
  have k0 := h0
  have k1 := h1
  have k2 := h2
  have lt0 : ∀ x ∈ p0, x.block < W.heap.size := by obtain ⟨m, hm⟩ := k0; exact DataW.trod_lt m _ _ _ hm
  have lt1 : ∀ x ∈ p1, x.block < W.heap.size := by obtain ⟨m, hm⟩ := k1; exact DataW.trod_lt m _ _ _ hm
  have lt2 : ∀ x ∈ p2, x.block < W.heap.size := by obtain ⟨m, hm⟩ := k2; exact DataW.trod_lt m _ _ _ hm
  obtain ⟨l1, e1, w1, c1⟩ : ∃ l : List Int, len1 = l.length ∧ l.length ≤ cap1 ∧ Go.Proofs.YtfliapankgdeeaaW.PrintWords.Kd.C (Go.Proofs.YtfliapankgdeeaaW.PrintWords.Kd.int .i64) W a1 l.length l := by
    obtain ⟨fuel, hf⟩ := h1
    obtain ⟨A, l, c, e, h1, h3⟩ := A.open_ints_at hf
    simp [Value.cells] at e
    obtain ⟨rfl, rfl, rfl⟩ := e
    exact ⟨l, rfl, h1, h3⟩
  obtain ⟨l2, e2, w2, c2⟩ : ∃ l : List A.It, len2 = l.length ∧ l.length ≤ cap2 ∧ Go.Proofs.YtfliapankgdeeaaW.PrintWords.Kd.C G.k39 W a2 l.length l := by
    obtain ⟨fuel, hf⟩ := h2
    obtain ⟨A, l, c, e, h1, _, h3⟩ := A.open_items_at hf
    simp [Value.cells] at e
    obtain ⟨rfl, rfl, rfl⟩ := e
    exact ⟨l, rfl, h1, h3⟩
  subst e1 e2
  clear hA0 hval0 hsz0
  have main := V.oublaw11_EvictRoom.calls 40000 n0 a1 cap1 l1 a2 cap2 l2 true W c1 w1 c2 w2 ⟨rfl⟩ (A.room_true n0 l1 l2)
  refine main.mono fun e W' ⟨he, bel⟩ => ?_
  subst he
  exact ⟨_, rfl, _, _, _, [], _, [], hW', trodAll_mk1 (shut_bool Try.underlying4 _), (trodAll_cons_mk (Below.trod laidOut (by kernel_rfl) (of_decide_eq_true (by kernel_rfl)) k0 bel lt0) (trodAll_cons_mk (Below.trod laidOut (by kernel_rfl) (of_decide_eq_true (by kernel_rfl)) k1 bel lt1) (trodAll_cons_mk (Below.trod laidOut (by kernel_rfl) (of_decide_eq_true (by kernel_rfl)) k2 bel lt2) trodAll_mk0))), rfl, bel.frame _, fun h => by cases h⟩
theorem over : Rows.evictRoomRow.holds Try.pinned (OpenSpec.ofChange Rows.evictRoomSpec) :=
  OpenClaim.holds_of_wide 6 Try.f6 rfl rfl rfl rfl rfl rfl rfl ⟨rfl, rfl, rfl, rfl, rfl⟩ rfl rfl rfl rfl rfl (by kernel_rfl) Try.func6 (by kernel_rfl)
    (of_decide_eq_true (by kernel_rfl)) (by unfold Func.isWrapper; first | (rw [if_pos (by decide +kernel)]; kernel_rfl) | (rw [if_neg (by decide +kernel)]; exact ⟨rfl, rfl⟩))
    (fun os started H enc _ => lifted os started H enc)
theorem proved : Rows.EvictRoomSaid := over
#print axioms proved
end Go.Proofs.Ytfliapankgdeeaa.evictRoom
namespace Go.Proofs.Ytfliapankgdeeaa
/-- The row, under a short name, for the claim. -/
theorem evictRoom_holds : Rows.EvictRoomSaid := evictRoom.proved
end Go.Proofs.Ytfliapankgdeeaa
