/- The stash and the document's stash side by side: what each operation leaves of both; plain lemmas on what compares them. -/
import Derived.Test.YtmjbmbhpfckagaaStashT
namespace Go.Proofs.Ytmjbmbhpfckagaa.A
open Go.RowKit Go.Maps Go.Sort Go.Shelf Go.Proofs.YtmjbmbhpfckagaaW.PrintWords Go.Proofs.YtmjbmbhpfckagaaW.PrintLast Go.Proofs.Ytmjbmbhpfckagaa.B
set_option linter.unusedVariables false
set_option linter.unusedSimpArgs false

/-- THE TWO: the stash at g, whose two blocks lie from base on below top, sees P, m; the document's at gx, which lies from top on, sees Q, n; what the latter writes lies below N. -/
def Bo (base top N : Nat) (w : World) (g gx : Nat) (P : List (Int × List Int)) (m : Int) (Q : List (Int × List Int)) (n : Int) : Prop :=
  ∃ bm Rs E Rx v ys, St w g bm Rs E m ∧ vw E = P ∧ base ≤ g ∧ base ≤ bm ∧ g < top ∧ bm < top ∧ (∀ k, Rs k → base ≤ k ∧ k ≠ gx) ∧ (E.length : Int) ≤ m ∧
    XS w gx Rx v ys Q n ∧ (∀ k, v.ownBlock = some k → ¬ Rs k ∧ k < N) ∧ top ≤ gx ∧ gx < N ∧ N ≤ w.heap.size ∧ Up Q ∧ (∀ p ∈ Q, 0 ≤ p.1 ∧ p.1 < 64 ∧ p.2.length = 37) ∧ (Q.length : Int) ≤ n
theorem few_of {Q : List (Int × List Int)} (hu : Up Q) (h : ∀ p ∈ Q, 0 ≤ p.1 ∧ p.1 < 64 ∧ p.2.length = 37) : Q.length ≤ 64 := by
  have := up_length (a := 0) hu (fun p hp => ⟨(h p hp).1, (h p hp).2.1⟩)
  omega
section
variable {w w1 : World} {base top N g gx : Nat} {P Q : List (Int × List Int)} {m n : Int}
theorem Bo.os (h : Bo base top N w g gx P m Q n) : OS base top w g P m := by
  obtain ⟨bm, Rs, E, Rx, v, ys, h1, h2, h3, h4, h5, h6, h7, h8, _⟩ := h
  exact ⟨bm, Rs, E, h1, h2, h3, h4, h5, h6, fun k hk => (h7 k hk).1, h8⟩
theorem Bo.xs (h : Bo base top N w g gx P m Q n) : ∃ Rx v ys, XS w gx Rx v ys Q n := by
  obtain ⟨bm, Rs, E, Rx, v, ys, _, _, _, _, _, _, _, _, h9, _⟩ := h
  exact ⟨Rx, v, ys, h9⟩
theorem Bo.q (h : Bo base top N w g gx P m Q n) : Up Q ∧ Q.length ≤ 64 ∧ (Q.length : Int) ≤ n ∧ base ≤ N ∧ N ≤ w.heap.size ∧ base < top ∧ top ≤ N := by
  obtain ⟨bm, Rs, E, Rx, v, ys, _, _, h3, _, h5, _, _, _, _, _, h11, h12, h13, h14, h15, h16⟩ := h
  exact ⟨h14, few_of h14 h15, h16, by omega, h13, by omega, by omega⟩
theorem Bo.below (h : Bo base top N w g gx P m Q n) (hb : Below w.heap.size w w1) : Bo base top N w1 g gx P m Q n := by
  obtain ⟨bm, Rs, E, Rx, v, ys, h1, h2, h3, h4, h5, h6, h7, h8, h9, h10, h11, h12, h13, h14⟩ := h
  exact ⟨bm, Rs, E, Rx, v, ys, h1.below hb, h2, h3, h4, h5, h6, h7, h8, h9.below hb, h10, h11, h12, Nat.le_trans h13 hb.size, h14⟩
theorem Bo.wide (h : Bo base top N w g gx P m Q n) {N' : Nat} (h1 : N ≤ N') (h2 : N' ≤ w.heap.size) : Bo base top N' w g gx P m Q n := by
  obtain ⟨bm, Rs, E, Rx, v, ys, k1, k2, h3, h4, h5, h6, h7, h8, h9, h10, h11, h12, h13, h14⟩ := h
  exact ⟨bm, Rs, E, Rx, v, ys, k1, k2, h3, h4, h5, h6, h7, h8, h9, fun k hk => ⟨(h10 k hk).1, by have := (h10 k hk).2; omega⟩, h11, by omega, h2, h14⟩
/-- What an operation on either writes of what stood. -/
def Wr (base N : Nat) (w w' : World) : Prop := Eff w w' (fun k => base ≤ k ∧ k < N)
theorem Bo.sPut (h : Bo base top N w g gx P m Q n) (id : Int) (A : Option Addr) (xs : List Int) (c : Nat) (hx : xs.length ≤ c) (hC : Kd.C (Kd.int .u8) w A xs.length xs) {M : Bool} {P' : List (Int × List Int)} {m' : Int} (hM : mayF [] [(⟨id, xs⟩ : S24)] = M) (hP : putP (P, m) ⟨id, xs⟩ = (P', m')) :
    Calls Try.prog 12 #[.pointer (some ⟨g, 0, none⟩), .agg #[.int .i64 id, .slice A xs.length c]] w fun e w' => e = .returned (.bool M) ∧ Bo base top N w' g gx P' m' Q n ∧ Wr base N w w' := by
  obtain ⟨bm, Rs, E, Rx, v, ys, h1, rfl, h3, h4, h5, h6, h7, h8, h9, h10, h11, h12, h13, h14⟩ := h
  cases M with
  | true =>
    obtain ⟨k0, k1, kl⟩ := (mayF_one ⟨id, xs⟩).1 hM
    have e1 : (putA id xs (vw E)).length = (putA id ((.bool true : Value), xs) E).length := by rw [← vw_put id (.bool true), vw_length]
    refine (Put_yes h1 id A xs c hx hC k0 k1 kl).mono ?_
    rintro e w' ⟨rfl, ⟨v2, Rs', hSt, hR⟩, hE⟩
    have e2 : (putA id xs (vw E)).length = (putA id (v2, xs) E).length := by rw [← vw_put id v2, vw_length]
    unfold putP at hP
    rw [if_pos hM] at hP
    injection hP with hP1 hP2
    simp only at hP1 hP2
    subst hP1 hP2
    have hE2 : Eff w w' (fun k => base ≤ k ∧ k < N) := hE.mono (fun k hk => by rcases hk with rfl | rfl <;> omega)
    refine ⟨rfl, ⟨bm, Rs', _, Rx, v, ys, by rw [e2]; exact hSt, vw_put _ _ _ _, h3, h4, h5, h6, fun k hk => ?_, by rw [e2]; omega, h9.kept hE.kept (fun k hk hS => by rcases hS with rfl | rfl <;> omega), fun k hk => ⟨fun hr => ?_, (h10 k hk).2⟩, h11, h12, Nat.le_trans h13 hE.kept.1, h14⟩, hE2⟩
    · rcases hR k hk with hk | hk
      · exact h7 k hk
      · exact ⟨by omega, by omega⟩
    · rcases hR k hr with hr | hr
      · exact (h10 k hk).1 hr
      · have := (h10 k hk).2; omega
  | false =>
    refine (Put_no id A xs c hx hC hM).mono ?_
    rintro e w' ⟨rfl, hb⟩
    unfold putP at hP
    rw [if_neg (by rw [hM]; decide)] at hP
    injection hP with hP1 hP2
    subst hP1 hP2
    exact ⟨rfl, Bo.below ⟨bm, Rs, E, Rx, v, ys, h1, rfl, h3, h4, h5, h6, h7, h8, h9, h10, h11, h12, h13, h14⟩ hb, Eff.of_below hb⟩
theorem Bo.xPut (h : Bo base top N w g gx P m Q n) (id : Int) (A : Option Addr) (xs : List Int) (c : Nat) (hx : xs.length ≤ c) (hC : Kd.C (Kd.int .u8) w A xs.length xs) {M : Bool} {Q' : List (Int × List Int)} {n' : Int} (hM : mayF [] [(⟨id, xs⟩ : S24)] = M) (hP : putP (Q, n) ⟨id, xs⟩ = (Q', n')) :
    Calls Try.prog 22 #[.pointer (some ⟨gx, 0, none⟩), .agg #[.int .i64 id, .slice A xs.length c]] w fun e w' => e = .returned (.bool M) ∧ Bo base top w'.heap.size w' g gx P m Q' n' ∧ Wr base N w w' := by
  have hB := h
  obtain ⟨bm, Rs, E, Rx, v, ys, h1, rfl, h3, h4, h5, h6, h7, h8, h9, h10, h11, h12, h13, h14, h15, h16⟩ := h
  cases M with
  | true =>
    obtain ⟨k0, k1, kl⟩ := (mayF_one ⟨id, xs⟩).1 hM
    refine (XPut_yes h9 id A xs c hx hC hM kl h14 (few_of h14 h15) h16).mono ?_
    rintro e w' ⟨rfl, ⟨Rx', v', ys', hX, hR, hv⟩, hE⟩
    unfold putP at hP
    rw [if_pos hM] at hP
    injection hP with hP1 hP2
    simp only at hP1 hP2
    subst hP1 hP2
    have hS : ∀ k, (k = gx ∨ v.ownBlock = some k) → gx ≤ k ∧ k < N ∧ ¬ Rs k := fun k hk => by
      rcases hk with rfl | hk
      · exact ⟨Nat.le_refl _, h12, fun hr => (h7 k hr).2 rfl⟩
      · exact ⟨Nat.le_of_lt (h9.base k hk).1, (h10 k hk).2, (h10 k hk).1⟩
    have hup := up_putA id xs h14
    have hkeys : ∀ p ∈ putA id xs Q, 0 ≤ p.1 ∧ p.1 < 64 ∧ p.2.length = 37 := fun p hp => by
      rcases mem_putA hp with rfl | hp
      · exact ⟨k0, k1, kl⟩
      · exact h15 p hp
    refine ⟨rfl, ⟨bm, Rs, E, Rx', v', ys', h1.kept hE.kept (fun hs => by have := hS g hs; omega) (fun hs => by have := hS bm hs; omega) (fun k hk hs => (hS k hs).2.2 hk), rfl, h3, h4, h5, h6, h7, h8, hX, fun k hk => ⟨fun hr => ?_, (hX.base k hk).2⟩, h11, by have := hE.kept.1; omega, Nat.le_refl _, hup, hkeys, by omega⟩, hE.mono (fun k hk => by have := hS k hk; omega)⟩
    rcases hv k hk with hk | hk
    · exact (h10 k hk).1 hr
    · have := h1.low k hr; omega
  | false =>
    refine (XPut_no id A xs c hx hC hM).mono ?_
    rintro e w' ⟨rfl, hb⟩
    unfold putP at hP
    rw [if_neg (by rw [hM]; decide)] at hP
    injection hP with hP1 hP2
    subst hP1 hP2
    exact ⟨rfl, (hB.below hb).wide (Nat.le_trans h13 hb.size) (Nat.le_refl _), Eff.of_below hb⟩
theorem Bo.sTake_none (h : Bo base top N w g gx P m Q n) (id : Int) (wf : (Lit.int .i64 id).wf = true) (hn : getA id P = none) :
    Calls Try.prog 19 #[.pointer (some ⟨g, 0, none⟩), .int .i64 id] w fun e w' => e = .returned (.tuple #[.agg #[.int .i64 0, .slice none 0 0], .bool false]) ∧ Bo base top N w' g gx P m Q n ∧ Wr base N w w' := by
  refine (h.os.Take_none id wf hn).mono ?_
  rintro e w' ⟨rfl, hb⟩
  exact ⟨rfl, h.below hb, Eff.of_below hb⟩
theorem Bo.sTake_some (h : Bo base top N w g gx P m Q n) (id : Int) (wf : (Lit.int .i64 id).wf = true) (xs : List Int) (hn : getA id P = some xs) :
    Calls Try.prog 19 #[.pointer (some ⟨g, 0, none⟩), .int .i64 id] w fun e w' => ∃ a o c, e = .returned (.tuple #[.agg #[.int .i64 id, .slice (some ⟨a, o, none⟩) xs.length c], .bool true]) ∧ Bo base top N w' g gx (delA id P) m Q n ∧ Wr base N w w' ∧ xs.length ≤ c ∧ Kd.C (Kd.int .u8) w' (some ⟨a, o, none⟩) xs.length xs ∧ a ≠ gx := by
  obtain ⟨bm, Rs, E, Rx, v, ys, h1, rfl, h3, h4, h5, h6, h7, h8, h9, h10, h11, h12, h13, h14⟩ := h
  rw [vw_get] at hn
  obtain ⟨⟨v2, xs'⟩, hg, rfl⟩ := Option.map_eq_some_iff.1 hn
  refine (A.Take_some h1 id wf v2 xs' hg).mono ?_
  rintro e w' ⟨rfl, hSt, hE⟩
  obtain ⟨a, o, c, hv, l1, l2, l3, l4, l5⟩ := (h1.rows _ (getA_mem hg)).step hE.kept.1 (fun k hk hlt => hE.kept.2 k hlt (fun e => h1.apart.2 (e ▸ hk)))
  have hv : v2 = .slice (some ⟨a, o, none⟩) xs'.length c := hv
  subst hv
  have hlen := delA_length_le id E
  exact ⟨a, o, c, rfl, ⟨bm, Rs, _, Rx, v, ys, hSt, vw_del _ _, h3, h4, h5, h6, h7, by omega, h9.kept hE.kept (fun k hk hS => by omega), h10, h11, h12, Nat.le_trans h13 hE.kept.1, h14⟩, hE.mono (fun k hk => by omega), l1, l5, (h7 a l3).2⟩
theorem Bo.xTake_none (h : Bo base top N w g gx P m Q n) (id : Int) (hn : getA id Q = none) :
    Calls Try.prog 23 #[.pointer (some ⟨gx, 0, none⟩), .int .i64 id] w fun e w' => e = .returned (.tuple #[.agg #[.int .i64 0, .slice none 0 0], .bool false]) ∧ Bo base top w'.heap.size w' g gx P m Q n ∧ Below w.heap.size w w' := by
  have hB := h
  obtain ⟨bm, Rs, E, Rx, v, ys, h1, h2, h3, h4, h5, h6, h7, h8, h9, h10, h11, h12, h13, h14, h15, h16⟩ := h
  have hix : ix id Q = none := by
    rw [ix_getA] at hn
    cases hi : ix id Q with
    | none => rfl
    | some k =>
      obtain ⟨p, hp, _⟩ := ix_get hi
      rw [hi] at hn
      simp [hp] at hn
  refine (XTake_none h9 id (few_of h14 h15) hix).mono ?_
  rintro e w' ⟨rfl, hb⟩
  exact ⟨rfl, (hB.below hb).wide (Nat.le_trans h13 hb.size) (Nat.le_refl _), hb⟩
theorem Bo.xTake_some (h : Bo base top N w g gx P m Q n) (id : Int) (xs : List Int) (hn : getA id Q = some xs) :
    Calls Try.prog 23 #[.pointer (some ⟨gx, 0, none⟩), .int .i64 id] w fun e w' => ∃ a o c, e = .returned (.tuple #[.agg #[.int .i64 id, .slice (some ⟨a, o, none⟩) xs.length c], .bool true]) ∧ Bo base top w'.heap.size w' g gx P m (delA id Q) n ∧ Eff w w' (fun k => k = gx) ∧ xs.length ≤ c ∧ Kd.C (Kd.int .u8) w' (some ⟨a, o, none⟩) xs.length xs := by
  have hB := h
  obtain ⟨bm, Rs, E, Rx, v, ys, h1, h2, h3, h4, h5, h6, h7, h8, h9, h10, h11, h12, h13, h14, h15, h16⟩ := h
  obtain ⟨i, hix⟩ : ∃ i, ix id Q = some i := by
    rw [ix_getA] at hn
    cases hi : ix id Q with
    | none => rw [hi] at hn; cases hn
    | some k => exact ⟨k, rfl⟩
  refine (XTake_some h9 id (few_of h14 h15) h14 i hix xs hn).mono ?_
  rintro e w' ⟨a, o, c, v', ys', rfl, hX, hv, l1, l2, _, hE⟩
  have hlen := delA_length_le id Q
  refine ⟨a, o, c, rfl, ⟨bm, Rs, E, Rx, v', ys', h1.kept hE.kept (by omega) (by omega) (fun k hk => (h7 k hk).2), h2, h3, h4, h5, h6, h7, h8, hX, fun k hk => ⟨fun hr => ?_, (hX.base k hk).2⟩, h11, by have := hE.kept.1; omega, Nat.le_refl _, up_delA id h14, fun p hp => h15 p (mem_delA hp), by omega⟩, hE, l1, l2⟩
  rcases hv k hk with hk | hk
  · exact (h10 k hk).1 hr
  · have := h1.low k hr; omega
end

/-! ### What compares -/
theorem ints_l (l : List Int) (hl : l.length ≤ 100) : ∀ (d k : Nat) (x : Int), 0 ≤ x → x ≤ l.length → l.length - x = d → d < k → oubref_Ints.l0 k l l x = some true
  | 0, k, x, h0, h1, h2, h3 => by
    obtain ⟨k, rfl⟩ : ∃ j, k = j + 1 := ⟨k - 1, by omega⟩
    rw [oubref_Ints.l0, if_neg (by omega)]
  | d + 1, k, x, h0, h1, h2, h3 => by
    obtain ⟨k, rfl⟩ : ∃ j, k = j + 1 := ⟨k - 1, by omega⟩
    rw [oubref_Ints.l0, if_pos (by omega), if_pos (by omega), if_pos (by omega), if_pos rfl, show wrap64 (x + 1) = x + 1 by unfold wrap64; omega]
    exact ints_l l hl d k (x + 1) (by omega) (by omega) (by omega) (by omega)
theorem ints_same (l : List Int) (hl : l.length ≤ 100) : oubref_Ints.f 200 l l = some true := by
  unfold oubref_Ints.f
  rw [if_pos rfl]
  exact ints_l l hl l.length 200 0 (by omega) (by omega) (by omega) (by omega)
theorem blocks_l (l : List S53) (hl : l.length ≤ 100) : ∀ (d k : Nat) (x : Int), 0 ≤ x → x ≤ l.length → l.length - x = d → d < k → oubref7_SameBlocks.l0 k l l x = some true
  | 0, k, x, h0, h1, h2, h3 => by
    obtain ⟨k, rfl⟩ : ∃ j, k = j + 1 := ⟨k - 1, by omega⟩
    rw [oubref7_SameBlocks.l0, if_neg (by omega)]
  | d + 1, k, x, h0, h1, h2, h3 => by
    obtain ⟨k, rfl⟩ : ∃ j, k = j + 1 := ⟨k - 1, by omega⟩
    rw [oubref7_SameBlocks.l0, if_pos (by omega), if_pos (by omega), if_pos (by omega), if_pos rfl, bytes_eq]
    simp only [Option.bind_some, if_true]
    rw [show wrap64 (x + 1) = x + 1 by unfold wrap64; omega]
    exact blocks_l l hl d k (x + 1) (by omega) (by omega) (by omega) (by omega)
theorem blocks_same (l : List S53) (hl : l.length ≤ 100) : oubref7_SameBlocks.f 200 l l = some true := by
  unfold oubref7_SameBlocks.f
  rw [if_pos rfl]
  exact blocks_l l hl l.length 200 0 (by omega) (by omega) (by omega) (by omega)
/-- The same blocks, as the document has them. -/
def blk53 (P : List (Int × List Int)) : List S53 := P.map fun p => ⟨p.1, p.2⟩
theorem plain_l (P : List (Int × List Int)) (hl : P.length ≤ 100) : ∀ (d k : Nat) (x : Nat), x ≤ P.length → P.length - x = d → d < k → oublaw9_Plain.l0 k (blk P) (blk53 (P.take x)) x = some (blk53 P)
  | 0, k, x, h1, h2, h3 => by
    obtain ⟨k, rfl⟩ : ∃ j, k = j + 1 := ⟨k - 1, by omega⟩
    rw [oublaw9_Plain.l0, if_neg (by rw [blk_length]; omega), List.take_of_length_le (by omega)]
  | d + 1, k, x, h1, h2, h3 => by
    obtain ⟨k, rfl⟩ : ∃ j, k = j + 1 := ⟨k - 1, by omega⟩
    have hx : x < P.length := by omega
    have e : blk53 (P.take x) ++ [(⟨(rd_T24 (blk P) (x : Int)).f0, (rd_T24 (blk P) (x : Int)).f1⟩ : S53)] = blk53 (P.take (x + 1)) := by
      unfold blk53
      rw [List.take_add_one, List.map_append]
      congr 1
      unfold rd_T24 blk
      rw [Int.toNat_natCast, List.getD_eq_getElem?_getD, List.getElem?_map, List.getElem?_eq_getElem hx]
      rfl
    rw [oublaw9_Plain.l0, if_pos (by rw [blk_length]; omega), if_pos (by omega), if_pos (by unfold blk53; rw [List.length_map, List.length_take]; omega), e, show wrap64 ((x : Int) + 1) = ((x + 1 : Nat) : Int) by unfold wrap64; omega]
    exact plain_l P hl d k (x + 1) (by omega) (by omega) (by omega)
theorem plain_same (P : List (Int × List Int)) (hl : P.length ≤ 100) : oublaw9_Plain.f 200 (blk P) = some (blk53 P) := plain_l P hl P.length 200 0 (by omega) (by omega) (by omega)
end Go.Proofs.Ytmjbmbhpfckagaa.A
