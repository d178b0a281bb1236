/- The stash as an object that is one's own; New of nothing; first. -/
import Derived.Test.YtmjbmbhpfckagaaStashD
namespace Go.Proofs.Ytmjbmbhpfckagaa.A
open Go.RowKit Go.Maps Go.Sort Go.Shelf Go.Proofs.YtmjbmbhpfckagaaW.PrintWords Go.Proofs.Ytmjbmbhpfckagaa.B
set_option linter.unusedVariables false
set_option linter.unusedSimpArgs false

/-- What is seen of a stash: bytes by rising id. -/
def vw (E : List (Int × (Value × List Int))) : List (Int × List Int) := E.map fun p => (p.1, p.2.2)
theorem vw_length (E : List (Int × (Value × List Int))) : (vw E).length = E.length := List.length_map _
theorem vw_put (id : Int) (v : Value) (xs : List Int) (E : List (Int × (Value × List Int))) : vw (putA id (v, xs) E) = putA id xs (vw E) := putA_map (fun q : Value × List Int => q.2) id (v, xs) E
theorem vw_del (id : Int) (E : List (Int × (Value × List Int))) : vw (delA id E) = delA id (vw E) := delA_map (fun q : Value × List Int => q.2) id E
theorem vw_get (id : Int) (E : List (Int × (Value × List Int))) : getA id (vw E) = (getA id E).map (·.2) := getA_map (fun q : Value × List Int => q.2) id E

/-- A STASH OF ONE'S OWN at g: all its blocks lie from base on, its two lie below top; P: its bytes by rising id; m: how many there were. -/
def OS (base top : Nat) (w : World) (g : Nat) (P : List (Int × List Int)) (m : Int) : Prop :=
  ∃ bm Rs E, St w g bm Rs E m ∧ vw E = P ∧ base ≤ g ∧ base ≤ bm ∧ g < top ∧ bm < top ∧ (∀ k, Rs k → base ≤ k) ∧ (E.length : Int) ≤ m

section
variable {w w1 : World} {base top g : Nat} {P : List (Int × List Int)} {m : Int}
theorem OS.below (h : OS base top w g P m) (hb : Below w.heap.size w w1) : OS base top w1 g P m := by
  obtain ⟨bm, Rs, E, h1, h2⟩ := h
  exact ⟨bm, Rs, E, h1.below hb, h2⟩
theorem OS.few (h : OS base top w g P m) : P.length ≤ 64 ∧ (P.length : Int) ≤ m := by
  obtain ⟨bm, Rs, E, h1, rfl, _, _, _, _, _, h2⟩ := h
  rw [vw_length]
  exact ⟨h1.few, h2⟩
theorem OS.up (h : OS base top w g P m) : Up P := by
  obtain ⟨bm, Rs, E, h1, rfl, _⟩ := h
  have := h1.up
  simpa [Up, vw, List.pairwise_map] using this
theorem OS.lt (h : OS base top w g P m) : base ≤ g ∧ g < w.heap.size := by
  obtain ⟨bm, Rs, E, h1, rfl, h2, _⟩ := h
  exact ⟨h2, h1.lt.1⟩
theorem OS.Has (h : OS base top w g P m) (id : Int) (wf : (Lit.int .i64 id).wf = true) :
    Calls Try.prog 18 #[.pointer (some ⟨g, 0, none⟩), .int .i64 id] w fun e w' => e = .returned (.bool (getA id P).isSome) ∧ w' = w := by
  obtain ⟨bm, Rs, E, h1, rfl, _⟩ := h
  rw [vw_get, Option.isSome_map]
  exact Has_calls h1 id wf
theorem OS.Len (h : OS base top w g P m) :
    Calls Try.prog 16 #[.pointer (some ⟨g, 0, none⟩)] w fun e w' => e = .returned (.int .i64 P.length) ∧ w' = w := by
  obtain ⟨bm, Rs, E, h1, rfl, _⟩ := h
  rw [vw_length]
  exact Len_calls h1
theorem OS.Most (h : OS base top w g P m) :
    Calls Try.prog 21 #[.pointer (some ⟨g, 0, none⟩)] w fun e w' => e = .returned (.int .i64 m) ∧ w' = w := by
  obtain ⟨bm, Rs, E, h1, rfl, _⟩ := h
  exact Most_calls h1
theorem OS.Get (h : OS base top w g P m) (id : Int) (wf : (Lit.int .i64 id).wf = true) :
    Calls Try.prog 13 #[.pointer (some ⟨g, 0, none⟩), .int .i64 id] w fun e w' => ∃ v, e = .returned (.tuple #[v, .bool (getA id P).isSome]) ∧ w'.ownsRow w.heap.size 5 1 v ((getA id P).getD []).length (((getA id P).getD []).map (Value.int .u8)) ∧ (v = .slice none 0 0 ↔ getA id P = none) ∧ Below w.heap.size w w' := by
  obtain ⟨bm, Rs, E, h1, rfl, _⟩ := h
  refine (Get_calls h1 id wf).mono ?_
  rintro e w' ⟨v, rfl, h2, h3, h4⟩
  rw [vw_get, Option.isSome_map]
  exact ⟨v, rfl, h2, by rw [h3]; simp, h4⟩
theorem OS.IDs (h : OS base top w g P m) :
    Calls Try.prog 20 #[.pointer (some ⟨g, 0, none⟩)] w fun e w' => ∃ v, e = .returned v ∧ w'.ownsRow w.heap.size 3 1 v (P.map (·.1)).length ((P.map (·.1)).map (Value.int .i64)) ∧ Below w.heap.size w w' := by
  obtain ⟨bm, Rs, E, h1, rfl, _⟩ := h
  have e1 : (vw E).map (·.1) = E.map (·.1) := by unfold vw; rw [List.map_map]; rfl
  rw [e1]
  exact IDs_calls h1

theorem delA_length_le {α : Type} (k : Int) (l : List (Int × α)) : (delA k l).length ≤ l.length := by
  unfold delA
  exact List.length_filter_le _ _

theorem Eff.low {b0 : Nat} {S : Nat → Prop} (h : Eff w w1 S) (hb : b0 ≤ w.heap.size) (hS : ∀ k, S k → b0 ≤ k) : Below b0 w w1 :=
  ⟨h.os, h.tape, h.output, h.kept.1, fun k hk => h.kept.2 k (by omega) (fun hs => by have := hS k hs; omega)⟩

theorem OS.Take_none (h : OS base top w g P m) (id : Int) (wf : (Lit.int .i64 id).wf = true) (hn : getA id P = none) :
    Calls Try.prog 19 #[.pointer (some ⟨g, 0, none⟩), .int .i64 id] w fun e w' => e = .returned (.tuple #[.agg #[.int .i64 0, .slice none 0 0], .bool false]) ∧ Below w.heap.size w w' := by
  obtain ⟨bm, Rs, E, h1, rfl, _⟩ := h
  rw [vw_get, Option.map_eq_none_iff] at hn
  exact A.Take_none h1 id wf hn
theorem OS.Take_some (h : OS base top w g P m) (id : Int) (wf : (Lit.int .i64 id).wf = true) (xs : List Int) (hn : getA id P = some xs) :
    Calls Try.prog 19 #[.pointer (some ⟨g, 0, none⟩), .int .i64 id] w fun e w' => ∃ a o c, e = .returned (.tuple #[.agg #[.int .i64 id, .slice (some ⟨a, o, none⟩) xs.length c], .bool true]) ∧ OS base top w' g (delA id P) m ∧ Eff w w' (fun k => base ≤ k ∧ k < top) ∧ xs.length ≤ c ∧ Kd.C (Kd.int .u8) w' (some ⟨a, o, none⟩) xs.length xs ∧ base ≤ a := by
  obtain ⟨bm, Rs, E, h1, rfl, h2, h3, h4, h5, h6, h7⟩ := h
  rw [vw_get] at hn
  obtain ⟨⟨v, xs'⟩, hg, rfl⟩ := Option.map_eq_some_iff.1 hn
  refine (A.Take_some h1 id wf v xs' hg).mono ?_
  rintro e w' ⟨rfl, hSt, hE⟩
  obtain ⟨a, o, c, hv, l1, l2, l3, l4, l5⟩ := (h1.rows _ (getA_mem hg)).step hE.kept.1 (fun k hk hlt => hE.kept.2 k hlt (fun e => h1.apart.2 (e ▸ hk)))
  have hv : v = .slice (some ⟨a, o, none⟩) xs'.length c := hv
  subst hv
  refine ⟨a, o, c, rfl, ⟨bm, Rs, _, hSt, vw_del _ _, h2, h3, h4, h5, h6, ?_⟩, hE.mono (fun k hk => by subst hk; exact ⟨h3, h5⟩), l1, l5, h6 a l3⟩
  have := delA_length_le id E
  omega
theorem OS.Put_yes (h : OS base top w g P m) (hbase : base ≤ w.heap.size) (id : Int) (A : Option Addr) (xs : List Int) (c : Nat) (hx : xs.length ≤ c) (hC : Kd.C (Kd.int .u8) w A xs.length xs) (h0 : 0 ≤ id) (h1 : id < 64) (hl : xs.length = 37) :
    Calls Try.prog 12 #[.pointer (some ⟨g, 0, none⟩), .agg #[.int .i64 id, .slice A xs.length c]] w fun e w' => e = .returned (.bool true) ∧ OS base top w' g (putA id xs P) (max m (putA id xs P).length) ∧ Eff w w' (fun k => base ≤ k ∧ k < top) := by
  obtain ⟨bm, Rs, E, k1, rfl, h2, h3, h4, h5, h6, h7⟩ := h
  refine (Go.Proofs.Ytmjbmbhpfckagaa.A.Put_yes k1 id A xs c hx hC h0 h1 hl).mono ?_
  rintro e w' ⟨rfl, ⟨v, Rs', hSt, hRs⟩, hE⟩
  have e1 : (putA id xs (vw E)).length = (putA id (v, xs) E).length := by rw [← vw_put id v, vw_length]
  refine ⟨rfl, ⟨bm, Rs', _, by rw [e1]; exact hSt, vw_put _ _ _ _, h2, h3, h4, h5, fun k hk => ?_, by rw [e1]; omega⟩, hE.mono (fun k hk => by rcases hk with rfl | rfl; exact ⟨h2, h4⟩; exact ⟨h3, h5⟩)⟩
  rcases hRs k hk with hk | hk
  · exact h6 k hk
  · omega
end

/-- What Put does to what is seen, and to the most. -/
def putP (s : List (Int × List Int) × Int) (b : S24) : List (Int × List Int) × Int :=
  if mayF [] [b] = true then (putA b.f0 b.f1 s.1, max s.2 (putA b.f0 b.f1 s.1).length) else s

theorem mayF_one (b : S24) : mayF [] [b] = true ↔ 0 ≤ b.f0 ∧ b.f0 < 64 ∧ b.f1.length = 37 := by
  unfold mayF
  by_cases h0 : b.f0 < 0
  · simp [h0]; omega
  · by_cases h1 : b.f0 ≥ 64
    · simp [h0, h1]; omega
    · by_cases h2 : b.f1.length = 37
      · simp [h0, h1, h2, mayF]; omega
      · simp [h0, h1, h2]

/-- Put, whatever the block. -/
theorem OS.Put {w : World} {base top g : Nat} {P : List (Int × List Int)} {m : Int} (h : OS base top w g P m) (hbase : base ≤ w.heap.size) (id : Int) (A : Option Addr) (xs : List Int) (c : Nat) (hx : xs.length ≤ c) (hC : Kd.C (Kd.int .u8) w A xs.length xs) :
    Calls Try.prog 12 #[.pointer (some ⟨g, 0, none⟩), .agg #[.int .i64 id, .slice A xs.length c]] w fun e w' => e = .returned (.bool (mayF [] [⟨id, xs⟩])) ∧ OS base top w' g (putP (P, m) ⟨id, xs⟩).1 (putP (P, m) ⟨id, xs⟩).2 ∧ Eff w w' (fun k => base ≤ k ∧ k < top) := by
  by_cases hm : mayF [] [(⟨id, xs⟩ : S24)] = true
  · obtain ⟨h0, h1, hl⟩ := (mayF_one ⟨id, xs⟩).1 hm
    unfold putP
    rw [if_pos hm, hm]
    exact h.Put_yes hbase id A xs c hx hC h0 h1 hl
  · have hm' : mayF [] [(⟨id, xs⟩ : S24)] = false := by simpa using hm
    unfold putP
    rw [if_neg hm, hm']
    refine (Put_no id A xs c hx hC hm').mono ?_
    rintro e w' ⟨rfl, hb⟩
    exact ⟨rfl, h.below hb, Eff.of_below hb⟩

set_option maxHeartbeats 2000000 in
set_option maxRecDepth 100000 in
theorem New_calls (A0 : Option Addr) (c0 : Nat) (l0 : List S24) (w : World) (hr0 : Kd.C k24 w A0 l0.length l0) (hc0 : l0.length ≤ c0) (hbig : l0.length ≤ 9223372036854775807) :
    Calls Try.prog 10 #[.slice A0 l0.length c0] w fun e w' => ∃ g, e = .returned (.pointer (some ⟨g, 0, none⟩)) ∧ OS w.heap.size w'.heap.size w' g (l0.foldl putP ([], 0)).1 (l0.foldl putP ([], 0)).2 ∧ Below w.heap.size w w' := by
  have HR := Lib.hid hr0
  have hmm := @run_makeMap Try.prog
  clear hr0
  go_enter Try.func10, Try.ntmps10
  go_wp2
  go_loopw [11] (fun i wr => ∃ (k : Nat) (P : List (Int × List Int)) (m : Int), k ≤ l0.length ∧ i = .int .i64 k ∧ Hid (l0.foldl putP ([], 0) = (l0.drop k).foldl putP (P, m)) ∧ Hid (OS w.heap.size (w.heap.size + 2) wr (w.heap.size + 1) P m) ∧ Hid (Below w.heap.size w wr)) (fun i _ => l0.length - (intOf i).toNat)
  case atStart =>
    have b1 : Below w.heap.size w (w.alloc (.map #[] 0)) := (Below.refl _ w).alloc (Nat.le_refl _) _
    have hm1 := World.ownsMap_made w Try.prog 3 tok
    refine ⟨0, [], 0, Nat.zero_le _, rfl, rfl, ⟨w.heap.size, fun _ => False, [], ⟨?_, ⟨0, ?_⟩, List.Pairwise.nil, by simp, by simp, by simp, by simp, by simp, by omega⟩, rfl, by omega, by omega, by omega, by omega, by simp, by simp⟩, b1.alloc (by simp) _⟩
    · have := heap_top (w.alloc (.map #[] 0)) (.cells #[.map (some w.heap.size), .int .i64 0] 66 (0, 0))
      simpa using this
    · obtain ⟨es, clock, e1, e2, e3, e4⟩ := hm1
      exact ⟨es, clock, (Below.heap_alloc _ _ _ (by simp)).trans e1, e2, e3, e4⟩
  case round =>
    obtain ⟨k, P, m, hk, rfl, HF, HO, HB⟩ := hrel
    by_cases hlt : k < l0.length
    · obtain ⟨⟨id, xs⟩, hb⟩ : ∃ b, rd_T24 l0 (k : Int) = b := ⟨_, rfl⟩
      have hd : l0.drop k = ⟨id, xs⟩ :: l0.drop (k + 1) := by
        rw [List.drop_eq_getElem_cons hlt, ← hb]
        congr 1
        unfold rd_T24
        rw [Int.toNat_natCast, List.getD_eq_getElem?_getD, List.getElem?_eq_getElem hlt]
        rfl
      obtain ⟨ad, A1, c1, rfl, q0, q1, l1, g1⟩ := at_T24 (Kd.C_below HR.out HB.out) (k : Int) (by omega) (by omega)
      rw [hb] at q0 q1 l1 g1
      simp only [Int.toNat_natCast] at q0 q1 l1 g1
      have HD := Lib.hid hd
      have HC := Lib.hid g1
      have sz := HO.out.lt.2
      clear hb hd g1
      go_wp2_with (first | (go_at_call 12; refine (OS.Put (HO.out.below ((Below.refl _ wr).alloc (Nat.le_refl _) _)) (by simp; omega) id A1 xs c1 l1 (Kd.C_below HC.out ((Below.refl _ wr).alloc (Nat.le_refl _) _))).mono ?_; rintro e w1 ⟨rfl, ho, he⟩; have HO1 := Lib.hid ho; have HE1 := Lib.hid he; clear ho he) | fail)
      go_roundw
      case rel => exact ⟨k + 1, (putP (P, m) ⟨id, xs⟩).1, (putP (P, m) ⟨id, xs⟩).2, by omega, by go_num, HF.out.trans (by rw [HD.out]; rfl), HO1.out, HB.out.trans (((Below.refl _ wr).alloc (Nat.le_refl _) _).mono HB.out.size |>.trans (Eff.low HE1.out (by simp; omega) (fun k hk => hk.1)))⟩
      case measure => simp [intOf]; omega
    · go_wp2
      go_ret
      have : k = l0.length := by omega
      subst this
      have hf := HF.out
      rw [List.drop_length] at hf
      rw [hf]
      obtain ⟨bm, Rs, E, h1, h2, h3, h4, h5, h6, h7, h8⟩ := HO.out
      exact ⟨_, rfl, ⟨bm, Rs, E, h1, h2, h3, h4, h1.lt.1, h1.lt.2.1, h7, h8⟩, HB.out⟩
end Go.Proofs.Ytmjbmbhpfckagaa.A
