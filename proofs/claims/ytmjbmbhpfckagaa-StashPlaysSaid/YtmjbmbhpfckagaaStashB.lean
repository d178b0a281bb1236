/- The stash's methods that write or make memory: Take, Get, IDs; bytes.Clone and slices.Sorted(maps.Keys(..)) behind them. -/
import Derived.Test.YtmjbmbhpfckagaaStashA
import Derived.Test.YtmjbmbhpfckagaaPlain
import Derived.Test.YtmjbmbhpfckagaaShelf
import Derived.Shelf.SlIterI.Nil
import Derived.Deep.RegionWith
import Derived.Lib.Hide
namespace Go.Proofs.Ytmjbmbhpfckagaa.A
open Go.RowKit Go.Maps Go.Sort Go.Shelf Go.Proofs.YtmjbmbhpfckagaaW.PrintWords
set_option linter.unusedVariables false
set_option linter.unusedSimpArgs false

/-- What a call does to the world: it writes blocks of S and new ones alone. -/
structure Eff (w w' : World) (S : Nat → Prop) : Prop where
  os : w'.os = w.os
  tape : w'.tape = w.tape
  output : w'.output = w.output
  kept : Kept w w' S
theorem Eff.refl (w : World) (S : Nat → Prop) : Eff w w S := ⟨rfl, rfl, rfl, Kept.refl w S⟩
theorem Eff.of_below {w w' : World} {S : Nat → Prop} (h : Below w.heap.size w w') : Eff w w' S := ⟨h.os, h.tape, h.output, Kept.of_below h S⟩
theorem Eff.trans {w w1 w2 : World} {S : Nat → Prop} (h : Eff w w1 S) (k : Eff w1 w2 S) : Eff w w2 S := ⟨k.os.trans h.os, k.tape.trans h.tape, k.output.trans h.output, h.kept.then_ k.kept (fun _ hk => .inl hk)⟩
theorem Eff.mono {w w1 : World} {S S' : Nat → Prop} (h : Eff w w1 S) (hs : ∀ k, S k → S' k) : Eff w w1 S' := ⟨h.os, h.tape, h.output, h.kept.mono hs⟩
theorem Eff.then_below {w w1 w2 : World} {S : Nat → Prop} (h : Eff w w1 S) (k : Below w1.heap.size w1 w2) : Eff w w2 S := h.trans (Eff.of_below k)
theorem Eff.turned {w w1 : World} {bm : Nat} (h : w.mapTurned w1 bm) : Eff w w1 (fun k => k = bm) := by
  have hg := h.grown
  exact ⟨hg.os, hg.tape, hg.output, hg.size, fun i hi hn => hg.block i hi (fun e => by cases e; exact hn rfl)⟩
theorem Eff.setCell {w w1 : World} {S : Nat → Prop} (h : Eff w w1 S) {p : Addr} (hp : S p.block ∨ w.heap.size ≤ p.block) (u : Value) : Eff w (w1.setCell p u) S := ⟨h.os, h.tape, h.output, h.kept.setCell hp u⟩
theorem Eff.alloc {w w1 : World} {S : Nat → Prop} (h : Eff w w1 S) (o : Obj) : Eff w (w1.alloc o) S := h.then_below ((Below.refl _ _).alloc (Nat.le_refl _) o)
theorem Eff.below {w0 w w1 : World} {S : Nat → Prop} (h : Eff w w1 S) (hb : Below w0.heap.size w0 w) (hS : ∀ k, S k → w0.heap.size ≤ k) : Below w0.heap.size w0 w1 :=
  ⟨h.os.trans hb.os, h.tape.trans hb.tape, h.output.trans hb.output, Nat.le_trans hb.size h.kept.1, fun k hk => (h.kept.2 k (by have := hb.size; omega) (fun hs => by have := hS k hs; omega)).trans (hb.block k hk)⟩

/-- bytes.Clone: a new row of the same bytes; of nil: nil. -/
theorem Clone_calls (A : Option Addr) (c : Nat) (xs : List Int) (w : World) (hr : Kd.C (Kd.int .u8) w A xs.length xs) (hbig : xs.length ≤ 140737488355328) :
    Calls Try.prog 30 #[.slice A xs.length c] w fun e w' => ∃ v, e = .returned v ∧ w'.ownsRow w.heap.size 5 1 v xs.length (xs.map (Value.int .u8)) ∧ (v = .slice none 0 0 ↔ A = none) ∧ Below w.heap.size w w' := by
  obtain ⟨e1, e2, e3⟩ := Kd.reads_of_C (d := (0 : Int)) hr
  cases A with
  | none =>
    have h0 : xs = [] := by
      by_cases h : 0 < xs.length
      · obtain ⟨ad, he, _⟩ := e3 h
        cases he
      · exact List.eq_nil_of_length_eq_zero (by omega)
    subst h0
    refine (Try.bytes_Clone_nil 0 c w).mono ?_
    rintro e w' ⟨rfl, rfl⟩
    exact ⟨_, rfl, World.ownsRow_nil _ _ _ _, by simp, Below.refl _ _⟩
  | some a =>
    refine (Try.bytes_Clone_at a xs.length c xs w rfl hbig (fun i hi => ?_)).mono ?_
    · obtain ⟨ad, he, hc⟩ := e3 (by omega)
      cases he
      exact hc i hi
    · rintro e w' ⟨v, rfl, h1, h2, h3⟩
      exact ⟨v, rfl, h1, by simp [h2], h3⟩

/-- A new row of bytes that isn't empty, as a row of the stash's. -/
theorem row_of_own {w : World} {base : Nat} {v : Value} {xs : List Int} (h : w.ownsRow base 5 1 v xs.length (xs.map (Value.int .u8))) (h0 : 0 < xs.length) : Row w (fun k => base ≤ k) v xs := by
  have hR : Kd.R (Kd.int .u8) 5 w base (fun _ => True) v xs := Kd.R_of_own (by simpa [encs] using h) (fun _ _ => trivial)
  rcases h.2 with ⟨_, hn⟩ | ⟨g, cap, cur, rfl, hg, hh, h1, h2, h3, h4⟩
  · omega
  · have := Kd.R_reads' hR
    exact ⟨g, 0, cap, rfl, h1, h2, hg, (Array.getElem?_eq_some_iff.1 hh).1, this.2.2⟩

section
variable {w : World} {g bm : Nat} {Rs : Nat → Prop} {E : List (Int × (Value × List Int))} {m : Int}

theorem St.take (h : St w g bm Rs E m) {w1 : World} (he : Eff w w1 (fun k => k = bm)) {id : Int} {n : Nat} (hm : w1.ownsMap Try.prog 3 tok bm n ((dat (E.map fun p => (p.1, p.2.1))).del (.int .i64 id))) : St w1 g bm Rs (delA id E) m where
  cells := (he.kept.2 g h.lt.1 h.lt.2.2).trans h.cells
  map := ⟨n, by rw [delA_map (fun q : Value × List Int => q.1), ← dat_del]; exact hm⟩
  up := up_delA id h.up
  keys := fun p hp => h.keys p (mem_delA hp)
  rows := fun p hp => (h.rows p (mem_delA hp)).step he.kept.1 (fun k hk hlt => he.kept.2 k hlt (fun e => h.apart.2 (e ▸ hk)))
  len := fun p hp => h.len p (mem_delA hp)
  apart := h.apart
  low := fun k hk => Nat.lt_of_lt_of_le (h.low k hk) he.kept.1
  wf := h.wf

set_option maxHeartbeats 1000000 in
set_option maxRecDepth 100000 in
theorem Take_none (h : St w g bm Rs E m) (id : Int) (wf : (Lit.int .i64 id).wf = true) (hn : getA id E = none) :
    Calls Try.prog 19 #[.pointer (some ⟨g, 0, none⟩), .int .i64 id] w fun e w' => e = .returned (.tuple #[.agg #[.int .i64 0, .slice none 0 0], .bool false]) ∧ Below w.heap.size w w' := by
  have hlt := h.lt.1
  have h1 := h.below (((Below.refl _ w).alloc (Nat.le_refl _) (.cells #[.int .i64 0, .slice none 0 0] 24)))
  have c0 := h1.cell0
  have hl := look_ok h1 wf
  have e1 : valA id E = .slice none 0 0 := by unfold valA; rw [hn]; rfl
  rw [e1, hn] at hl
  clear h h1 e1 hn
  go_enter Try.func19, Try.ntmps19
  go_wp2
  exact bodyPost_ret (v := .tuple #[.agg #[.int .i64 0, .slice none 0 0], .bool false]) (by simp [results, Try.results19, go_sem]) rfl ⟨rfl, by first | exact (Below.refl _ w).alloc (Nat.le_refl _) _ | exact (((Below.refl _ w).alloc (Nat.le_refl _) _).setCell (Nat.le_refl _) _).setCell (Nat.le_refl _) _⟩

theorem heap_top (w : World) (o : Obj) : (w.alloc o).heap[w.heap.size]? = some o := (MapKept.heap_alloc w o).1

set_option maxHeartbeats 1000000 in
set_option maxRecDepth 100000 in
theorem Take_some (h : St w g bm Rs E m) (id : Int) (wf : (Lit.int .i64 id).wf = true) (v : Value) (xs : List Int) (hn : getA id E = some (v, xs)) :
    Calls Try.prog 19 #[.pointer (some ⟨g, 0, none⟩), .int .i64 id] w fun e w' => e = .returned (.tuple #[.agg #[.int .i64 id, v], .bool true]) ∧ St w' g bm Rs (delA id E) m ∧ Eff w w' (fun k => k = bm) := by
  obtain ⟨hg, hb, hgb⟩ := h.lt
  obtain ⟨ra, ro, rc, hv, -⟩ := h.rows _ (getA_mem hn)
  obtain rfl : v = .slice (some ⟨ra, ro, none⟩) xs.length rc := hv
  have h1 := h.below (((Below.refl _ w).alloc (Nat.le_refl _) (.cells #[.int .i64 0, .slice none 0 0] 24)))
  have c0 := h1.cell0
  have hl := look_ok h1 wf
  have e1 : valA id E = .slice (some ⟨ra, ro, none⟩) xs.length rc := by unfold valA; rw [hn]; rfl
  rw [e1, hn] at hl
  have hm1 := Lib.hid h1.map'
  have hk := Lib.hid (key_of wf)
  have H := Lib.hid h
  have E0 := Lib.hid (Eff.of_below (S := fun k => k = bm) ((Below.refl _ w).alloc (Nat.le_refl _) (.cells #[.int .i64 0, .slice none 0 0] 24)))
  have top := Lib.hid (heap_top w (.cells #[.int .i64 0, .slice none 0 0] 24))
  clear h h1 e1 hn
  go_enter Try.func19, Try.ntmps19
  go_wp2_with (at_delete; refine wpList_delete_own _ rfl _ _ 64 3 rfl 22 keyed Try.underlying64 tok bm _ _ rfl hm1.out _ _ rfl hk.out ?_; intro w1 hown1 hturn1; have E1 := Lib.hid (E0.out.trans (Eff.turned hturn1)); have O1 := Lib.hid hown1; have t1 : w1.heap[w.heap.size]? = some (.cells #[.int .i64 0, .slice none 0 0] 24) := (hturn1.grown.block w.heap.size (by simp) (by simp; omega)).trans top.out; have q0 : w1.cell? ⟨w.heap.size, 0, none⟩ = some (.int .i64 0) := (by simp [World.cell?, t1]); have q1 : w1.cell? ⟨w.heap.size, 1, none⟩ = some (.slice none 0 0) := (by simp [World.cell?, t1]); have f0 : w1.frozen? ⟨w.heap.size, 0, none⟩ = false := (by simp [World.frozen?, t1]); have f1 : w1.frozen? ⟨w.heap.size, 1, none⟩ = false := (by simp [World.frozen?, t1]); have sz : w.heap.size < w1.heap.size := (Array.getElem?_eq_some_iff.1 t1).1; clear hown1 hturn1 t1)
  refine bodyPost_ret (v := .tuple #[.agg #[.int .i64 id, .slice (some ⟨ra, ro, none⟩) xs.length rc], .bool true]) ?_ rfl ?_
  · simp [results, Try.results19, go_sem, q0, q1, f0, f1, sz]
  refine ⟨rfl, ?_, (E1.out.setCell (.inr (Nat.le_refl _)) _).setCell (.inr (Nat.le_refl _)) _⟩
  have h2 := St.take H.out E1.out O1.out
  have hl2 := h2.lt
  have e1 : ∀ p : Addr, p.block = w.heap.size → ∀ W u k, k < w.heap.size → (World.setCell W p u).heap[k]? = W.heap[k]? := fun p hp W u k hk => Below.heap_setCell W p u k (by omega)
  refine h2.step (by simp [World.setCell]) ?_ ?_ (fun k hr _ => ?_)
  · rw [e1 _ rfl _ _ _ hg, e1 _ rfl _ _ _ hg]
  · rw [e1 _ rfl _ _ _ hb, e1 _ rfl _ _ _ hb]
  · have := H.out.low k hr
    rw [e1 _ rfl _ _ _ this, e1 _ rfl _ _ _ this]

set_option maxHeartbeats 1000000 in
set_option maxRecDepth 100000 in
theorem Get_calls (h : St w g bm Rs E m) (id : Int) (wf : (Lit.int .i64 id).wf = true) :
    Calls Try.prog 13 #[.pointer (some ⟨g, 0, none⟩), .int .i64 id] w fun e w' => ∃ v, e = .returned (.tuple #[v, .bool (getA id E).isSome]) ∧ w'.ownsRow w.heap.size 5 1 v (((getA id E).map (·.2)).getD []).length ((((getA id E).map (·.2)).getD []).map (Value.int .u8)) ∧ (v = .slice none 0 0 ↔ getA id E = none) ∧ Below w.heap.size w w' := by
  obtain ⟨A, c, xs, hv, hx, hC, hA, hb⟩ : ∃ A c xs, valA id E = .slice A xs.length c ∧ ((getA id E).map (·.2)).getD [] = xs ∧ Kd.C (Kd.int .u8) w A xs.length xs ∧ (A = none ↔ getA id E = none) ∧ xs.length ≤ 37 := by
    cases hg : getA id E with
    | none => exact ⟨none, 0, [], by unfold valA; rw [hg]; rfl, rfl, Kd.C_nil _ _, by simp, by simp⟩
    | some p =>
      obtain ⟨v, xs⟩ := p
      obtain ⟨a, o, c, hv, h1, h2, h3, h4, h5⟩ := h.rows _ (getA_mem hg)
      exact ⟨_, c, xs, by unfold valA; rw [hg]; exact hv, rfl, h5, by simp, Nat.le_of_eq (h.len _ (getA_mem hg))⟩
  have hl := look h wf
  have c0 := h.cell0
  rw [hv] at hl
  have H := Lib.hid h
  have HC := Lib.hid hC
  have HX := Lib.hid hx
  have HA := Lib.hid hA
  have HS := Lib.hid (Has_calls h id wf)
  clear h hC hx hA hv
  go_enter Try.func13, Try.ntmps13
  go_wp2_with (first | (go_at_call 30; refine (Clone_calls A c xs _ HC.out (by omega)).mono ?_; rintro e w1 ⟨v, rfl, hr, hn, hbl⟩; have HR := Lib.hid hr; have HN := Lib.hid hn; have HB := Lib.hid hbl; have c1 := (H.out.below hbl).cell0; clear hr hn hbl) | (go_at_call 18; refine (Has_calls (H.out.below HB.out) id wf).mono ?_; rintro e w2 ⟨rfl, rfl⟩))
  go_ret2
  exact ⟨v, rfl, by rw [HX.out]; exact HR.out, HN.out.trans HA.out, HB.out⟩

theorem Try.sorts (m : Nat) : AnyZI.SortsIn Try.prog Try.sorted31_ren Fence.wide m :=
  ⟨fun blk off cap ss W hH hblk hsz => callsIn_wide.2 (Try.slices_Sort_int blk off cap ss W hH hblk hsz),
   fun p cap W => callsIn_wide.2 (Try.slices_Sort_int_none p cap W)⟩

theorem keys_dat (E : List (Int × (Value × List Int))) : intKeys (dat (E.map fun p => (p.1, p.2.1))) = E.map (·.1) := by
  unfold dat intKeys
  simp only [List.map_map]
  exact List.map_congr_left (fun _ _ => rfl)

theorem keys_sorted {ss : List Int} {E : List (Int × (Value × List Int))} (hp : ss.Perm (E.map (·.1))) (hu : Up E) : ss.mergeSort (fun x y => decide (x ≤ y)) = E.map (·.1) := by
  rw [← L.isort_merge]
  refine List.Perm.eq_of_pairwise (le := (· ≤ ·)) (fun a b _ _ h1 h2 => Int.le_antisymm h1 h2) (L.isort_sorted ss) ?_ ((L.isort_perm ss).trans hp)
  rw [List.pairwise_map]
  exact hu.imp (fun h => Int.le_of_lt h)

set_option maxHeartbeats 1000000 in
set_option maxRecDepth 100000 in
theorem IDs_calls (h : St w g bm Rs E m) :
    Calls Try.prog 20 #[.pointer (some ⟨g, 0, none⟩)] w fun e w' => ∃ v, e = .returned v ∧ w'.ownsRow w.heap.size 3 1 v (E.map (·.1)).length ((E.map (·.1)).map (Value.int .i64)) ∧ Below w.heap.size w w' := by
  refine (callsIn_wide (n := 6)).1 ?_
  have hown := h.map'
  have hbl := hown.lt
  have hsz : Maps.size (dat (E.map fun p => (p.1, p.2.1))) ≤ 64 := by rw [dat_size, List.length_map]; exact h.few
  have hseq : SeqGives Fence.wide 2 Try.prog 39 #[.pointer (some ⟨w.heap.size, 0, none⟩)] encZ (fun ss => ss.Perm (intKeys (dat (E.map fun p => (p.1, p.2.1))))) (Maps.size (dat (E.map fun p => (p.1, p.2.1)))) (w.alloc (.cells #[.map (some bm)] 64)) :=
    AnyZI.keys_gives (ρ := Try.keys32_ren) { Try.keys32 with } Fence.wide _ trivial rfl (by omega) w.heap.size bm E.length _ _ (by simp) (by simp) (by
      obtain ⟨es, clock, hb, Ft, hs, hD⟩ := hown
      exact ⟨es, clock, (Below.heap_alloc _ _ bm hbl).trans hb, Ft, hs, hD⟩)
  have cK : ∀ mb W, CallsIn Fence.wide 5 Try.prog 32 #[.map mb] W fun e w' => e = .returned (.func (.func 39) #[] #[.pointer (some ⟨W.heap.size, 0, none⟩)]) ∧ w' = W.alloc (.cells #[.map mb] 64) := fun mb W => AnyZI.keys_in Try.keys32 Fence.wide 5 trivial rfl mb W
  have cS := AnyZI.sorted_in Try.sorted31 Fence.wide 5 trivial trivial trivial trivial rfl (by omega) (Try.sorts _) (enters_of Try.func38 (by kernel_rfl) rfl) 39 #[.pointer (some ⟨w.heap.size, 0, none⟩)] trivial (enters_of Try.func39 (by kernel_rfl) rfl) _ _ (by unfold maxLen; omega) (by omega) _ hseq
  change CallsIn _ _ Try.prog 31 _ _ _ at cS
  have hfK : Fence.wide.fn 32 := trivial
  have hfS : Fence.wide.fn 31 := trivial
  have c0 := h.cell0
  have H := Lib.hid h
  clear h hown hseq hsz
  refine callsIn_of_wp Try.func20 rfl trivial ?_ rfl
  simp only [Try.ntmps20, List.size_toArray, List.length_cons, List.length_nil, Nat.reduceAdd, Nat.reduceSub, Array.replicate_succ, Array.replicate_zero, List.push_toArray, List.append_toArray, List.nil_append, List.cons_append]
  gi_wp2_with (first
    | (gi_at_call 32; refine (cK _ _).mono ?_; rintro e w' ⟨rfl, rfl⟩)
    | (gi_at_call 31; refine cS.mono ?_; rintro e w' ⟨v, ss, rfl, hS, hrow, hnil, hb⟩))
  go_ret
  rw [keys_dat] at hS
  have e1 := keys_sorted hS H.out.up
  have e2 := hS.length_eq
  rw [e1] at hrow
  refine ⟨v, rfl, ?_, ((Below.refl _ w).alloc (Nat.le_refl _) _).trans (hb.mono (by simp))⟩
  rw [← e2]
  exact ownsRow_base_a hrow (by simp)
end
end Go.Proofs.Ytmjbmbhpfckagaa.A
