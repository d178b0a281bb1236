/- The stash's Put, where it may be. -/
import Derived.Test.YtmjbmbhpfckagaaStashC
import Derived.Deep.DeepCutAuto
namespace Go.Proofs.Ytmjbmbhpfckagaa.A
open Go.RowKit Go.Maps Go.Sort Go.Shelf Go.Proofs.YtmjbmbhpfckagaaW.PrintWords Go.Proofs.Ytmjbmbhpfckagaa.B
set_option linter.unusedVariables false
set_option linter.unusedSimpArgs false

theorem heap_drew (w : World) : w.drew.heap = w.heap := rfl
theorem Below.drew' (w : World) : Below w.heap.size w w.drew := ⟨rfl, rfl, rfl, Nat.le_refl _, fun _ _ => rfl⟩

section
variable {w : World} {g bm : Nat} {Rs : Nat → Prop} {E : List (Int × (Value × List Int))} {m : Int}

/-- A block laid in the map. -/
theorem St.put (h : St w g bm Rs E m) {w1 w2 w3 : World} {id : Int} {v : Value} {xs : List Int} {n : Nat} (wf : 0 ≤ id ∧ id < 64) (hl : xs.length = 37) (hb : Below w.heap.size w w1) (hb2 : Below w1.heap.size w1 w2) (hr : w2.ownsRow w1.heap.size 5 1 v xs.length (xs.map (Value.int .u8))) (he : w2.mapTurned w3 bm) (hm : w3.ownsMap Try.prog 3 tok bm n ((dat (E.map fun p => (p.1, p.2.1))).put (.int .i64 id) (.held v))) :
    St w3 g bm (fun k => Rs k ∨ w.heap.size ≤ k ∧ k < w3.heap.size) (putA id (v, xs) E) m ∧ Eff w w3 (fun k => k = bm) := by
  have b2 : Below w.heap.size w w2 := hb.trans (hb2.mono hb.size)
  have h2 := h.below b2
  have e3 : Eff w2 w3 (fun k => k = bm) := Eff.turned he
  have sz := e3.kept.1
  obtain ⟨l1, l2, l3⟩ := h.lt
  have hs1 := hb.size
  refine ⟨⟨?_, ?_, up_putA _ _ h.up, fun p hp => ?_, fun p hp => ?_, fun p hp => ?_, ?_, fun k hk => ?_, h.wf⟩, (Eff.of_below b2).trans e3⟩
  · exact (e3.kept.2 g h2.lt.1 l3).trans h2.cells
  · refine ⟨n, ?_⟩
    rw [putA_map (fun q : Value × List Int => q.1), ← dat_put _ _ _ (by simpa [Up, List.pairwise_map] using h.up)]
    exact hm
  · rcases mem_putA hp with rfl | hp
    · exact wf
    · exact h.keys p hp
  · rcases mem_putA hp with rfl | hp
    · have hr2 := row_of_own hr (by omega)
      have hr3 := hr2.step (w1 := w3) sz (fun k hk hlt => e3.kept.2 k hlt (by omega))
      obtain ⟨a, o, c, h0, h1, h2, h3, h4, h5⟩ := hr3
      exact ⟨a, o, c, h0, h1, h2, .inr ⟨by omega, h4⟩, h4, h5⟩
    · exact ((h2.rows p hp).step sz (fun k hk hlt => e3.kept.2 k hlt (fun e => h.apart.2 (e ▸ hk)))).mono (fun k hk => .inl hk)
  · rcases mem_putA hp with rfl | hp
    · exact hl
    · exact h.len p hp
  · have := h.apart
    exact ⟨fun hk => by rcases hk with hk | hk; exact this.1 hk; omega, fun hk => by rcases hk with hk | hk; exact this.2 hk; omega⟩
  · rcases hk with hk | hk
    · have := h.low k hk
      have := b2.size
      omega
    · exact hk.2

theorem St.most (h : St w g bm Rs E m) {m' : Int} (hm : 0 ≤ m' ∧ m' ≤ 64) : St (w.setCell ⟨g, 1, none⟩ (.int .i64 m')) g bm Rs E m' := by
  have hs : ∀ k, k ≠ g → (w.setCell ⟨g, 1, none⟩ (.int .i64 m')).heap[k]? = w.heap[k]? := fun k hk => Below.heap_setCell w _ _ k hk
  refine ⟨?_, ?_, h.up, h.keys, fun p hp => (h.rows p hp).step (by simp [World.setCell]) (fun k hk _ => hs k (fun e => h.apart.1 (e ▸ hk))), h.len, h.apart, fun k hk => by simpa [World.setCell] using h.low k hk, hm⟩
  · have := h.cells
    simp [World.setCell, Array.getElem?_modify, this]
  · obtain ⟨n, es, clock, h1, h2⟩ := h.map
    exact ⟨n, es, clock, (hs bm (Ne.symm h.lt.2.2)).trans h1, h2⟩

set_option maxHeartbeats 4000000 in
set_option maxRecDepth 100000 in
theorem Put_yes (h : St w g bm Rs E m) (id : Int) (A : Option Addr) (xs : List Int) (c : Nat) (hx : xs.length ≤ c) (hC : Kd.C (Kd.int .u8) w A xs.length xs) (h0 : 0 ≤ id) (h1 : id < 64) (hl : xs.length = 37) :
    Calls Try.prog 12 #[.pointer (some ⟨g, 0, none⟩), .agg #[.int .i64 id, .slice A xs.length c]] w fun e w' => e = .returned (.bool true) ∧ (∃ v Rs', St w' g bm Rs' (putA id (v, xs) E) (max m (putA id (v, xs) E).length) ∧ ∀ k, Rs' k → Rs k ∨ w.heap.size ≤ k) ∧ Eff w w' (fun k => k = g ∨ k = bm) := by
  have B2 : Below w.heap.size w ((w.alloc (.cells #[.int .i64 id, .slice A xs.length c] 24)).alloc (.cells #[.int .i64 id, .slice A xs.length c] 24)) := ((Below.refl _ w).alloc (Nat.le_refl _) _).alloc (by simp) _
  have HM := Lib.hid (May_calls (some ⟨w.heap.size + 1, 0, none⟩) 1 [⟨id, xs⟩] _ (C_one hx (Kd.C_below hC B2) (by have := cells_top (w := w.alloc (.cells #[.int .i64 id, .slice A xs.length c] 24)) (t := 24) (cs := #[.int .i64 id, .slice A xs.length c]) 0 rfl; first | (simp; done) | simpa using this) (by have := cells_top (w := w.alloc (.cells #[.int .i64 id, .slice A xs.length c] 24)) (t := 24) (cs := #[.int .i64 id, .slice A xs.length c]) 1 rfl; first | (simp; done) | simpa using this)) (by simp) (by simp))
  rw [show mayF [] [(⟨id, xs⟩ : S24)] = true by simp [mayF, hl]; omega] at HM
  have HB := Lib.hid B2
  have top : ((w.alloc (.cells #[.int .i64 id, .slice A xs.length c] 24)).alloc (.cells #[.int .i64 id, .slice A xs.length c] 24)).heap[w.heap.size]? = some (.cells #[.int .i64 id, .slice A xs.length c] 24 (0, 0)) := (Below.heap_alloc _ _ _ (by simp)).trans (heap_top w _)
  have HT := Lib.hid top
  have HC := Lib.hid hC
  have H := Lib.hid h
  have hw : (Lit.int .i64 id).wf = true := by simp [Lit.wf, IntKind.min, IntKind.max, IntKind.bits, IntKind.signed]; omega
  have hk := Lib.hid (key_of hw)
  have HL := Lib.hid hl
  clear hC B2 top h hl hw
  go_enter Try.func12, Try.ntmps12
  go_upto_region 3 with (first | (go_at_call 9; refine HM.out.mono ?_; rintro e w1 ⟨rfl, hb⟩; have HB1 := Lib.hid (HB.out.trans (hb.mono HB.out.size)); have HT1 := Lib.hid ((hb.block w.heap.size (by simp; try omega)).trans HT.out); clear hb) | fail)
  have B1 : Below w.heap.size w w1.drew := HB1.out.trans ((Below.drew' w1).mono HB1.out.size)
  have T1 : w1.drew.heap[w.heap.size]? = _ := HT1.out
  have q0 : w1.drew.cell? ⟨w.heap.size, 0, none⟩ = some (.int .i64 id) := (by simp [World.cell?, T1])
  have q1 : w1.drew.cell? ⟨w.heap.size, 1, none⟩ = some (.slice A xs.length c) := (by simp [World.cell?, T1])
  have q2 := (H.out.below B1).cell0
  have szT := (Array.getElem?_eq_some_iff.1 T1).1
  have HBd := Lib.hid B1
  have HTd := Lib.hid T1
  have HCd := Lib.hid (Kd.C_below HC.out B1)
  clear B1 T1
  go_cut [] (fun wx => (∃ v Rs', St wx g bm Rs' (putA id (v, xs) E) m ∧ ∀ k, Rs' k → Rs k ∨ w.heap.size ≤ k) ∧ Eff w wx (fun k => k = bm))
  case first =>
    go_region_with (first | (go_at_call 30; refine (Clone_calls A c xs _ HCd.out (by have := HL.out; omega)).mono ?_; rintro e w2 ⟨v, rfl, hr, hn, hbl⟩; have T2 := (hbl.block _ szT).trans HTd.out; have p0 : w2.cell? ⟨w.heap.size, 0, none⟩ = some (.int .i64 id) := (by simp [World.cell?, T2]); have p1 : w2.cell? ⟨w.heap.size, 1, none⟩ = some (.slice A xs.length c) := (by simp [World.cell?, T2]); have b2 := HBd.out.trans (hbl.mono HBd.out.size); have p2 := (H.out.below b2).cell0; obtain ⟨w3, hrun, hown3, hturn⟩ := (H.out.below b2).map'.store keyed Try.underlying64 (by have := H.out.few; unfold maxLen; omega) hk.out (tok_mk v); have HP := Lib.hid (St.put H.out ⟨h0, h1⟩ HL.out HBd.out hbl hr hturn hown3); clear T2 hr hn hbl b2 hown3 hturn) | fail)
    all_goals (go_wp2_with fail; go_meet)
    all_goals exact ⟨⟨_, _, HP.out.1, fun k hk => by rcases hk with hk | hk; exact .inl hk; exact .inr hk.1⟩, HP.out.2⟩
  case rest =>
    go_upto_region 4 with fail
    obtain ⟨⟨v, Rs', hSt, hRs⟩, hEff⟩ := hcut
    have S1 : St wc.drew g bm Rs' (putA id (v, xs) E) m := hSt.below (Below.drew' wc)
    have r0 := S1.cell1
    have r1 := S1.frozen1
    have HL2 := Lib.hid (Len_calls S1)
    have HS := Lib.hid S1
    have HR := Lib.hid hRs
    have HE := Lib.hid (hEff.then_below (Below.drew' wc))
    have hn := S1.few
    clear hSt hRs hEff S1
    go_cut [] (fun wx => wx = (wc.drew).setCell ⟨g, 1, none⟩ (.int .i64 (max m (putA id (v, xs) E).length)))
    case first =>
      go_region_with (first | (go_at_call 16; refine (HL2.out).mono ?_; rintro e w2 ⟨rfl, rfl⟩) | fail)
      all_goals (go_wp2_with fail; go_meet)
      all_goals rfl
    case rest =>
      subst hcut
      go_wp2
      go_ret
      refine ⟨rfl, ⟨v, Rs', HS.out.most (by have := HS.out.wf; omega), HR.out⟩, (HE.out.mono (fun k hk => .inr hk)).setCell (p := ⟨g, 1, none⟩) (.inl (.inl rfl)) _⟩
end
end Go.Proofs.Ytmjbmbhpfckagaa.A
