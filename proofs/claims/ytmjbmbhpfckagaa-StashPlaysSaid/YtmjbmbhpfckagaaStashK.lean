/- StashOwn, walked: the whole. -/
import Derived.Test.YtmjbmbhpfckagaaStashJ
namespace Go.Proofs.Ytmjbmbhpfckagaa.A
open Go.RowKit Go.Maps Go.Sort Go.Shelf Go.Proofs.YtmjbmbhpfckagaaW.PrintWords Go.Proofs.Ytmjbmbhpfckagaa.B
set_option linter.unusedVariables false
set_option linter.unusedSimpArgs false

theorem few9_l (l : List S24) : ∀ (n : Nat) (x3 x4 : Int), 0 ≤ x4 → x4 ≤ 200 → 200 - x4 ≤ n → ∃ r, oublaw9_Few.l0 (n + 1) l x3 x4 = some r
  | 0, x3, x4, h0, h1, h2 => by
    unfold oublaw9_Few.l0
    have : ¬ x4 < 200 := by omega
    simp only [this, if_false]
    split <;> split <;> exact ⟨_, rfl⟩
  | n + 1, x3, x4, h0, h1, h2 => by
    rw [oublaw9_Few.l0]
    by_cases h3 : x4 < (l.length : Int)
    · by_cases h4 : x4 < 200
      · rw [if_pos h3, if_pos h4, if_pos h0]
        have e : wrap64 (x4 + 1) = x4 + 1 := by unfold wrap64; omega
        rw [e]
        exact few9_l l n _ _ (by omega) (by omega) (by omega)
      · rw [if_pos h3, if_neg h4]
        split <;> exact ⟨_, rfl⟩
    · rw [if_neg h3]
      split <;> exact ⟨_, rfl⟩
theorem few9_total (l : List S24) : ∃ r, oublaw9_Few.f 201 l = some r := few9_l l 200 0 0 (by omega) (by omega) (by omega)

set_option maxHeartbeats 4000000 in
set_option maxRecDepth 100000 in
theorem StashOwn_calls (id c : Int) (bid : Int) (A : Option Addr) (xs : List Int) (bc : Nat) (w : World) (hx : xs.length ≤ bc) (hC : Kd.C (Kd.int .u8) w A xs.length xs) :
    Calls Try.prog 3 #[.int .i64 id, .int .u8 c, .agg #[.int .i64 bid, .slice A xs.length bc]] w fun e w' => e = .returned (.bool true) ∧ Below w.heap.size w w' := by
  by_cases h0 : id < 0
  · have HBc := Lib.hid (below_alloc1 (Below.refl w.heap.size w) (Nat.le_refl _) (.cells #[.int .i64 bid, .slice A xs.length bc] 24))
    have k0 : decide (id < 0) = true := decide_eq_true h0
    clear h0 hC
    go_enter Try.func3, Try.ntmps3
    go_wp2_with (first | (go_at_call 7; refine (first_calls _).mono ?_; rintro e w1 ⟨rfl, hb⟩; replace HBc := Lib.hid (HBc.out.trans (hb.mono HBc.out.size)); clear hb) | fail)
    go_ret
    exact ⟨rfl, HBc.out⟩
  · have k0 : decide (id < 0) = false := decide_eq_false h0
    by_cases h1 : id < 64
    · obtain ⟨r, hF⟩ := few9_total [⟨bid, xs⟩]
      cases hM : mayF [] [(⟨bid, xs⟩ : S24)] with
      | false =>
        cases r with
        | true => exact StashOwn_main id c (by omega) h1 bid A xs bc w hx hC hF hM
        | false =>
          have k1 : decide (64 ≤ id) = false := decide_eq_false (by omega)
          have HC := Lib.hid hC
          have HF := Lib.hid hF
          have HBc := Lib.hid (below_alloc1 (Below.refl w.heap.size w) (Nat.le_refl _) (.cells #[.int .i64 bid, .slice A xs.length bc] 24))
          have HT := Lib.hid (heap_top w (.cells #[.int .i64 bid, .slice A xs.length bc] 24 (0, 0)))
          clear h0 h1 hC hM hF
          go_enter Try.func3, Try.ntmps3
          go_wp2_with fail
          refine (first_calls _).mono ?_
          rintro e w1 ⟨rfl, hb⟩
          have HB1 := Lib.hid (HBc.out.trans (hb.mono HBc.out.size))
          have HT1 := Lib.hid (kept_at hb HT.out)
          have p0 : w1.cell? ⟨w.heap.size, 0, none⟩ = some (.int .i64 bid) := cell_at HT1.out 0 rfl
          have p1 : w1.cell? ⟨w.heap.size, 1, none⟩ = some (.slice A xs.length bc) := cell_at HT1.out 1 rfl
          clear hb
          go_wp2_with fail
          have HB2 := Lib.hid (below_alloc1 HB1.out HB1.out.size (.cells #[.int .i64 bid, .slice A xs.length bc] 24))
          have HT2 := Lib.hid (heap_top w1 (.cells #[.int .i64 bid, .slice A xs.length bc] 24 (0, 0)))
          refine (oublaw9_Few.calls 201 (some ⟨w1.heap.size, 0, none⟩) 1 [⟨bid, xs⟩] false _ (C_one hx (Kd.C_below HC.out HB2.out) (cell_at HT2.out 0 rfl) (cell_at HT2.out 1 rfl)) (Nat.le_refl _) HF.out).mono ?_
          rintro e w2 ⟨rfl, hb⟩
          have HB3 := Lib.hid (HB2.out.trans (hb.mono HB2.out.size))
          clear hb
          go_wp2_with fail
          refine (first_calls _).mono ?_
          rintro e w3 ⟨rfl, hb⟩
          have HB4 := Lib.hid (HB3.out.trans (hb.mono HB3.out.size))
          clear hb
          go_wp2_with fail
          go_ret
          exact ⟨rfl, HB4.out⟩
      | true =>
        have k1 : decide (64 ≤ id) = false := decide_eq_false (by omega)
        have HC := Lib.hid hC
        have HF := Lib.hid hF
        have HM := Lib.hid hM
        have HBc := Lib.hid (below_alloc1 (Below.refl w.heap.size w) (Nat.le_refl _) (.cells #[.int .i64 bid, .slice A xs.length bc] 24))
        have HT := Lib.hid (heap_top w (.cells #[.int .i64 bid, .slice A xs.length bc] 24 (0, 0)))
        clear h0 h1 hC hM hF
        go_enter Try.func3, Try.ntmps3
        go_wp2_with fail
        refine (first_calls _).mono ?_
        rintro e w1 ⟨rfl, hb⟩
        have HB1 := Lib.hid (HBc.out.trans (hb.mono HBc.out.size))
        have HT1 := Lib.hid (kept_at hb HT.out)
        have p0 : w1.cell? ⟨w.heap.size, 0, none⟩ = some (.int .i64 bid) := cell_at HT1.out 0 rfl
        have p1 : w1.cell? ⟨w.heap.size, 1, none⟩ = some (.slice A xs.length bc) := cell_at HT1.out 1 rfl
        clear hb
        go_wp2_with fail
        have HB2 := Lib.hid (below_alloc1 HB1.out HB1.out.size (.cells #[.int .i64 bid, .slice A xs.length bc] 24))
        have HT2 := Lib.hid (heap_top w1 (.cells #[.int .i64 bid, .slice A xs.length bc] 24 (0, 0)))
        refine (oublaw9_Few.calls 201 (some ⟨w1.heap.size, 0, none⟩) 1 [⟨bid, xs⟩] r _ (C_one hx (Kd.C_below HC.out HB2.out) (cell_at HT2.out 0 rfl) (cell_at HT2.out 1 rfl)) (Nat.le_refl _) HF.out).mono ?_
        rintro e w2 ⟨rfl, hb⟩
        have HB3 := Lib.hid (HB2.out.trans (hb.mono HB2.out.size))
        have HT3 := Lib.hid (kept_at hb (kept_at ((Below.refl w1.heap.size w1).alloc (Nat.le_refl _) (.cells #[.int .i64 bid, .slice A xs.length bc] 24)) HT1.out))
        clear hb p0 p1
        have p0 : w2.cell? ⟨w.heap.size, 0, none⟩ = some (.int .i64 bid) := cell_at HT3.out 0 rfl
        have p1 : w2.cell? ⟨w.heap.size, 1, none⟩ = some (.slice A xs.length bc) := cell_at HT3.out 1 rfl
        cases r with
        | false =>
          go_wp2_with fail
          refine (first_calls _).mono ?_
          rintro e w3 ⟨rfl, hb⟩
          have HB4 := Lib.hid (HB3.out.trans (hb.mono HB3.out.size))
          clear hb
          go_wp2_with fail
          go_ret
          exact ⟨rfl, HB4.out⟩
        | true =>
          go_wp2_with fail
          have HB4 := Lib.hid (below_alloc1 HB3.out HB3.out.size (.cells #[.int .i64 bid, .slice A xs.length bc] 24))
          have HM4 := May_calls (some ⟨w2.heap.size, 0, none⟩) 1 [⟨bid, xs⟩] _ (C_one hx (Kd.C_below HC.out HB4.out) (cell_at (heap_top w2 _) 0 rfl) (cell_at (heap_top w2 _) 1 rfl)) (Nat.le_refl _) (by simp)
          rw [HM.out] at HM4
          refine HM4.mono ?_
          clear HM4
          rintro e w3 ⟨rfl, hb⟩
          have HB5 := Lib.hid (HB4.out.trans (hb.mono HB4.out.size))
          clear hb p0 p1
          go_wp2_with fail
          refine (first_calls _).mono ?_
          rintro e w4 ⟨rfl, hb⟩
          have HB6 := Lib.hid (HB5.out.trans (hb.mono HB5.out.size))
          clear hb
          go_wp2_with fail
          go_ret
          exact ⟨rfl, HB6.out⟩
    · have HBc := Lib.hid (below_alloc1 (Below.refl w.heap.size w) (Nat.le_refl _) (.cells #[.int .i64 bid, .slice A xs.length bc] 24))
      have k1 : decide (64 ≤ id) = true := decide_eq_true (by omega)
      clear h0 h1 hC
      go_enter Try.func3, Try.ntmps3
      go_wp2_with (first | (go_at_call 7; refine (first_calls _).mono ?_; rintro e w1 ⟨rfl, hb⟩; replace HBc := Lib.hid (HBc.out.trans (hb.mono HBc.out.size)); clear hb) | fail)
      go_ret
      exact ⟨rfl, HBc.out⟩
end Go.Proofs.Ytmjbmbhpfckagaa.A
