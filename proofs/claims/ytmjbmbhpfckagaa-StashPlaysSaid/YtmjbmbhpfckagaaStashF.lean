/- What the chapter's examples fix: first. -/
import Derived.Test.YtmjbmbhpfckagaaStashE
namespace Go.Proofs.Ytmjbmbhpfckagaa.A
open Go.RowKit Go.Maps Go.Sort Go.Shelf Go.Proofs.YtmjbmbhpfckagaaW.PrintWords Go.Proofs.Ytmjbmbhpfckagaa.B
set_option linter.unusedVariables false
set_option linter.unusedSimpArgs false

/-- A block's data. -/
def rowL (c : Int) : List Int := (List.replicate 37 0).set 0 c
theorem rowL_length (c : Int) : (rowL c).length = 37 := by simp [rowL]
theorem row_f (c : Int) : oublaw10_row.f c = some (rowL c) := by
  unfold oublaw10_row.f rowL
  rfl

/-- A row that is read, whose elements are there: where it lies. -/
theorem C_addr {w : World} {A : Option Addr} {xs : List Int} (h : Kd.C (Kd.int .u8) w A xs.length xs) (h0 : 0 < xs.length) : ∃ ad, A = some ad ∧ ∀ j, j < xs.length → w.cell? (ad.add j) = some (.int .u8 (xs.getD j 0)) := (Kd.reads_of_C (d := (0 : Int)) h).2.2 h0

theorem Row_calls (c : Int) (w : World) :
    Calls Try.prog 11 #[.int .u8 c] w fun e w' => ∃ a k, e = .returned (.slice (some ⟨a, 0, none⟩) (rowL c).length k) ∧ (rowL c).length ≤ k ∧ Kd.C (Kd.int .u8) w' (some ⟨a, 0, none⟩) (rowL c).length (rowL c) ∧ w.heap.size ≤ a ∧ Below w.heap.size w w' ∧ w'.ownsRow w.heap.size 5 1 (.slice (some ⟨a, 0, none⟩) (rowL c).length k) (rowL c).length ((rowL c).map (Value.int .u8)) := by
  refine (oublaw10_row.calls c (rowL c) w (row_f c)).mono ?_
  rintro e w' ⟨v, rfl, hR, hb⟩
  have ho := Kd.own_of_R hR
  rcases ho.2 with ⟨_, hn⟩ | ⟨g, cap, cur, rfl, hg, hh, h1, h2, h3, h4⟩
  · rw [rowL_length] at hn
    omega
  · have := Kd.R_reads' hR
    exact ⟨g, cap, rfl, h1, this.2.2, hg, hb, ho⟩

set_option maxHeartbeats 2000000 in
set_option maxRecDepth 100000 in
theorem first_calls (w : World) :
    Calls Try.prog 7 #[] w fun e w' => e = .returned (.bool true) ∧ Below w.heap.size w w' := by
  have M1 := Lib.hid (show mayF [] [(⟨3, rowL 1⟩ : S24)] = true by decide)
  have M2 := Lib.hid (show mayF [] [(⟨3, rowL 2⟩ : S24)] = true by decide)
  have M3 := Lib.hid (show mayF [] [(⟨3, []⟩ : S24)] = false by decide)
  have E1 := Lib.hid (show putP ([], 0) ⟨3, rowL 1⟩ = ([(3, rowL 1)], 1) by decide)
  have E2 := Lib.hid (show putP ([(3, rowL 1)], 1) ⟨3, rowL 2⟩ = ([(3, rowL 2)], 1) by decide)
  have G2 := Lib.hid (show getA 3 [((3 : Int), rowL 2)] = some (rowL 2) by decide)
  have HBc := Lib.hid (Below.refl w.heap.size w)
  go_enter Try.func7, Try.ntmps7
  go_wp2_with (first
    | (go_at_call 10; refine (New_calls none 0 [] _ (Kd.C_nil _ _) (Nat.le_refl _) (by simp)).mono ?_; rintro e w1 ⟨g, rfl, ho, hb⟩; have HO := Lib.hid (show OS w.heap.size w1.heap.size w1 g [] 0 from ho); replace HBc := Lib.hid hb; clear ho hb)
    | (go_at_call 11; refine (Row_calls _ _).mono ?_; rintro e w1 ⟨a, k, rfl, hx, hc, _, hb, _⟩; replace HO := Lib.hid (HO.out.below hb); replace HBc := Lib.hid (HBc.out.trans (hb.mono HBc.out.size)); have HX := Lib.hid hx; have HC := Lib.hid hc; clear hx hc hb)
    | (go_at_call 12; (first | refine (OS.Put HO.out HBc.out.size _ _ _ _ HX.out HC.out).mono ?_ | refine (OS.Put HO.out HBc.out.size 3 none [] 0 (Nat.le_refl _) (Kd.C_nil _ _)).mono ?_); rintro e w1 ⟨hr, ho, he⟩; (first | rw [M1.out] at hr | rw [M2.out] at hr | rw [M3.out] at hr); subst hr; (first | rw [E1.out] at ho | rw [E2.out] at ho | skip); replace HO := Lib.hid ho; replace HBc := Lib.hid (HBc.out.trans (Eff.low he HBc.out.size (fun k hk => hk.1))); clear ho he; try clear HX HC)
    | (go_at_call 13; refine (OS.Get HO.out 3 (by decide)).mono ?_; rintro e w1 ⟨v, rfl, hr, _, hb⟩; rw [G2.out] at hr ⊢; obtain ⟨a, o, c, rfl, hx, _, _, _, hc⟩ := row_of_own hr (by simp [rowL_length]); replace HO := Lib.hid (HO.out.below hb); replace HBc := Lib.hid (HBc.out.trans (hb.mono HBc.out.size)); obtain ⟨ad, e1, hcell⟩ := C_addr hc (by simp [rowL_length]); cases e1; have c0 : w1.cell? ⟨a, o, none⟩ = some (.int .u8 2) := (by have := hcell 0 (by simp [rowL_length]); simpa [Addr.add, rowL] using this); simp only [Option.getD_some, Option.isSome_some, rowL_length]; clear hr hx hc hb hcell)
    | (go_at_call 16; refine (OS.Len HO.out).mono ?_; rintro e w1 ⟨rfl, rfl⟩)
    | fail)
  go_ret
  exact ⟨rfl, HBc.out⟩
end Go.Proofs.Ytmjbmbhpfckagaa.A
