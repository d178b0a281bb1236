/- Part of the proof of LawCkptWrites. -/
import Derived.Test.YtmbnomlkhmcmaaaGreatZ0
import Derived.Test.YtmbnomlkhmcmaaaGreatZ4
import Derived.Test.YtmbnomlkhmcmaaaGreatZ8
import Derived.Deep.AppendSrc
section
namespace Go.Proofs.YtmbnomlkhmcmaaaGreat.D
open Go.RowKit Go.Proofs.YtmbnomlkhmcmaaaGreat.G Go.Proofs.YtmbnomlkhmcmaaaGreat.C Go.Proofs.YtmbnomlkhmcmaaaGreatW.PrintWords Go.Proofs.YtmbnomlkhmcmaaaGreatW.PrintLast Go.Proofs.YtmbnomlkhmcmaaaGreatW.PrintMore
attribute [local go_sem] max2_int min2_int max_two min_two max_three min_three max_four min_four
set_option linter.unusedVariables false
set_option linter.unusedSimpArgs false
def oubref2_most.f (a0 : Int) : Option (Int) := if 0 ≤ (IntKind.u64.wrap (wrap64 (8 * a0))) then (some (wrap64 ((shl .i64 1 (IntKind.u64.wrap (wrap64 (8 * a0)))) - 1))) else (none)
set_option maxHeartbeats 8000000 in
set_option maxRecDepth 100000 in
theorem oubref2_most.calls (a0 : Int) (r : Int) (w : World) (h : oubref2_most.f a0 = some r) :
  Calls Tryz.prog 186 #[.int .i64 a0] w fun e w' => e = .returned (.int .i64 r) ∧ Drawn0 w w' := by
 have H : (if 0 ≤ (IntKind.u64.wrap (wrap64 (8 * a0))) then (some (wrap64 ((shl .i64 1 (IntKind.u64.wrap (wrap64 (8 * a0)))) - 1))) else (none)) = some r := h
 clear h
 obtain ⟨ji2, hji2⟩ : ∃ j_ : Int, (IntKind.u64.wrap (wrap64 (8 * a0))) = j_ := ⟨_, rfl⟩
 replace H : (if 0 ≤ (ji2) then (some (wrap64 ((shl .i64 1 (ji2)) - 1))) else (none)) = some r := by first | (rw [hji2] at H; exact H) | (simp only [hji2] at H ⊢; exact H)
 by_cases c3 : 0 ≤ (ji2)
 ·rw [if_pos c3] at H
  have c3b0 := eq_true c3
  have c3b1 : decide (0 ≤ (ji2)) = true := decide_eq_true c3
  clear c3
  obtain ⟨ji4, hji4⟩ : ∃ j_ : Int, (shl .i64 1 (ji2)) = j_ := ⟨_, rfl⟩
  replace H : (some (wrap64 ((ji4) - 1))) = some r := by first | (rw [hji4] at H; exact H) | (simp only [hji4] at H ⊢; exact H)
  have hji4_ : (IntKind.i64.wrap (1 * 2 ^ min (ji2).toNat 64)) = ji4 := hji4
  have hji4z : (ji2) ≤ 64 → (IntKind.i64.wrap (1 * 2 ^ (ji2).toNat)) = ji4 := shl_small hji4
  have hji4u : (IntKind.i64.wrap (2 ^ min (ji2).toNat 64)) = ji4 := by have h_ := hji4_; rw [Int.one_mul] at h_; exact h_
  have hji4v : (ji2) ≤ 64 → (IntKind.i64.wrap (2 ^ (ji2).toNat)) = ji4 := fun hle_ => by have h_ := hji4z hle_; rw [Int.one_mul] at h_; exact h_
  have hji4y : (wrap64 (1 * 2 ^ min (ji2).toNat 64)) = ji4 := (i64_w _).symm.trans hji4_
  have hji4x : (ji2) ≤ 64 → (wrap64 (1 * 2 ^ (ji2).toNat)) = ji4 := fun h_ => (i64_w _).symm.trans (hji4z h_)
  obtain rfl := Option.some.inj H
  go_enter Tryz.func186, Tryz.ntmps186
  go_wp2
  go_ret
  exact ⟨by first | rfl | (simp; done) | (simp only [← hji2, ← hji4] <;> (first | rfl | simp)) | (simp [*]; done), by repeat (first | exact Drawn0.refl _ | apply Drawn0.step)⟩
 ·rw [if_neg c3] at H
  exact absurd H (by simp)
mutual
def oubref2_Put.j0 : Nat → List Int → Int → Int → Bool → Option (List Int × Bool)
 | 0, _, _, _, _ => none
 | k + 1, x0, x1, x2, x25 => if x25 = true then (some (x0, false)) else (if x2 = (-1) then ((oubref2_most.f x1).bind fun t102 => (oubref2_Put.j1 k x0 x1 t102)) else (oubref2_Put.j1 k x0 x1 x2))
def oubref2_Put.j1 : Nat → List Int → Int → Int → Option (List Int × Bool)
 | 0, _, _, _ => none
 | k + 1, x0, x1, x2 => oubref2_Put.l0 k x0 x2 (wrap64 (x1 - 1))
def oubref2_Put.l0 : Nat → List Int → Int → Int → Option (List Int × Bool)
 | 0, _, _, _ => none
 | k + 1, x0, x2, x8 => if x8 ≥ 0 then (if 0 ≤ (IntKind.u64.wrap (wrap64 (8 * x8))) then (if x0.length < 140737488355328 then (oubref2_Put.l0 k (x0 ++ [(shr .i64 x2 (IntKind.u64.wrap (wrap64 (8 * x8)))) % 256]) x2 (wrap64 (x8 - 1))) else (none)) else (none)) else (some (x0, true))
end
def oubref2_Put.f (k : Nat) (l0 : List Int) (a1 : Int) (a2 : Int) : Option (List Int × Bool) := if a1 < 1 then (oubref2_Put.j0 k l0 a1 a2 true) else (if a1 > 7 then (oubref2_Put.j0 k l0 a1 a2 true) else (if a2 < (-1) then (oubref2_Put.j0 k l0 a1 a2 true) else ((oubref2_most.f a1).bind fun t101 => (oubref2_Put.j0 k l0 a1 a2 (decide (a2 > (wrap64 (t101 - 1))))))))
theorem oubref2_Put.mono_l : ∀ k, (∀ y0 y1 y2 y3, LeO (oubref2_Put.j0 k y0 y1 y2 y3) (oubref2_Put.j0 (k + 1) y0 y1 y2 y3)) ∧ (∀ y0 y1 y2, LeO (oubref2_Put.j1 k y0 y1 y2) (oubref2_Put.j1 (k + 1) y0 y1 y2)) ∧ (∀ y0 y1 y2, LeO (oubref2_Put.l0 k y0 y1 y2) (oubref2_Put.l0 (k + 1) y0 y1 y2))
 | 0 => ⟨fun _ _ _ _ r h => by simp [oubref2_Put.j0] at h, fun _ _ _ r h => by simp [oubref2_Put.j1] at h, fun _ _ _ r h => by simp [oubref2_Put.l0] at h⟩
 | k + 1 => by
  obtain ⟨ih0, ih1, ih2⟩ := oubref2_Put.mono_l k
  refine ⟨?_, ?_, ?_⟩
  ·intro y0 y1 y2 y3
   unfold oubref2_Put.j0
   repeat' first
   | (with_reducible exact ih0 _ _ _ _)
   | (with_reducible exact ih1 _ _ _)
   | (with_reducible exact ih2 _ _ _)
   | (with_reducible exact LeO.refl _)
   | (with_reducible exact LeO.none _)
   | (with_reducible refine LeO.ite ?_ ?_)
   | (with_reducible refine LeO.bind ?_ (fun _ => ?_))
   | exact ih0 _ _ _ _
   | exact ih1 _ _ _
   | exact ih2 _ _ _
   | exact LeO.none _
   | refine LeO.ite ?_ ?_
   | refine LeO.bind ?_ (fun _ => ?_)
  ·intro y0 y1 y2
   unfold oubref2_Put.j1
   repeat' first
   | (with_reducible exact ih0 _ _ _ _)
   | (with_reducible exact ih1 _ _ _)
   | (with_reducible exact ih2 _ _ _)
   | (with_reducible exact LeO.refl _)
   | (with_reducible exact LeO.none _)
   | (with_reducible refine LeO.ite ?_ ?_)
   | (with_reducible refine LeO.bind ?_ (fun _ => ?_))
   | exact ih0 _ _ _ _
   | exact ih1 _ _ _
   | exact ih2 _ _ _
   | exact LeO.none _
   | refine LeO.ite ?_ ?_
   | refine LeO.bind ?_ (fun _ => ?_)
  ·intro y0 y1 y2
   unfold oubref2_Put.l0
   repeat' first
   | (with_reducible exact ih0 _ _ _ _)
   | (with_reducible exact ih1 _ _ _)
   | (with_reducible exact ih2 _ _ _)
   | (with_reducible exact LeO.refl _)
   | (with_reducible exact LeO.none _)
   | (with_reducible refine LeO.ite ?_ ?_)
   | (with_reducible refine LeO.bind ?_ (fun _ => ?_))
   | exact ih0 _ _ _ _
   | exact ih1 _ _ _
   | exact ih2 _ _ _
   | exact LeO.none _
   | refine LeO.ite ?_ ?_
   | refine LeO.bind ?_ (fun _ => ?_)
theorem oubref2_Put.mono : ∀ a0 a1 a2 k, LeO (oubref2_Put.f k a0 a1 a2) (oubref2_Put.f (k + 1) a0 a1 a2) := by
 intro a0 a1 a2 k
 obtain ⟨ih0, ih1, ih2⟩ := oubref2_Put.mono_l k
 unfold oubref2_Put.f
 repeat' first
   | (with_reducible exact ih0 _ _ _ _)
   | (with_reducible exact ih1 _ _ _)
   | (with_reducible exact ih2 _ _ _)
   | (with_reducible exact LeO.refl _)
   | (with_reducible exact LeO.none _)
   | (with_reducible refine LeO.ite ?_ ?_)
   | (with_reducible refine LeO.bind ?_ (fun _ => ?_))
   | exact ih0 _ _ _ _
   | exact ih1 _ _ _
   | exact ih2 _ _ _
   | exact LeO.none _
   | refine LeO.ite ?_ ?_
   | refine LeO.bind ?_ (fun _ => ?_)
set_option maxHeartbeats 8000000 in
set_option maxRecDepth 100000 in
theorem oubref2_Put.calls (k : Nat) (P0_ : Nat → Prop) (u9000_ : Value) (l0 : List Int) (a1 : Int) (a2 : Int) (r1 : List Int) (r2 : Bool) (w0 w : World) (hB : Below w0.heap.size w0 w) (ho0 : Kd.R (Kd.int .u8) 5 w w0.heap.size P0_ u9000_ l0) (h : oubref2_Put.f k l0 a1 a2 = some (r1, r2)) :
  Calls Tryz.prog 140 #[u9000_, .int .i64 a1, .int .i64 a2] w fun e w' => ∃ v0_ : Value, e = .returned (.tuple #[v0_, .bool r2]) ∧ Kd.R (Kd.int .u8) 5 w' w0.heap.size (fun k_ => (P0_ k_ ∨ w.heap.size ≤ k_)) v0_ r1 ∧ Below w0.heap.size w0 w' ∧ Kept w w' (fun k_ => P0_ k_) := by
 have HO0 := Aside0.mk (show Kd.R (Kd.int .u8) 5 w w0.heap.size (fun k_ => (P0_ k_ ∨ w.heap.size ≤ k_)) u9000_ l0 from Kd.R_mono ho0 (fun k_ hk => (.inl hk)))
 have HK := Aside0.mk (Kept.refl w (fun k_ => P0_ k_))
 have HW0 := Aside0.mk hB.size
 have HB := Aside0.mk hB
 clear hB
 have H : (if a1 < 1 then (oubref2_Put.j0 k l0 a1 a2 true) else (if a1 > 7 then (oubref2_Put.j0 k l0 a1 a2 true) else (if a2 < (-1) then (oubref2_Put.j0 k l0 a1 a2 true) else ((oubref2_most.f a1).bind fun t101 => (oubref2_Put.j0 k l0 a1 a2 (decide (a2 > (wrap64 (t101 - 1))))))))) = some (r1, r2) := h
 clear h
 have HC4 := Aside0.mk H
 clear H
 go_enter Tryz.func140, Tryz.ntmps140
 go_upto_region 1 with (fail)
 go_cut [25] (fun v25 wc => ∃ (kq : Nat) (x25_3 : Bool), v25 = .bool x25_3 ∧ Aside0 (oubref2_Put.j0 kq l0 a1 a2 x25_3 = some (r1, r2)) ∧ Aside0 (kq ≤ k) ∧ Aside0 (Kd.R (Kd.int .u8) 5 wc w0.heap.size (fun k_ => (P0_ k_ ∨ w.heap.size ≤ k_)) u9000_ l0) ∧ Aside0 (Kept w wc (fun k_ => P0_ k_)) ∧ Aside0 (Below w0.heap.size w0 wc))
 case first =>
  have H := HC4.out
  clear HC4
  by_cases c5 : a1 < 1
  ·rw [if_pos c5] at H
   have c5b0 : decide (a1 < 1) = true := decide_eq_true c5
   clear c5
   (first | rw [c5b0] | (simp only [i64_w, i32_w]; rw [c5b0]) | skip)
   have H' := Aside0.mk H
   clear H
   go_wp2
   go_meet
   case rel => exact ⟨_, (true), (by first | rfl | (simp; done) | (simp [*]; done)), H', ⟨by first | omega | exact Nat.le_refl _⟩, ⟨by (with_reducible repeat (first | apply Kd.R_alloc | apply Kd.R_drewN | apply Kd.R_drew)); exact HO0.out⟩, ⟨by repeat (first | (with_reducible first | exact HK.out | apply Kept.alloc | apply Kept.drewN | apply Kept.drew) | exact HK.out)⟩, ⟨by repeat (first | (with_reducible first | exact HB.out | apply below_alloc | apply pw_below_drewN | apply below_drew1) | exact HB.out)⟩⟩
  ·rw [if_neg c5] at H
   have c5b0 : decide (a1 < 1) = false := decide_eq_false c5
   clear c5
   (first | rw [c5b0] | (simp only [i64_w, i32_w]; rw [c5b0]) | skip)
   by_cases c6 : a1 > 7
   ·rw [if_pos c6] at H
    have c6b0 : decide (7 < a1) = true := decide_eq_true c6
    clear c6
    have H' := Aside0.mk H
    clear H
    go_wp2
    go_meet
    case rel => exact ⟨_, (true), (by first | rfl | (simp; done) | (simp [*]; done)), H', ⟨by first | omega | exact Nat.le_refl _⟩, ⟨by (with_reducible repeat (first | apply Kd.R_alloc | apply Kd.R_drewN | apply Kd.R_drew)); exact HO0.out⟩, ⟨by repeat (first | (with_reducible first | exact HK.out | apply Kept.alloc | apply Kept.drewN | apply Kept.drew) | exact HK.out)⟩, ⟨by repeat (first | (with_reducible first | exact HB.out | apply below_alloc | apply pw_below_drewN | apply below_drew1) | exact HB.out)⟩⟩
   ·rw [if_neg c6] at H
    have c6b0 : decide (7 < a1) = false := decide_eq_false c6
    clear c6
    by_cases c7 : a2 < (-1)
    ·rw [if_pos c7] at H
     have c7b0 : decide (a2 < (-1)) = true := decide_eq_true c7
     clear c7
     have H' := Aside0.mk H
     clear H
     go_wp2
     go_meet
     case rel => exact ⟨_, (true), (by first | rfl | (simp; done) | (simp [*]; done)), H', ⟨by first | omega | exact Nat.le_refl _⟩, ⟨by (with_reducible repeat (first | apply Kd.R_alloc | apply Kd.R_drewN | apply Kd.R_drew)); exact HO0.out⟩, ⟨by repeat (first | (with_reducible first | exact HK.out | apply Kept.alloc | apply Kept.drewN | apply Kept.drew) | exact HK.out)⟩, ⟨by repeat (first | (with_reducible first | exact HB.out | apply below_alloc | apply pw_below_drewN | apply below_drew1) | exact HB.out)⟩⟩
    ·rw [if_neg c7] at H
     have c7b0 : decide (a2 < (-1)) = false := decide_eq_false c7
     clear c7
     replace H := Option.bind_eq_some_iff.mp H
     obtain ⟨t101, A80, H⟩ := H
     replace H : (oubref2_Put.j0 k l0 a1 a2 (decide (a2 > (wrap64 (t101 - 1))))) = some (r1, r2) := H
     have A8 := Aside0.mk A80
     clear A80
     have H' := Aside0.mk H
     clear H
     go_wp2_with (first | (go_at_call 186; (with_reducible refine (oubref2_most.calls a1 t101 _ A8.out).mono ?_); rintro e w' ⟨rfl, ⟨nd, rfl⟩⟩))
     go_meet
     case rel => exact ⟨_, (decide (a2 > (wrap64 (t101 - 1)))), (by first | rfl | (simp; done) | (simp [*]; done)), H', ⟨by first | omega | exact Nat.le_refl _⟩, ⟨by (with_reducible repeat (first | apply Kd.R_alloc | apply Kd.R_drewN | apply Kd.R_drew)); exact HO0.out⟩, ⟨by repeat (first | (with_reducible first | exact HK.out | apply Kept.alloc | apply Kept.drewN | apply Kept.drew) | exact HK.out)⟩, ⟨by repeat (first | (with_reducible first | exact HB.out | apply below_alloc | apply pw_below_drewN | apply below_drew1) | exact HB.out)⟩⟩
 case rest =>
  clear HC4
  try clear c1
  try clear p2
  try clear c5
  try clear c5b0
  try clear c6
  try clear c6b0
  try clear p6
  try clear c7
  try clear c7b0
  obtain ⟨kq, x25_3, rfl, HA, HJ3, HO_0, HK, HB⟩ := hcut
  cases kq with
  | zero => exact absurd HA.out (by simp [oubref2_Put.j0])
  | succ kj3 =>
   have H := HA.out
   clear HA
   simp only [oubref2_Put.j0] at H
   by_cases c9 : x25_3 = true
   ·subst c9
    have H1 : (some (l0, false)) = some (r1, r2) := by rw [if_pos rfl] at H; exact H
    clear H
    have H := H1
    clear H1
    simp only [Option.some.injEq, Prod.mk.injEq] at H
    obtain ⟨rfl, rfl⟩ := H
    go_wp2
    go_ret2
    exact ⟨_, by first | rfl | (simp [errW_none, errW_some] <;> rfl) | (simp [*, errW_none, errW_some] <;> rfl), by (with_reducible repeat (first | apply Kd.R_alloc | apply Kd.R_drewN | apply Kd.R_drew)); exact HO_0.out, by repeat (first | (with_reducible first | exact HB.out | apply below_alloc | apply pw_below_drewN | apply below_drew1) | exact HB.out), by repeat (first | (with_reducible first | exact HK.out | apply Kept.alloc | apply Kept.drewN | apply Kept.drew) | exact HK.out)⟩
   ·replace c9 := Bool.eq_false_iff.mpr c9
    subst c9
    have H1 : (if a2 = (-1) then ((oubref2_most.f a1).bind fun t102 => (oubref2_Put.j1 kj3 l0 a1 t102)) else (oubref2_Put.j1 kj3 l0 a1 a2)) = some (r1, r2) := by rw [if_neg (show ¬ (false = true) by decide)] at H; exact H
    clear H
    have H := H1
    clear H1
    have HC10 := Aside0.mk H
    clear H
    go_upto_if 28 with (fail)
    go_cut [2] (fun v2 wc => ∃ (kq : Nat) (x2_9 : Int), v2 = .int .i64 x2_9 ∧ Aside0 (oubref2_Put.j1 kq l0 a1 x2_9 = some (r1, r2)) ∧ Aside0 (kq ≤ kj3) ∧ Aside0 (Kd.R (Kd.int .u8) 5 wc w0.heap.size (fun k_ => (P0_ k_ ∨ w.heap.size ≤ k_)) u9000_ l0) ∧ Aside0 (Kept w wc (fun k_ => P0_ k_)) ∧ Aside0 (Below w0.heap.size w0 wc))
    case first =>
     have H := HC10.out
     clear HC10
     by_cases c11 : a2 = (-1)
     ·rw [if_pos c11] at H
      have c11b0 : (a2 == (-1)) = true := beq_iff_eq.mpr c11
      have c11b1 : (a2 != (-1)) = false := bne_eq_false_iff_eq.mpr c11
      clear c11
      (first | rw [c11b0] | (simp only [i64_w, i32_w]; rw [c11b0]) | skip)
      replace H := Option.bind_eq_some_iff.mp H
      obtain ⟨t102, A120, H⟩ := H
      replace H : (oubref2_Put.j1 kj3 l0 a1 t102) = some (r1, r2) := H
      have A12 := Aside0.mk A120
      clear A120
      have H' := Aside0.mk H
      clear H
      go_wp2_with (first | ((with_reducible refine gate_callee (f := 186) rfl ?_); refine goesL_ (some 30) rfl rfl Tryz.func186 (by kernel_rfl) rfl #[.int .i64 a1] rfl (by (try simp only [List.map_toArray, List.map_cons, List.map_nil]); first | done | rfl | (simp only [List.length_drop, List.length_take]; rfl)) ?_; (with_reducible refine (oubref2_most.calls a1 t102 _ A12.out).mono ?_); rintro e w' ⟨rfl, ⟨nd, rfl⟩⟩; refine ⟨_, rfl, ?_⟩))
      go_meet
      case rel => exact ⟨_, (t102), (by first | rfl | (simp; done) | (simp [*]; done)), H', ⟨by have := HJ3.out; first | omega | exact Nat.le_refl _⟩, ⟨by (with_reducible repeat (first | apply Kd.R_alloc | apply Kd.R_drewN | apply Kd.R_drew)); exact HO_0.out⟩, ⟨by repeat (first | (with_reducible first | exact HK.out | apply Kept.alloc | apply Kept.drewN | apply Kept.drew) | exact HK.out)⟩, ⟨by repeat (first | (with_reducible first | exact HB.out | apply below_alloc | apply pw_below_drewN | apply below_drew1) | exact HB.out)⟩⟩
     ·rw [if_neg c11] at H
      have c11b0 : (a2 == (-1)) = false := beq_eq_false_iff_ne.mpr c11
      have c11b1 : (a2 != (-1)) = true := bne_iff_ne.mpr c11
      (first | rw [c11b0] | (simp only [i64_w, i32_w]; rw [c11b0]) | skip)
      have H' := Aside0.mk H
      clear H
      go_wp2
      go_meet
      case rel => exact ⟨_, (a2), (by first | rfl | (simp; done) | (simp [*]; done)), H', ⟨by have := HJ3.out; first | omega | exact Nat.le_refl _⟩, ⟨by (with_reducible repeat (first | apply Kd.R_alloc | apply Kd.R_drewN | apply Kd.R_drew)); exact HO_0.out⟩, ⟨by repeat (first | (with_reducible first | exact HK.out | apply Kept.alloc | apply Kept.drewN | apply Kept.drew) | exact HK.out)⟩, ⟨by repeat (first | (with_reducible first | exact HB.out | apply below_alloc | apply pw_below_drewN | apply below_drew1) | exact HB.out)⟩⟩
    case rest =>
     clear HC10
     try clear c1
     try clear p2
     try clear c5
     try clear c5b0
     try clear c6
     try clear c6b0
     try clear p6
     try clear c7
     try clear c7b0
     try clear c9
     try clear c11
     try clear c11b0
     try clear c11b1
     try clear p2
     try clear p6
     obtain ⟨kq, x2_9, rfl, HA, HJ9, HO_0, HK, HB⟩ := hcut
     cases kq with
     | zero => exact absurd HA.out (by simp [oubref2_Put.j1])
     | succ kj9 =>
      have H := HA.out
      clear HA
      simp only [oubref2_Put.j1] at H
      have H' := Aside0.mk H
      clear H
      go_wp2
      go_loopg [0, 8] kj9 (fun kq v0 v8 w' => ∃ (x0_3 : List Int) (x8_3 : Int), v8 = .int .i64 x8_3 ∧ Aside0 (oubref2_Put.l0 kq x0_3 x2_9 x8_3 = some (r1, r2)) ∧ Aside0 (kq ≤ kj9) ∧ Aside0 (Kd.R (Kd.int .u8) 5 w' w0.heap.size (fun k_ => (P0_ k_ ∨ w.heap.size ≤ k_)) v0 x0_3) ∧ Aside0 (Kept w w' (fun k_ => P0_ k_)) ∧ Aside0 (Below w0.heap.size w0 w'))
      case atStart => exact ⟨(l0), (wrap64 (a1 - 1)), (by first | rfl | (simp; done) | (simp [*]; done)), H', ⟨Nat.le_refl _⟩, ⟨by (with_reducible repeat (first | apply Kd.R_alloc | apply Kd.R_drewN | apply Kd.R_drew)); exact HO_0.out⟩, ⟨by repeat (first | (with_reducible first | exact HK.out | apply Kept.alloc | apply Kept.drewN | apply Kept.drew) | exact HK.out)⟩, ⟨by repeat (first | (with_reducible first | exact HB.out | apply below_alloc | apply pw_below_drewN | apply below_drew1) | exact HB.out)⟩⟩
      case round =>
       clear H'
       try clear c1
       try clear p2
       try clear c5
       try clear c5b0
       try clear c6
       try clear c6b0
       try clear p6
       try clear c7
       try clear c7b0
       try clear c9
       try clear c11
       try clear c11b0
       try clear c11b1
       try clear p2
       try clear p6
       obtain ⟨x0_3, x8_3, rfl, HA, HK3, HO_0, HK, HB⟩ := hrel
       cases gk with
       | zero => exact absurd HA.out (by simp [oubref2_Put.l0])
       | succ k3 =>
        have H := HA.out
        clear HA
        simp only [oubref2_Put.l0] at H
        by_cases c13 : x8_3 ≥ 0
        ·rw [if_pos c13] at H
         have c13b0 : decide (0 ≤ x8_3) = true := decide_eq_true c13
         clear c13
         obtain ⟨ji14, hji14⟩ : ∃ j_ : Int, (IntKind.u64.wrap (wrap64 (8 * x8_3))) = j_ := ⟨_, rfl⟩
         replace H : (if 0 ≤ (ji14) then (if x0_3.length < 140737488355328 then (oubref2_Put.l0 k3 (x0_3 ++ [(shr .i64 x2_9 (ji14)) % 256]) x2_9 (wrap64 (x8_3 - 1))) else (none)) else (none)) = some (r1, r2) := by first | (rw [hji14] at H; exact H) | (simp only [hji14] at H ⊢; exact H)
         by_cases c15 : 0 ≤ (ji14)
         ·rw [if_pos c15] at H
          have c15b0 := eq_true c15
          have c15b1 : decide (0 ≤ (ji14)) = true := decide_eq_true c15
          clear c15
          obtain ⟨ji16, hji16⟩ : ∃ j_ : Int, (shr .i64 x2_9 (ji14)) = j_ := ⟨_, rfl⟩
          replace H : (if x0_3.length < 140737488355328 then (oubref2_Put.l0 k3 (x0_3 ++ [(ji16) % 256]) x2_9 (wrap64 (x8_3 - 1))) else (none)) = some (r1, r2) := by first | (rw [hji16] at H; exact H) | (simp only [hji16] at H ⊢; exact H)
          have hji16_ : (x2_9 / 2 ^ min (ji14).toNat 64) = ji16 := hji16
          have hji16z : (ji14) ≤ 64 → (x2_9 / 2 ^ (ji14).toNat) = ji16 := shr_small hji16
          by_cases c17 : x0_3.length < 140737488355328
          ·rw [if_pos c17] at H
           have LMc17 := Aside0.mk c17
           clear c17
           obtain ⟨y103, hy103⟩ : ∃ y_ : List Int, y_ = (x0_3 ++ [(ji16) % 256]) := ⟨_, rfl⟩
           replace H : (oubref2_Put.l0 k3 y103 x2_9 (wrap64 (x8_3 - 1))) = some (r1, r2) := by first | (rw [hy103]; with_reducible exact H) | (have H2_ := (Option.bind_some _ _).symm.trans H; rw [hy103]; with_reducible exact H2_) | (have H2_ := (Option.bind_some _ _).symm.trans H; with_reducible exact H2_) | with_reducible exact H | (rw [hy103]; exact H) | exact H
           have Ny103 := Aside0.mk hy103
           clear hy103
           have H' := Aside0.mk H
           clear H
           go_wp2_with (first | ((with_reducible refine gate_builtin (b := .append) (xs := #[.tmp 37, .tmp 44]) rfl ?_); at_builtin; refine Kd.R_append (Kd.int .u8) (w0 := w0) w0.heap.size rfl (.tmp 37) (.tmp 44) 29 5 (.int .u8 0) 1 rfl Tryz.underlying29 info5 rfl (by decide) (by omega) u0 x0_3 ((ji16) % 256) [.int .u8 ((ji16) % 256)] (fun k_ => (P0_ k_ ∨ w.heap.size ≤ k_)) (fun _ => False) rfl rfl ?aP (fun _ hk => hk.elim) ?aF ?aO ?aB ?aS ?aL ?_; (case aP => exact rfl); (case aB => exact (by repeat (first | (with_reducible first | exact HB.out | apply below_alloc | apply pw_below_drewN | apply below_drew1) | exact HB.out))); (case aF => exact (fun k_ hk => (.inr (Nat.le_trans (by first | exact HK.out.1 | exact (show Kept w _ (fun k_ => P0_ k_) from by repeat (first | (with_reducible first | exact HK.out | apply Kept.alloc | apply Kept.drewN | apply Kept.drew) | exact HK.out)).1) hk)))); (case aO => exact (by (with_reducible repeat (first | apply Kd.R_alloc | apply Kd.R_drewN | apply Kd.R_drew)); exact HO_0.out)); (case aS => exact (below_size (by repeat (first | (with_reducible first | exact HB.out | apply below_alloc | apply pw_below_drewN | apply below_drew1) | exact HB.out)))); (case aL => have := LMc17.out; omega); intro v104 w18 ho hb hg hat; rw [← Ny103.out] at ho; have n0_ := Aside0.mk (hb); have n1_ := Aside0.mk (Kept.of_grown (S := (fun k_ => P0_ k_)) hg (by repeat (first | (with_reducible first | exact HK.out | apply Kept.alloc | apply Kept.drewN | apply Kept.drew) | exact HK.out)) (fun k_ e_ => (HO_0.out.1 k_ e_))); have n2_ := Aside0.mk (ho); clear HB; clear HK; clear HO_0; have HB := n0_; have HK := n1_; have HO105 := n2_; clear n0_ n1_ n2_; clear ho hb hg hat))
           go_roundg k3
           case measure => have := HJ3.out; have := HJ9.out; have := HK3.out; omega
           case rel => exact ⟨(y103), (wrap64 (x8_3 - 1)), (by first | rfl | (simp; done) | (simp [*]; done)), H', ⟨by have := HJ3.out; have := HJ9.out; have := HK3.out; omega⟩, ⟨by (with_reducible repeat (first | apply Kd.R_alloc | apply Kd.R_drewN | apply Kd.R_drew)); exact HO105.out⟩, ⟨by repeat (first | (with_reducible first | exact HK.out | apply Kept.alloc | apply Kept.drewN | apply Kept.drew) | exact HK.out)⟩, ⟨by repeat (first | (with_reducible first | exact HB.out | apply below_alloc | apply pw_below_drewN | apply below_drew1) | exact HB.out)⟩⟩
          ·rw [if_neg c17] at H
           exact absurd H (by simp)
         ·rw [if_neg c15] at H
          exact absurd H (by simp)
        ·rw [if_neg c13] at H
         have c13b0 : decide (0 ≤ x8_3) = false := decide_eq_false c13
         clear c13
         simp only [Option.some.injEq, Prod.mk.injEq] at H
         obtain ⟨rfl, rfl⟩ := H
         go_wp2
         go_ret2
         exact ⟨_, by first | rfl | (simp [errW_none, errW_some] <;> rfl) | (simp [*, errW_none, errW_some] <;> rfl), by (with_reducible repeat (first | apply Kd.R_alloc | apply Kd.R_drewN | apply Kd.R_drew)); exact HO_0.out, by repeat (first | (with_reducible first | exact HB.out | apply below_alloc | apply pw_below_drewN | apply below_drew1) | exact HB.out), by repeat (first | (with_reducible first | exact HK.out | apply Kept.alloc | apply Kept.drewN | apply Kept.drew) | exact HK.out)⟩
def oubref2_Nums.l0 : Nat → List Int → Int → List Int → Int → Option (List Int)
 | 0, _, _, _, _ => none
 | k + 1, x0, x1, x2, x7 => if x7 < (x2.length : Int) then (if 0 ≤ x7 then ((oubref2_Put.f k x0 x1 (rd x2 x7)).bind fun bt107 => (oubref2_Nums.l0 k bt107.1 x1 x2 (wrap64 (x7 + 1)))) else (none)) else (some x0)
def oubref2_Nums.f (k : Nat) (l0 : List Int) (a1 : Int) (l2 : List Int) : Option (List Int) := oubref2_Nums.l0 k l0 a1 l2 0
theorem oubref2_Nums.mono_l : ∀ k, (∀ y0 y1 y2 y3, LeO (oubref2_Nums.l0 k y0 y1 y2 y3) (oubref2_Nums.l0 (k + 1) y0 y1 y2 y3))
 | 0 => fun _ _ _ _ r h => by simp [oubref2_Nums.l0] at h
 | k + 1 => by
  have ih0 := oubref2_Nums.mono_l k
  ·intro y0 y1 y2 y3
   unfold oubref2_Nums.l0
   repeat' first
   | (with_reducible exact ih0 _ _ _ _)
   | (with_reducible exact oubref2_Put.mono _ _ _ _)
   | (with_reducible exact LeO.refl _)
   | (with_reducible exact LeO.none _)
   | (with_reducible refine LeO.ite ?_ ?_)
   | (with_reducible refine LeO.bind ?_ (fun _ => ?_))
   | exact ih0 _ _ _ _
   | exact oubref2_Put.mono _ _ _ _
   | exact LeO.none _
   | refine LeO.ite ?_ ?_
   | refine LeO.bind ?_ (fun _ => ?_)
theorem oubref2_Nums.mono : ∀ a0 a1 a2 k, LeO (oubref2_Nums.f k a0 a1 a2) (oubref2_Nums.f (k + 1) a0 a1 a2) := by
 intro a0 a1 a2 k
 have ih0 := oubref2_Nums.mono_l k
 unfold oubref2_Nums.f
 repeat' first
   | (with_reducible exact ih0 _ _ _ _)
   | (with_reducible exact oubref2_Put.mono _ _ _ _)
   | (with_reducible exact LeO.refl _)
   | (with_reducible exact LeO.none _)
   | (with_reducible refine LeO.ite ?_ ?_)
   | (with_reducible refine LeO.bind ?_ (fun _ => ?_))
   | exact ih0 _ _ _ _
   | exact oubref2_Put.mono _ _ _ _
   | exact LeO.none _
   | refine LeO.ite ?_ ?_
   | refine LeO.bind ?_ (fun _ => ?_)
set_option maxHeartbeats 8000000 in
set_option maxRecDepth 100000 in
theorem oubref2_Nums.calls (k : Nat) (P0_ : Nat → Prop) (u9000_ : Value) (l0 : List Int) (a1 : Int) (A2 : Option Addr) (c2 : Nat) (l2 : List Int) (r : List Int) (w0 w : World) (hB : Below w0.heap.size w0 w) (ho0 : Kd.R (Kd.int .u8) 5 w w0.heap.size P0_ u9000_ l0) (hr2 : ∀ W_, Kept w W_ (fun k_ => P0_ k_) → Kd.C (Kd.int .i64) W_ A2 l2.length l2) (hc2 : l2.length ≤ c2) (h : oubref2_Nums.f k l0 a1 l2 = some r) :
  Calls Tryz.prog 53 #[u9000_, .int .i64 a1, .slice A2 l2.length c2] w fun e w' => ∃ v0_ : Value, e = .returned (v0_) ∧ Kd.R (Kd.int .u8) 5 w' w0.heap.size (fun k_ => (P0_ k_ ∨ w.heap.size ≤ k_)) v0_ r ∧ Below w0.heap.size w0 w' ∧ Kept w w' (fun k_ => P0_ k_) := by
 have HO0 := Aside0.mk (show Kd.R (Kd.int .u8) 5 w w0.heap.size (fun k_ => (P0_ k_ ∨ w.heap.size ≤ k_)) u9000_ l0 from Kd.R_mono ho0 (fun k_ hk => (.inl hk)))
 have HR2 := Aside0.mk hr2
 have HC2 := Aside0.mk hc2
 clear hr2 hc2
 have HK := Aside0.mk (Kept.refl w (fun k_ => P0_ k_))
 have HW0 := Aside0.mk hB.size
 have HB := Aside0.mk hB
 clear hB
 have H : (oubref2_Nums.l0 k l0 a1 l2 0) = some r := h
 clear h
 have H' := Aside0.mk H
 clear H
 go_enter Tryz.func53, Tryz.ntmps53
 go_wp2
 go_loopg [0, 7] k (fun kq v0 v7 w' => ∃ (x0_1 : List Int) (x7_1 : Int), v7 = .int .i64 x7_1 ∧ Aside0 (oubref2_Nums.l0 kq x0_1 a1 l2 x7_1 = some r) ∧ Aside0 (kq ≤ k) ∧ Aside0 (Kd.R (Kd.int .u8) 5 w' w0.heap.size (fun k_ => (P0_ k_ ∨ w.heap.size ≤ k_)) v0 x0_1) ∧ Aside0 (Kept w w' (fun k_ => P0_ k_)) ∧ Aside0 (Below w0.heap.size w0 w'))
 case atStart => exact ⟨(l0), (0), (by first | rfl | (simp; done) | (simp [*]; done)), H', ⟨Nat.le_refl _⟩, ⟨by (with_reducible repeat (first | apply Kd.R_alloc | apply Kd.R_drewN | apply Kd.R_drew)); exact HO0.out⟩, ⟨by repeat (first | (with_reducible first | exact HK.out | apply Kept.alloc | apply Kept.drewN | apply Kept.drew) | exact HK.out)⟩, ⟨by repeat (first | (with_reducible first | exact HB.out | apply below_alloc | apply pw_below_drewN | apply below_drew1) | exact HB.out)⟩⟩
 case round =>
  clear H'
  try clear c2
  try clear p2
  obtain ⟨x0_1, x7_1, rfl, HA, HK1, HO_0, HK, HB⟩ := hrel
  cases gk with
  | zero => exact absurd HA.out (by simp [oubref2_Nums.l0])
  | succ k1 =>
   have H := HA.out
   clear HA
   simp only [oubref2_Nums.l0] at H
   by_cases c4 : x7_1 < (l2.length : Int)
   ·rw [if_pos c4] at H
    have c4b0 : decide (x7_1 < (l2.length : Int)) = true := decide_eq_true c4
    clear c4
    by_cases c5 : 0 ≤ x7_1
    ·rw [if_pos c5] at H
     have c5b0 : decide (0 ≤ x7_1) = true := decide_eq_true c5
     clear c5
     replace H := Option.bind_eq_some_iff.mp H
     obtain ⟨⟨t107, t110⟩, A60, H⟩ := H
     replace H : (oubref2_Nums.l0 k1 t107 a1 l2 (wrap64 (x7_1 + 1))) = some r := H
     have A6 := Aside0.mk A60
     clear A60
     have H' := Aside0.mk H
     clear H
     have p106 : 0 ≤ (x7_1 : Int) := of_decide_eq_true (by first | (with_reducible assumption) | assumption)
     have q106 : x7_1 < (l2.length : Int) := of_decide_eq_true (by first | (with_reducible assumption) | assumption)
     obtain ⟨ad106, e106, hx106_0⟩ := Kd.at_int (Kd.C_kept_now HR2.out HK.out) x7_1 p106 q106
     cases e106
     replace p106 := eq_true p106
     replace q106 := eq_true q106
     obtain ⟨Ao7, co7, eo7⟩ := Kd.R_slice HO_0.out
     subst eo7
     go_wp2_with (first | ((with_reducible refine gate_callee (f := 140) rfl ?_); refine goesL_ (some 21) rfl rfl Tryz.func140 (by kernel_rfl) rfl #[.slice Ao7 x0_1.length co7, .int .i64 a1, .int .i64 (rd l2 x7_1)] rfl (by (try simp only [List.map_toArray, List.map_cons, List.map_nil]); first | done | rfl | (simp only [List.length_drop, List.length_take]; rfl)) ?_; (with_reducible refine (oubref2_Put.calls k1 (fun k_ => some k_ = (.slice Ao7 x0_1.length co7 : Value).ownBlock) (.slice Ao7 x0_1.length co7) x0_1 a1 (rd l2 x7_1) t107 t110 w0 _ ?side1 ?side2 A6.out).mono ?_); (case side1 => repeat (first | (with_reducible first | exact HB.out | apply below_alloc | apply pw_below_drewN | apply below_drew1) | exact HB.out)); (case side2 => exact Kd.R_tight rfl HO_0.out); rintro e w8 ⟨v108, rfl, ho0, hb, hkp⟩; refine ⟨_, rfl, ?_⟩; have n0_ := Aside0.mk (Kd.R_mono (ok' := fun k_ => (P0_ k_ ∨ w.heap.size ≤ k_)) ho0 (fun k_ hk_ => Or.elim hk_ (fun hs_ => (HO_0.out.1 k_ (hs_).symm)) (fun hn_ => (.inr (Nat.le_trans (by first | exact HK.out.1 | exact (show Kept w _ (fun k_ => P0_ k_) from by repeat (first | (with_reducible first | exact HK.out | apply Kept.alloc | apply Kept.drewN | apply Kept.drew) | exact HK.out)).1) hn_))))); have n1_ := Aside0.mk (Kept.then_ (S := (fun k_ => P0_ k_)) (by repeat (first | (with_reducible first | exact HK.out | apply Kept.alloc | apply Kept.drewN | apply Kept.drew) | exact HK.out)) hkp (fun k_ hs_ => (fun e_ => (HO_0.out.1 k_ e_.symm)) hs_)); have n2_ := Aside0.mk (hb); clear HK; clear HB; clear HO_0; have HO109 := n0_; have HK := n1_; have HB := n2_; clear n0_ n1_ n2_; (try clear hb); (try clear hkp); (try clear ho0)))
     go_roundg k1
     case measure => have := HK1.out; omega
     case rel => exact ⟨(t107), (wrap64 (x7_1 + 1)), (by first | rfl | (simp; done) | (simp [*]; done)), H', ⟨by have := HK1.out; omega⟩, ⟨by (with_reducible repeat (first | apply Kd.R_alloc | apply Kd.R_drewN | apply Kd.R_drew)); exact HO109.out⟩, ⟨by repeat (first | (with_reducible first | exact HK.out | apply Kept.alloc | apply Kept.drewN | apply Kept.drew) | exact HK.out)⟩, ⟨by repeat (first | (with_reducible first | exact HB.out | apply below_alloc | apply pw_below_drewN | apply below_drew1) | exact HB.out)⟩⟩
    ·rw [if_neg c5] at H
     exact absurd H (by simp)
   ·rw [if_neg c4] at H
    have c4b0 : decide (x7_1 < (l2.length : Int)) = false := decide_eq_false c4
    clear c4
    obtain rfl := Option.some.inj H
    go_wp2
    go_ret
    exact ⟨_, by first | rfl | (simp [errW_none, errW_some] <;> rfl) | (simp [*, errW_none, errW_some] <;> rfl), by (with_reducible repeat (first | apply Kd.R_alloc | apply Kd.R_drewN | apply Kd.R_drew)); exact HO_0.out, by repeat (first | (with_reducible first | exact HB.out | apply below_alloc | apply pw_below_drewN | apply below_drew1) | exact HB.out), by repeat (first | (with_reducible first | exact HK.out | apply Kept.alloc | apply Kept.drewN | apply Kept.drew) | exact HK.out)⟩
def oubref7_Length.f (a0 : Int) : Option (Int) := if a0 < 1 then (some 0) else (if a0 > 4 then (some 0) else (some (wrap64 (a0 * 38))))
set_option maxHeartbeats 8000000 in
set_option maxRecDepth 100000 in
theorem oubref7_Length.calls (a0 : Int) (r : Int) (w : World) (h : oubref7_Length.f a0 = some r) :
  Calls Tryz.prog 126 #[.int .i64 a0] w fun e w' => e = .returned (.int .i64 r) ∧ Drawn0 w w' := by
 have H : (if a0 < 1 then (some 0) else (if a0 > 4 then (some 0) else (some (wrap64 (a0 * 38))))) = some r := h
 clear h
 by_cases c2 : a0 < 1
 ·rw [if_pos c2] at H
  have c2b0 : decide (a0 < 1) = true := decide_eq_true c2
  clear c2
  obtain rfl := Option.some.inj H
  go_enter Tryz.func126, Tryz.ntmps126
  go_wp2
  go_ret
  exact ⟨by first | rfl | (simp; done) | (simp [*]; done), by repeat (first | exact Drawn0.refl _ | apply Drawn0.step)⟩
 ·rw [if_neg c2] at H
  have c2b0 : decide (a0 < 1) = false := decide_eq_false c2
  clear c2
  by_cases c3 : a0 > 4
  ·rw [if_pos c3] at H
   have c3b0 : decide (4 < a0) = true := decide_eq_true c3
   clear c3
   obtain rfl := Option.some.inj H
   go_enter Tryz.func126, Tryz.ntmps126
   go_wp2
   go_ret
   exact ⟨by first | rfl | (simp; done) | (simp [*]; done), by repeat (first | exact Drawn0.refl _ | apply Drawn0.step)⟩
  ·rw [if_neg c3] at H
   have c3b0 : decide (4 < a0) = false := decide_eq_false c3
   clear c3
   obtain rfl := Option.some.inj H
   go_enter Tryz.func126, Tryz.ntmps126
   go_wp2
   go_ret
   exact ⟨by first | rfl | (simp; done) | (simp [*]; done), by repeat (first | exact Drawn0.refl _ | apply Drawn0.step)⟩
def oubref7_Payload.f (a0_0 : Int) (a0_1 : Int) (a0_2 : Int) (a0_3 : Int) (a0_4 : Int) (a0_5 : Int) (a0_6 : Int) (a0_7 : Int) (a0_8 : Int) (a0_9 : Int) (l0_10 : List (List Int)) : Option (Int) := (oubref7_Length.f a0_1).bind fun t112 => (some t112)
set_option maxHeartbeats 8000000 in
set_option maxRecDepth 100000 in
theorem oubref7_Payload.calls (a0_0 : Int) (a0_1 : Int) (a0_2 : Int) (a0_3 : Int) (a0_4 : Int) (a0_5 : Int) (a0_6 : Int) (a0_7 : Int) (a0_8 : Int) (a0_9 : Int) (A0_10 : Option Addr) (c0_10 : Nat) (l0_10 : List (List Int)) (r : Int) (w : World) (hr0_10 : Kd.C (Kd.slice 3 (Kd.int .i64)) w A0_10 l0_10.length l0_10) (hc0_10 : l0_10.length ≤ c0_10) (h : oubref7_Payload.f a0_0 a0_1 a0_2 a0_3 a0_4 a0_5 a0_6 a0_7 a0_8 a0_9 l0_10 = some r) :
  Calls Tryz.prog 142 #[.agg #[.int .i64 a0_0, .int .i64 a0_1, .int .i64 a0_2, .int .i64 a0_3, .int .i64 a0_4, .int .i64 a0_5, .int .i64 a0_6, .int .i64 a0_7, .int .i64 a0_8, .int .i64 a0_9, .slice A0_10 l0_10.length c0_10]] w fun e w' => e = .returned (.int .i64 r) ∧ Below w.heap.size w w' := by
 have hu24 := Tryz.underlying24
 have HR0_10 := Aside0.mk hr0_10
 have HC0_10 := Aside0.mk hc0_10
 clear hr0_10 hc0_10
 have HB := Aside0.mk (Below.refl w.heap.size w)
 have H : ((oubref7_Length.f a0_1).bind fun t112 => (some t112)) = some r := h
 clear h
 replace H := Option.bind_eq_some_iff.mp H
 obtain ⟨t112, A20, H⟩ := H
 replace H : (some t112) = some r := H
 have A2 := Aside0.mk A20
 clear A20
 obtain rfl := Option.some.inj H
 go_enter Tryz.func142, Tryz.ntmps142
 go_wp2_with (first | ((with_reducible refine gate_dst (N := 1) rfl ?_); refine box_event ?hg (N := 1) ?hd (cs := #[.int .i64 a0_0, .int .i64 a0_1, .int .i64 a0_2, .int .i64 a0_3, .int .i64 a0_4, .int .i64 a0_5, .int .i64 a0_6, .int .i64 a0_7, .int .i64 a0_8, .int .i64 a0_9, .slice A0_10 l0_10.length c0_10]) (t := 24) ?hr ?_; (case hd => rfl); (case hg => rfl); (case hr => first | (go_simp; done) | (go_simp; rfl)); intro gb111 hg w3 hbox hb; have n0_ := Aside0.mk (below_step (by repeat (first | (with_reducible first | exact HB.out | apply below_alloc | apply pw_below_drewN | apply below_drew1) | exact HB.out)) hb); have n1_ := Aside0.mk (hbox); have n2_ := Aside0.mk ((by rw [hg]; exact (below_size (by repeat (first | (with_reducible first | exact HB.out | apply below_alloc | apply pw_below_drewN | apply below_drew1) | exact HB.out))) : w.heap.size ≤ gb111)); have n3_ := Aside0.mk ((by rw [hg]; exact (below_size (by repeat (first | (with_reducible first | exact HB.out | apply below_alloc | apply pw_below_drewN | apply below_drew1) | exact HB.out))) : w.heap.size ≤ gb111)); clear HB; have HB := n0_; have BK111 := n1_; have GW111 := n2_; have GE111 := n3_; clear n0_ n1_ n2_ n3_; clear hb hbox hg; have hcz4_0 : w3.cell? ⟨gb111, 0, none⟩ = some (.int .i64 a0_0) := (blk_cell BK111.out 0).trans rfl; have hcz4_1 : w3.cell? ⟨gb111, 1, none⟩ = some (.int .i64 a0_1) := (blk_cell BK111.out 1).trans rfl; have hcz4_2 : w3.cell? ⟨gb111, 2, none⟩ = some (.int .i64 a0_2) := (blk_cell BK111.out 2).trans rfl; have hcz4_3 : w3.cell? ⟨gb111, 3, none⟩ = some (.int .i64 a0_3) := (blk_cell BK111.out 3).trans rfl; have hcz4_4 : w3.cell? ⟨gb111, 4, none⟩ = some (.int .i64 a0_4) := (blk_cell BK111.out 4).trans rfl; have hcz4_5 : w3.cell? ⟨gb111, 5, none⟩ = some (.int .i64 a0_5) := (blk_cell BK111.out 5).trans rfl; have hcz4_6 : w3.cell? ⟨gb111, 6, none⟩ = some (.int .i64 a0_6) := (blk_cell BK111.out 6).trans rfl; have hcz4_7 : w3.cell? ⟨gb111, 7, none⟩ = some (.int .i64 a0_7) := (blk_cell BK111.out 7).trans rfl; have hcz4_8 : w3.cell? ⟨gb111, 8, none⟩ = some (.int .i64 a0_8) := (blk_cell BK111.out 8).trans rfl; have hcz4_9 : w3.cell? ⟨gb111, 9, none⟩ = some (.int .i64 a0_9) := (blk_cell BK111.out 9).trans rfl; have hcz4_10 : w3.cell? ⟨gb111, 10, none⟩ = some (.slice A0_10 l0_10.length c0_10) := (blk_cell BK111.out 10).trans rfl; have hfz4_0 := blk_frozen BK111.out 0; have hfz4_1 := blk_frozen BK111.out 1; have hfz4_2 := blk_frozen BK111.out 2; have hfz4_3 := blk_frozen BK111.out 3; have hfz4_4 := blk_frozen BK111.out 4; have hfz4_5 := blk_frozen BK111.out 5; have hfz4_6 := blk_frozen BK111.out 6; have hfz4_7 := blk_frozen BK111.out 7; have hfz4_8 := blk_frozen BK111.out 8; have hfz4_9 := blk_frozen BK111.out 9; have hfz4_10 := blk_frozen BK111.out 10) | ((with_reducible refine gate_callee (f := 126) rfl ?_); refine goesL_ (some 5) rfl rfl Tryz.func126 (by kernel_rfl) rfl #[.int .i64 a0_1] rfl (by (try simp only [List.map_toArray, List.map_cons, List.map_nil]); first | done | rfl | (simp only [List.length_drop, List.length_take]; rfl)) ?_; (with_reducible refine (oubref7_Length.calls a0_1 t112 _ A2.out).mono ?_); rintro e w' ⟨rfl, ⟨nd, rfl⟩⟩; refine ⟨_, rfl, ?_⟩))
 go_ret
 exact ⟨by first | rfl | (simp [errW_none, errW_some] <;> rfl) | (simp [*, errW_none, errW_some] <;> rfl), by repeat (first | (with_reducible first | exact HB.out | apply below_alloc | apply pw_below_drewN | apply below_drew1 | refine below_set ?_ GE111.out) | exact HB.out)⟩
def oubref2_Cells.j0 : Nat → Int → Int → Bool → Option (Int)
 | 0, _, _, _ => none
 | k + 1, x0, x1, x11 => if x11 = true then (some 0) else (if x1 = 0 then (none) else (if (Int.tmod x0 x1) > 0 then (some (wrap64 ((wrap64 (Int.tdiv x0 x1)) + 1))) else (some (wrap64 (Int.tdiv x0 x1)))))
def oubref2_Cells.f (k : Nat) (a0 : Int) (a1 : Int) : Option (Int) := if a0 < 1 then (oubref2_Cells.j0 k a0 a1 true) else (oubref2_Cells.j0 k a0 a1 (decide (a1 < 1)))
theorem oubref2_Cells.mono_l : ∀ k, (∀ y0 y1 y2, LeO (oubref2_Cells.j0 k y0 y1 y2) (oubref2_Cells.j0 (k + 1) y0 y1 y2))
 | 0 => fun _ _ _ r h => by simp [oubref2_Cells.j0] at h
 | k + 1 => by
  have ih0 := oubref2_Cells.mono_l k
  ·intro y0 y1 y2
   unfold oubref2_Cells.j0
   repeat' first
   | (with_reducible exact ih0 _ _ _)
   | (with_reducible exact LeO.refl _)
   | (with_reducible exact LeO.none _)
   | (with_reducible refine LeO.ite ?_ ?_)
   | (with_reducible refine LeO.bind ?_ (fun _ => ?_))
   | exact ih0 _ _ _
   | exact LeO.none _
   | refine LeO.ite ?_ ?_
   | refine LeO.bind ?_ (fun _ => ?_)
theorem oubref2_Cells.mono : ∀ a0 a1 k, LeO (oubref2_Cells.f k a0 a1) (oubref2_Cells.f (k + 1) a0 a1) := by
 intro a0 a1 k
 have ih0 := oubref2_Cells.mono_l k
 unfold oubref2_Cells.f
 repeat' first
   | (with_reducible exact ih0 _ _ _)
   | (with_reducible exact LeO.refl _)
   | (with_reducible exact LeO.none _)
   | (with_reducible refine LeO.ite ?_ ?_)
   | (with_reducible refine LeO.bind ?_ (fun _ => ?_))
   | exact ih0 _ _ _
   | exact LeO.none _
   | refine LeO.ite ?_ ?_
   | refine LeO.bind ?_ (fun _ => ?_)
set_option maxHeartbeats 8000000 in
set_option maxRecDepth 100000 in
theorem oubref2_Cells.calls (k : Nat) (a0 : Int) (a1 : Int) (r : Int) (w : World) (h : oubref2_Cells.f k a0 a1 = some r) :
  Calls Tryz.prog 143 #[.int .i64 a0, .int .i64 a1] w fun e w' => e = .returned (.int .i64 r) ∧ Drawn0 w w' := by
 have H : (if a0 < 1 then (oubref2_Cells.j0 k a0 a1 true) else (oubref2_Cells.j0 k a0 a1 (decide (a1 < 1)))) = some r := h
 clear h
 have HC3 := Aside0.mk H
 clear H
 go_enter Tryz.func143, Tryz.ntmps143
 go_upto_region 1 with (fail)
 go_cut [11] (fun v11 wc => ∃ (kq : Nat) (x11_2 : Bool), v11 = .bool x11_2 ∧ Aside0 (oubref2_Cells.j0 kq a0 a1 x11_2 = some r) ∧ Aside0 (kq ≤ k) ∧ Drawn0 w wc)
 case first =>
  have H := HC3.out
  clear HC3
  by_cases c4 : a0 < 1
  ·rw [if_pos c4] at H
   have c4b0 : decide (a0 < 1) = true := decide_eq_true c4
   clear c4
   (first | rw [c4b0] | (simp only [i64_w, i32_w]; rw [c4b0]) | skip)
   have H' := Aside0.mk H
   clear H
   go_wp2
   go_meet
   case rel => exact ⟨_, (true), (by first | rfl | (simp; done) | (simp [*]; done)), H', ⟨by first | omega | exact Nat.le_refl _⟩, by repeat (first | exact Drawn0.refl _ | apply Drawn0.step)⟩
  ·rw [if_neg c4] at H
   have c4b0 : decide (a0 < 1) = false := decide_eq_false c4
   clear c4
   (first | rw [c4b0] | (simp only [i64_w, i32_w]; rw [c4b0]) | skip)
   have H' := Aside0.mk H
   clear H
   go_wp2
   go_meet
   case rel => exact ⟨_, (decide (a1 < 1)), (by first | rfl | (simp; done) | (simp [*]; done)), H', ⟨by first | omega | exact Nat.le_refl _⟩, by repeat (first | exact Drawn0.refl _ | apply Drawn0.step)⟩
 case rest =>
  clear HC3
  try clear c1
  try clear p2
  try clear c4
  try clear c4b0
  obtain ⟨kq, x11_2, rfl, HA, HJ2, ⟨mc2, rfl⟩⟩ := hcut
  cases kq with
  | zero => exact absurd HA.out (by simp [oubref2_Cells.j0])
  | succ kj2 =>
   have H := HA.out
   clear HA
   simp only [oubref2_Cells.j0] at H
   by_cases c5 : x11_2 = true
   ·subst c5
    have H1 : (some 0) = some r := by rw [if_pos rfl] at H; exact H
    clear H
    have H := H1
    clear H1
    obtain rfl := Option.some.inj H
    go_wp2
    go_ret
    exact ⟨by first | rfl | (simp; done) | (simp [*]; done), by repeat (first | exact Drawn0.refl _ | apply Drawn0.step)⟩
   ·replace c5 := Bool.eq_false_iff.mpr c5
    subst c5
    have H1 : (if a1 = 0 then (none) else (if (Int.tmod a0 a1) > 0 then (some (wrap64 ((wrap64 (Int.tdiv a0 a1)) + 1))) else (some (wrap64 (Int.tdiv a0 a1))))) = some r := by rw [if_neg (show ¬ (false = true) by decide)] at H; exact H
    clear H
    have H := H1
    clear H1
    by_cases c6 : a1 = 0
    ·rw [if_pos c6] at H
     exact absurd H (by simp)
    ·rw [if_neg c6] at H
     have c6b0 : (a1 == 0) = false := beq_eq_false_iff_ne.mpr c6
     have c6b1 : (a1 != 0) = true := bne_iff_ne.mpr c6
     by_cases c7 : (Int.tmod a0 a1) > 0
     ·rw [if_pos c7] at H
      have c7b0 : decide (0 < (Int.tmod a0 a1)) = true := decide_eq_true c7
      clear c7
      obtain rfl := Option.some.inj H
      go_wp2
      go_ret
      exact ⟨by first | rfl | (simp; done) | (simp [*]; done), by repeat (first | exact Drawn0.refl _ | apply Drawn0.step)⟩
     ·rw [if_neg c7] at H
      have c7b0 : decide (0 < (Int.tmod a0 a1)) = false := decide_eq_false c7
      clear c7
      obtain rfl := Option.some.inj H
      go_wp2
      go_ret
      exact ⟨by first | rfl | (simp; done) | (simp [*]; done), by repeat (first | exact Drawn0.refl _ | apply Drawn0.step)⟩
def oubref23_whole.f (k : Nat) (a0_0 : Int) (a0_1 : Int) (a0_2 : Int) (a0_3 : Int) (a0_4 : Int) (a0_5 : Int) (a0_6 : Int) (a0_7 : Int) (a0_8 : Int) (a0_9 : Int) (l0_10 : List (List Int)) (l1 : List Int) : Option (List Int) := (oubref7_Payload.f a0_0 a0_1 a0_2 a0_3 a0_4 a0_5 a0_6 a0_7 a0_8 a0_9 l0_10).bind fun t114 => ((oubref2_Cells.f k (l1.length : Int) t114).bind fun t115 => ((oubref2_Fill.f l1 (wrap64 (t115 * t114))).bind fun t116 => (some t116)))
theorem oubref23_whole.mono : ∀ a0 a1 a2 a3 a4 a5 a6 a7 a8 a9 a10 a11 k, LeO (oubref23_whole.f k a0 a1 a2 a3 a4 a5 a6 a7 a8 a9 a10 a11) (oubref23_whole.f (k + 1) a0 a1 a2 a3 a4 a5 a6 a7 a8 a9 a10 a11) := by
 intro a0 a1 a2 a3 a4 a5 a6 a7 a8 a9 a10 a11 k
 unfold oubref23_whole.f
 repeat' first
   | (with_reducible exact oubref2_Cells.mono _ _ _)
   | (with_reducible exact LeO.refl _)
   | (with_reducible exact LeO.none _)
   | (with_reducible refine LeO.ite ?_ ?_)
   | (with_reducible refine LeO.bind ?_ (fun _ => ?_))
   | exact oubref2_Cells.mono _ _ _
   | exact LeO.none _
   | refine LeO.ite ?_ ?_
   | refine LeO.bind ?_ (fun _ => ?_)
set_option maxHeartbeats 8000000 in
set_option maxRecDepth 100000 in
theorem oubref23_whole.calls (k : Nat) (a0_0 : Int) (a0_1 : Int) (a0_2 : Int) (a0_3 : Int) (a0_4 : Int) (a0_5 : Int) (a0_6 : Int) (a0_7 : Int) (a0_8 : Int) (a0_9 : Int) (A0_10 : Option Addr) (c0_10 : Nat) (l0_10 : List (List Int)) (A1 : Option Addr) (c1 : Nat) (l1 : List Int) (r : List Int) (w : World) (hr0_10 : Kd.C (Kd.slice 3 (Kd.int .i64)) w A0_10 l0_10.length l0_10) (hc0_10 : l0_10.length ≤ c0_10) (hr1 : Kd.C (Kd.int .u8) w A1 l1.length l1) (hc1 : l1.length ≤ c1) (h : oubref23_whole.f k a0_0 a0_1 a0_2 a0_3 a0_4 a0_5 a0_6 a0_7 a0_8 a0_9 l0_10 l1 = some r) :
  Calls Tryz.prog 56 #[.agg #[.int .i64 a0_0, .int .i64 a0_1, .int .i64 a0_2, .int .i64 a0_3, .int .i64 a0_4, .int .i64 a0_5, .int .i64 a0_6, .int .i64 a0_7, .int .i64 a0_8, .int .i64 a0_9, .slice A0_10 l0_10.length c0_10], .slice A1 l1.length c1] w fun e w' => ∃ v0_ : Value, e = .returned (v0_) ∧ Kd.R (Kd.int .u8) 5 w' w.heap.size (fun _ => True) v0_ r ∧ Below w.heap.size w w' := by
 have hu24 := Tryz.underlying24
 have HR0_10 := Aside0.mk hr0_10
 have HC0_10 := Aside0.mk hc0_10
 clear hr0_10 hc0_10
 have HR1 := Aside0.mk hr1
 have HC1 := Aside0.mk hc1
 clear hr1 hc1
 have HB := Aside0.mk (Below.refl w.heap.size w)
 have H : ((oubref7_Payload.f a0_0 a0_1 a0_2 a0_3 a0_4 a0_5 a0_6 a0_7 a0_8 a0_9 l0_10).bind fun t114 => ((oubref2_Cells.f k (l1.length : Int) t114).bind fun t115 => ((oubref2_Fill.f l1 (wrap64 (t115 * t114))).bind fun t116 => (some t116)))) = some r := h
 clear h
 replace H := Option.bind_eq_some_iff.mp H
 obtain ⟨t114, A30, H⟩ := H
 replace H : ((oubref2_Cells.f k (l1.length : Int) t114).bind fun t115 => ((oubref2_Fill.f l1 (wrap64 (t115 * t114))).bind fun t116 => (some t116))) = some r := H
 have A3 := Aside0.mk A30
 clear A30
 replace H := Option.bind_eq_some_iff.mp H
 obtain ⟨t115, A40, H⟩ := H
 replace H : ((oubref2_Fill.f l1 (wrap64 (t115 * t114))).bind fun t116 => (some t116)) = some r := H
 have A4 := Aside0.mk A40
 clear A40
 replace H := Option.bind_eq_some_iff.mp H
 obtain ⟨t116, A50, H⟩ := H
 replace H : (some t116) = some r := H
 have A5 := Aside0.mk A50
 clear A50
 obtain rfl := Option.some.inj H
 go_enter Tryz.func56, Tryz.ntmps56
 go_wp2_with (first | ((with_reducible refine gate_dst (N := 2) rfl ?_); refine box_event ?hg (N := 2) ?hd (cs := #[.int .i64 a0_0, .int .i64 a0_1, .int .i64 a0_2, .int .i64 a0_3, .int .i64 a0_4, .int .i64 a0_5, .int .i64 a0_6, .int .i64 a0_7, .int .i64 a0_8, .int .i64 a0_9, .slice A0_10 l0_10.length c0_10]) (t := 24) ?hr ?_; (case hd => rfl); (case hg => rfl); (case hr => first | (go_simp; done) | (go_simp; rfl)); intro gb113 hg w6 hbox hb; have n0_ := Aside0.mk (below_step (by repeat (first | (with_reducible first | exact HB.out | apply below_alloc | apply pw_below_drewN | apply below_drew1) | exact HB.out)) hb); have n1_ := Aside0.mk (hbox); have n2_ := Aside0.mk ((by rw [hg]; exact (below_size (by repeat (first | (with_reducible first | exact HB.out | apply below_alloc | apply pw_below_drewN | apply below_drew1) | exact HB.out))) : w.heap.size ≤ gb113)); have n3_ := Aside0.mk ((by rw [hg]; exact (below_size (by repeat (first | (with_reducible first | exact HB.out | apply below_alloc | apply pw_below_drewN | apply below_drew1) | exact HB.out))) : w.heap.size ≤ gb113)); clear HB; have HB := n0_; have BK113 := n1_; have GW113 := n2_; have GE113 := n3_; clear n0_ n1_ n2_ n3_; clear hb hbox hg; have hcz7_0 : w6.cell? ⟨gb113, 0, none⟩ = some (.int .i64 a0_0) := (blk_cell BK113.out 0).trans rfl; have hcz7_1 : w6.cell? ⟨gb113, 1, none⟩ = some (.int .i64 a0_1) := (blk_cell BK113.out 1).trans rfl; have hcz7_2 : w6.cell? ⟨gb113, 2, none⟩ = some (.int .i64 a0_2) := (blk_cell BK113.out 2).trans rfl; have hcz7_3 : w6.cell? ⟨gb113, 3, none⟩ = some (.int .i64 a0_3) := (blk_cell BK113.out 3).trans rfl; have hcz7_4 : w6.cell? ⟨gb113, 4, none⟩ = some (.int .i64 a0_4) := (blk_cell BK113.out 4).trans rfl; have hcz7_5 : w6.cell? ⟨gb113, 5, none⟩ = some (.int .i64 a0_5) := (blk_cell BK113.out 5).trans rfl; have hcz7_6 : w6.cell? ⟨gb113, 6, none⟩ = some (.int .i64 a0_6) := (blk_cell BK113.out 6).trans rfl; have hcz7_7 : w6.cell? ⟨gb113, 7, none⟩ = some (.int .i64 a0_7) := (blk_cell BK113.out 7).trans rfl; have hcz7_8 : w6.cell? ⟨gb113, 8, none⟩ = some (.int .i64 a0_8) := (blk_cell BK113.out 8).trans rfl; have hcz7_9 : w6.cell? ⟨gb113, 9, none⟩ = some (.int .i64 a0_9) := (blk_cell BK113.out 9).trans rfl; have hcz7_10 : w6.cell? ⟨gb113, 10, none⟩ = some (.slice A0_10 l0_10.length c0_10) := (blk_cell BK113.out 10).trans rfl; have hfz7_0 := blk_frozen BK113.out 0; have hfz7_1 := blk_frozen BK113.out 1; have hfz7_2 := blk_frozen BK113.out 2; have hfz7_3 := blk_frozen BK113.out 3; have hfz7_4 := blk_frozen BK113.out 4; have hfz7_5 := blk_frozen BK113.out 5; have hfz7_6 := blk_frozen BK113.out 6; have hfz7_7 := blk_frozen BK113.out 7; have hfz7_8 := blk_frozen BK113.out 8; have hfz7_9 := blk_frozen BK113.out 9; have hfz7_10 := blk_frozen BK113.out 10) | ((with_reducible refine gate_callee (f := 142) rfl ?_); refine goesL_ (some 7) rfl rfl Tryz.func142 (by kernel_rfl) rfl #[.agg #[.int .i64 a0_0, .int .i64 a0_1, .int .i64 a0_2, .int .i64 a0_3, .int .i64 a0_4, .int .i64 a0_5, .int .i64 a0_6, .int .i64 a0_7, .int .i64 a0_8, .int .i64 a0_9, .slice A0_10 l0_10.length c0_10]] rfl (by (try simp only [List.map_toArray, List.map_cons, List.map_nil]); first | done | rfl | (simp only [List.length_drop, List.length_take]; rfl)) ?_; (with_reducible refine (oubref7_Payload.calls a0_0 a0_1 a0_2 a0_3 a0_4 a0_5 a0_6 a0_7 a0_8 a0_9 _ _ l0_10 t114 _ ?side1 ?side2 A3.out).mono ?_); (case side1 => repeat (first | exact (Kd.C_below HR0_10.out HB.out) | (with_reducible refine Kd.C_alloc ?_ _) | (with_reducible refine Kd.C_drewN ?_ _) | (with_reducible refine Kd.C_drew ?_))); (case side2 => exact HC0_10.out); rintro e w8 ⟨rfl, hb⟩; refine ⟨_, rfl, ?_⟩; have n0_ := Aside0.mk (blk_below (g := gb113) (o := .cells #[.int .i64 a0_0, .int .i64 a0_1, .int .i64 a0_2, .int .i64 a0_3, .int .i64 a0_4, .int .i64 a0_5, .int .i64 a0_6, .int .i64 a0_7, .int .i64 a0_8, .int .i64 a0_9, .slice A0_10 l0_10.length c0_10] 24 (0, 0)) (by (with_reducible repeat (first | refine blk_drewN ?_ _ | refine blk_drew ?_ | refine blk_alloc ?_ _)); exact BK113.out) hb); have n1_ := Aside0.mk (below_step (by repeat (first | (with_reducible first | exact HB.out | apply below_alloc | apply pw_below_drewN | apply below_drew1 | refine below_set ?_ GE113.out) | exact HB.out)) hb); clear BK113; clear HB; have BK113 := n0_; have HB := n1_; clear n0_ n1_; (try clear hb); (try clear hb2); (try clear hk); (try clear hi)) | ((with_reducible refine gate_callee (f := 143) rfl ?_); refine goesL_ (some 12) rfl rfl Tryz.func143 (by kernel_rfl) rfl #[.int .i64 (l1.length : Int), .int .i64 t114] rfl (by (try simp only [List.map_toArray, List.map_cons, List.map_nil]); first | done | rfl | (simp only [List.length_drop, List.length_take]; rfl)) ?_; (with_reducible refine (oubref2_Cells.calls k (l1.length : Int) t114 t115 _ A4.out).mono ?_); rintro e w' ⟨rfl, ⟨nd, rfl⟩⟩; refine ⟨_, rfl, ?_⟩) | ((with_reducible refine gate_callee (f := 141) rfl ?_); refine goesL_ (some 15) rfl rfl Tryz.func141 (by kernel_rfl) rfl #[.slice A1 l1.length c1, .int .i64 (wrap64 (t115 * t114))] rfl (by (try simp only [List.map_toArray, List.map_cons, List.map_nil]); first | done | rfl | (simp only [List.length_drop, List.length_take]; rfl)) ?_; (with_reducible refine (oubref2_Fill.calls _ _ l1 (wrap64 (t115 * t114)) t116 _ ?side1 ?side2 A5.out).mono ?_); (case side1 => repeat (first | exact (Kd.C_below HR1.out (by repeat (first | (with_reducible first | exact HB.out | apply below_alloc | apply pw_below_drewN | apply below_drew1 | refine below_set ?_ GE113.out) | exact HB.out))) | (with_reducible refine Kd.C_alloc ?_ _) | (with_reducible refine Kd.C_drewN ?_ _) | (with_reducible refine Kd.C_drew ?_))); (case side2 => exact HC1.out); rintro e w9 ⟨v117, rfl, ho0, hb⟩; refine ⟨_, rfl, ?_⟩; have n0_ := Aside0.mk (Kd.R_lower ho0 (below_size (by repeat (first | (with_reducible first | exact HB.out | apply below_alloc | apply pw_below_drewN | apply below_drew1 | refine below_set ?_ GE113.out) | exact HB.out)))); have n1_ := Aside0.mk (blk_below (g := gb113) (o := .cells #[.int .i64 a0_0, .int .i64 a0_1, .int .i64 a0_2, .int .i64 a0_3, .int .i64 a0_4, .int .i64 a0_5, .int .i64 a0_6, .int .i64 a0_7, .int .i64 a0_8, .int .i64 a0_9, .slice A0_10 l0_10.length c0_10] 24 (0, 0)) (by (with_reducible repeat (first | refine blk_drewN ?_ _ | refine blk_drew ?_ | refine blk_alloc ?_ _)); exact BK113.out) hb); have n2_ := Aside0.mk (below_step (by repeat (first | (with_reducible first | exact HB.out | apply below_alloc | apply pw_below_drewN | apply below_drew1 | refine below_set ?_ GE113.out) | exact HB.out)) hb); clear BK113; clear HB; have HO118 := n0_; have BK113 := n1_; have HB := n2_; clear n0_ n1_ n2_; (try clear hb); (try clear hb2); (try clear hk); (try clear hi); (try clear ho0)))
 go_ret
 exact ⟨_, by first | rfl | (simp [errW_none, errW_some] <;> rfl) | (simp [*, errW_none, errW_some] <;> rfl), by (with_reducible repeat (first | apply Kd.R_alloc | apply Kd.R_drewN | apply Kd.R_drew)); exact HO118.out, by repeat (first | (with_reducible first | exact HB.out | apply below_alloc | apply pw_below_drewN | apply below_drew1 | refine below_set ?_ GE113.out) | exact HB.out)⟩
def oubref7_Slots.f (a0_0 : Int) (a0_1 : Int) (a0_2 : Int) (a0_3 : Int) (a0_4 : Int) (a0_5 : Int) (a0_6 : Int) (a0_7 : Int) (a0_8 : Int) (a0_9 : Int) (l0_10 : List (List Int)) : Option (Int) := some (wrap64 ((wrap64 (a0_3 * a0_4)) + a0_5))
set_option maxHeartbeats 8000000 in
set_option maxRecDepth 100000 in
theorem oubref7_Slots.calls (a0_0 : Int) (a0_1 : Int) (a0_2 : Int) (a0_3 : Int) (a0_4 : Int) (a0_5 : Int) (a0_6 : Int) (a0_7 : Int) (a0_8 : Int) (a0_9 : Int) (A0_10 : Option Addr) (c0_10 : Nat) (l0_10 : List (List Int)) (r : Int) (w : World) (hr0_10 : Kd.C (Kd.slice 3 (Kd.int .i64)) w A0_10 l0_10.length l0_10) (hc0_10 : l0_10.length ≤ c0_10) (h : oubref7_Slots.f a0_0 a0_1 a0_2 a0_3 a0_4 a0_5 a0_6 a0_7 a0_8 a0_9 l0_10 = some r) :
  Calls Tryz.prog 65 #[.agg #[.int .i64 a0_0, .int .i64 a0_1, .int .i64 a0_2, .int .i64 a0_3, .int .i64 a0_4, .int .i64 a0_5, .int .i64 a0_6, .int .i64 a0_7, .int .i64 a0_8, .int .i64 a0_9, .slice A0_10 l0_10.length c0_10]] w fun e w' => e = .returned (.int .i64 r) ∧ Below w.heap.size w w' := by
 have hu24 := Tryz.underlying24
 have HR0_10 := Aside0.mk hr0_10
 have HC0_10 := Aside0.mk hc0_10
 clear hr0_10 hc0_10
 have HB := Aside0.mk (Below.refl w.heap.size w)
 have H : (some (wrap64 ((wrap64 (a0_3 * a0_4)) + a0_5))) = some r := h
 clear h
 obtain rfl := Option.some.inj H
 go_enter Tryz.func65, Tryz.ntmps65
 go_wp2_with (first | ((with_reducible refine gate_dst (N := 1) rfl ?_); refine box_event ?hg (N := 1) ?hd (cs := #[.int .i64 a0_0, .int .i64 a0_1, .int .i64 a0_2, .int .i64 a0_3, .int .i64 a0_4, .int .i64 a0_5, .int .i64 a0_6, .int .i64 a0_7, .int .i64 a0_8, .int .i64 a0_9, .slice A0_10 l0_10.length c0_10]) (t := 24) ?hr ?_; (case hd => rfl); (case hg => rfl); (case hr => first | (go_simp; done) | (go_simp; rfl)); intro gb119 hg w2 hbox hb; have n0_ := Aside0.mk (below_step (by repeat (first | (with_reducible first | exact HB.out | apply below_alloc | apply pw_below_drewN | apply below_drew1) | exact HB.out)) hb); have n1_ := Aside0.mk (hbox); have n2_ := Aside0.mk ((by rw [hg]; exact (below_size (by repeat (first | (with_reducible first | exact HB.out | apply below_alloc | apply pw_below_drewN | apply below_drew1) | exact HB.out))) : w.heap.size ≤ gb119)); have n3_ := Aside0.mk ((by rw [hg]; exact (below_size (by repeat (first | (with_reducible first | exact HB.out | apply below_alloc | apply pw_below_drewN | apply below_drew1) | exact HB.out))) : w.heap.size ≤ gb119)); clear HB; have HB := n0_; have BK119 := n1_; have GW119 := n2_; have GE119 := n3_; clear n0_ n1_ n2_ n3_; clear hb hbox hg; have hcz3_0 : w2.cell? ⟨gb119, 0, none⟩ = some (.int .i64 a0_0) := (blk_cell BK119.out 0).trans rfl; have hcz3_1 : w2.cell? ⟨gb119, 1, none⟩ = some (.int .i64 a0_1) := (blk_cell BK119.out 1).trans rfl; have hcz3_2 : w2.cell? ⟨gb119, 2, none⟩ = some (.int .i64 a0_2) := (blk_cell BK119.out 2).trans rfl; have hcz3_3 : w2.cell? ⟨gb119, 3, none⟩ = some (.int .i64 a0_3) := (blk_cell BK119.out 3).trans rfl; have hcz3_4 : w2.cell? ⟨gb119, 4, none⟩ = some (.int .i64 a0_4) := (blk_cell BK119.out 4).trans rfl; have hcz3_5 : w2.cell? ⟨gb119, 5, none⟩ = some (.int .i64 a0_5) := (blk_cell BK119.out 5).trans rfl; have hcz3_6 : w2.cell? ⟨gb119, 6, none⟩ = some (.int .i64 a0_6) := (blk_cell BK119.out 6).trans rfl; have hcz3_7 : w2.cell? ⟨gb119, 7, none⟩ = some (.int .i64 a0_7) := (blk_cell BK119.out 7).trans rfl; have hcz3_8 : w2.cell? ⟨gb119, 8, none⟩ = some (.int .i64 a0_8) := (blk_cell BK119.out 8).trans rfl; have hcz3_9 : w2.cell? ⟨gb119, 9, none⟩ = some (.int .i64 a0_9) := (blk_cell BK119.out 9).trans rfl; have hcz3_10 : w2.cell? ⟨gb119, 10, none⟩ = some (.slice A0_10 l0_10.length c0_10) := (blk_cell BK119.out 10).trans rfl; have hfz3_0 := blk_frozen BK119.out 0; have hfz3_1 := blk_frozen BK119.out 1; have hfz3_2 := blk_frozen BK119.out 2; have hfz3_3 := blk_frozen BK119.out 3; have hfz3_4 := blk_frozen BK119.out 4; have hfz3_5 := blk_frozen BK119.out 5; have hfz3_6 := blk_frozen BK119.out 6; have hfz3_7 := blk_frozen BK119.out 7; have hfz3_8 := blk_frozen BK119.out 8; have hfz3_9 := blk_frozen BK119.out 9; have hfz3_10 := blk_frozen BK119.out 10))
 go_ret
 exact ⟨by first | rfl | (simp [errW_none, errW_some] <;> rfl) | (simp [*, errW_none, errW_some] <;> rfl), by repeat (first | (with_reducible first | exact HB.out | apply below_alloc | apply pw_below_drewN | apply below_drew1 | refine below_set ?_ GE119.out) | exact HB.out)⟩
def oubref7_MayHeight.f (a0 : Int) : Option (Bool) := if a0 ≥ 0 then (some (decide (a0 ≤ 6))) else (some false)
set_option maxHeartbeats 8000000 in
set_option maxRecDepth 100000 in
theorem oubref7_MayHeight.calls (a0 : Int) (r : Bool) (w : World) (h : oubref7_MayHeight.f a0 = some r) :
  Calls Tryz.prog 125 #[.int .i64 a0] w fun e w' => e = .returned (.bool r) ∧ Drawn0 w w' := by
 have H : (if a0 ≥ 0 then (some (decide (a0 ≤ 6))) else (some false)) = some r := h
 clear h
 by_cases c2 : a0 ≥ 0
 ·rw [if_pos c2] at H
  have c2b0 : decide (0 ≤ a0) = true := decide_eq_true c2
  clear c2
  obtain rfl := Option.some.inj H
  go_enter Tryz.func125, Tryz.ntmps125
  go_wp2
  go_ret
  exact ⟨by first | rfl | (simp; done) | (simp [*]; done), by repeat (first | exact Drawn0.refl _ | apply Drawn0.step)⟩
 ·rw [if_neg c2] at H
  have c2b0 : decide (0 ≤ a0) = false := decide_eq_false c2
  clear c2
  obtain rfl := Option.some.inj H
  go_enter Tryz.func125, Tryz.ntmps125
  go_wp2
  go_ret
  exact ⟨by first | rfl | (simp; done) | (simp [*]; done), by repeat (first | exact Drawn0.refl _ | apply Drawn0.step)⟩
def oubref7_MayLeaf.f (a0 : Int) (a1 : Int) : Option (Bool) := (oubref7_MayHeight.f a0).bind fun t120 => (if t120 = true then (if a1 ≥ 0 then (if 0 ≤ (IntKind.u64.wrap (a0)) then (some (decide (a1 < (shl .i64 1 (IntKind.u64.wrap (a0)))))) else (none)) else (some false)) else (some false))
set_option maxHeartbeats 8000000 in
set_option maxRecDepth 100000 in
theorem oubref7_MayLeaf.calls (a0 : Int) (a1 : Int) (r : Bool) (w : World) (h : oubref7_MayLeaf.f a0 a1 = some r) :
  Calls Tryz.prog 150 #[.int .i64 a0, .int .i64 a1] w fun e w' => e = .returned (.bool r) ∧ Drawn0 w w' := by
 have H : ((oubref7_MayHeight.f a0).bind fun t120 => (if t120 = true then (if a1 ≥ 0 then (if 0 ≤ (IntKind.u64.wrap (a0)) then (some (decide (a1 < (shl .i64 1 (IntKind.u64.wrap (a0)))))) else (none)) else (some false)) else (some false))) = some r := h
 clear h
 replace H := Option.bind_eq_some_iff.mp H
 obtain ⟨t120, A30, H⟩ := H
 replace H : (if t120 = true then (if a1 ≥ 0 then (if 0 ≤ (IntKind.u64.wrap (a0)) then (some (decide (a1 < (shl .i64 1 (IntKind.u64.wrap (a0)))))) else (none)) else (some false)) else (some false)) = some r := H
 have A3 := Aside0.mk A30
 clear A30
 by_cases c4 : t120 = true
 ·subst c4
  have H1 : (if a1 ≥ 0 then (if 0 ≤ (IntKind.u64.wrap (a0)) then (some (decide (a1 < (shl .i64 1 (IntKind.u64.wrap (a0)))))) else (none)) else (some false)) = some r := by rw [if_pos rfl] at H; exact H
  clear H
  have H := H1
  clear H1
  by_cases c5 : a1 ≥ 0
  ·rw [if_pos c5] at H
   have c5b0 : decide (0 ≤ a1) = true := decide_eq_true c5
   clear c5
   obtain ⟨ji6, hji6⟩ : ∃ j_ : Int, (IntKind.u64.wrap (a0)) = j_ := ⟨_, rfl⟩
   replace H : (if 0 ≤ (ji6) then (some (decide (a1 < (shl .i64 1 (ji6))))) else (none)) = some r := by first | (rw [hji6] at H; exact H) | (simp only [hji6] at H ⊢; exact H)
   (try rw [hji6] at A3)
   by_cases c7 : 0 ≤ (ji6)
   ·rw [if_pos c7] at H
    have c7b0 := eq_true c7
    have c7b1 : decide (0 ≤ (ji6)) = true := decide_eq_true c7
    clear c7
    obtain ⟨ji8, hji8⟩ : ∃ j_ : Int, (shl .i64 1 (ji6)) = j_ := ⟨_, rfl⟩
    replace H : (some (decide (a1 < (ji8)))) = some r := by first | (rw [hji8] at H; exact H) | (simp only [hji8] at H ⊢; exact H)
    (try rw [hji8] at A3)
    have hji8_ : (IntKind.i64.wrap (1 * 2 ^ min (ji6).toNat 64)) = ji8 := hji8
    have hji8z : (ji6) ≤ 64 → (IntKind.i64.wrap (1 * 2 ^ (ji6).toNat)) = ji8 := shl_small hji8
    have hji8u : (IntKind.i64.wrap (2 ^ min (ji6).toNat 64)) = ji8 := by have h_ := hji8_; rw [Int.one_mul] at h_; exact h_
    have hji8v : (ji6) ≤ 64 → (IntKind.i64.wrap (2 ^ (ji6).toNat)) = ji8 := fun hle_ => by have h_ := hji8z hle_; rw [Int.one_mul] at h_; exact h_
    have hji8y : (wrap64 (1 * 2 ^ min (ji6).toNat 64)) = ji8 := (i64_w _).symm.trans hji8_
    have hji8x : (ji6) ≤ 64 → (wrap64 (1 * 2 ^ (ji6).toNat)) = ji8 := fun h_ => (i64_w _).symm.trans (hji8z h_)
    obtain rfl := Option.some.inj H
    go_enter Tryz.func150, Tryz.ntmps150
    go_wp2_with (first | ((with_reducible refine gate_callee (f := 125) rfl ?_); refine goesL_ (some 6) rfl rfl Tryz.func125 (by kernel_rfl) rfl #[.int .i64 a0] rfl (by (try simp only [List.map_toArray, List.map_cons, List.map_nil]); first | done | rfl | (simp only [List.length_drop, List.length_take]; rfl)) ?_; (with_reducible refine (oubref7_MayHeight.calls a0 true _ A3.out).mono ?_); rintro e w' ⟨rfl, ⟨nd, rfl⟩⟩; refine ⟨_, rfl, ?_⟩))
    go_ret
    exact ⟨by first | rfl | (simp; done) | (simp only [← hji6, ← hji8] <;> (first | rfl | simp)) | (simp [*]; done), by repeat (first | exact Drawn0.refl _ | apply Drawn0.step)⟩
   ·rw [if_neg c7] at H
    exact absurd H (by simp)
  ·rw [if_neg c5] at H
   have c5b0 : decide (0 ≤ a1) = false := decide_eq_false c5
   clear c5
   obtain rfl := Option.some.inj H
   go_enter Tryz.func150, Tryz.ntmps150
   go_wp2_with (first | ((with_reducible refine gate_callee (f := 125) rfl ?_); refine goesL_ (some 6) rfl rfl Tryz.func125 (by kernel_rfl) rfl #[.int .i64 a0] rfl (by (try simp only [List.map_toArray, List.map_cons, List.map_nil]); first | done | rfl | (simp only [List.length_drop, List.length_take]; rfl)) ?_; (with_reducible refine (oubref7_MayHeight.calls a0 true _ A3.out).mono ?_); rintro e w' ⟨rfl, ⟨nd, rfl⟩⟩; refine ⟨_, rfl, ?_⟩))
   go_ret
   exact ⟨by first | rfl | (simp; done) | (simp [*]; done), by repeat (first | exact Drawn0.refl _ | apply Drawn0.step)⟩
 ·replace c4 := Bool.eq_false_iff.mpr c4
  subst c4
  have H1 : (some false) = some r := by rw [if_neg (show ¬ (false = true) by decide)] at H; exact H
  clear H
  have H := H1
  clear H1
  obtain rfl := Option.some.inj H
  go_enter Tryz.func150, Tryz.ntmps150
  go_wp2_with (first | ((with_reducible refine gate_callee (f := 125) rfl ?_); refine goesL_ (some 6) rfl rfl Tryz.func125 (by kernel_rfl) rfl #[.int .i64 a0] rfl (by (try simp only [List.map_toArray, List.map_cons, List.map_nil]); first | done | rfl | (simp only [List.length_drop, List.length_take]; rfl)) ?_; (with_reducible refine (oubref7_MayHeight.calls a0 false _ A3.out).mono ?_); rintro e w' ⟨rfl, ⟨nd, rfl⟩⟩; refine ⟨_, rfl, ?_⟩))
  go_ret
  exact ⟨by first | rfl | (simp; done) | (simp [*]; done), by repeat (first | exact Drawn0.refl _ | apply Drawn0.step)⟩
def oubref23_MayCommit.f (a0_0 : Int) (a0_1 : Int) : Option (Bool) := if a0_0 ≥ 0 then (if a0_0 ≤ 1099511627774 then (if a0_1 ≥ 0 then (some (decide (a0_1 ≤ 1099511627774))) else (some false)) else (some false)) else (some false)
set_option maxHeartbeats 8000000 in
set_option maxRecDepth 100000 in
theorem oubref23_MayCommit.calls (a0_0 : Int) (a0_1 : Int) (r : Bool) (w : World) (h : oubref23_MayCommit.f a0_0 a0_1 = some r) :
  Calls Tryz.prog 76 #[.agg #[.int .i64 a0_0, .int .i64 a0_1]] w fun e w' => e = .returned (.bool r) ∧ Below w.heap.size w w' := by
 have hu55 := Tryz.underlying55
 have HB := Aside0.mk (Below.refl w.heap.size w)
 have H : (if a0_0 ≥ 0 then (if a0_0 ≤ 1099511627774 then (if a0_1 ≥ 0 then (some (decide (a0_1 ≤ 1099511627774))) else (some false)) else (some false)) else (some false)) = some r := h
 clear h
 by_cases c2 : a0_0 ≥ 0
 ·rw [if_pos c2] at H
  have c2b0 : decide (0 ≤ a0_0) = true := decide_eq_true c2
  clear c2
  by_cases c3 : a0_0 ≤ 1099511627774
  ·rw [if_pos c3] at H
   have c3b0 : decide (a0_0 ≤ 1099511627774) = true := decide_eq_true c3
   clear c3
   by_cases c4 : a0_1 ≥ 0
   ·rw [if_pos c4] at H
    have c4b0 : decide (0 ≤ a0_1) = true := decide_eq_true c4
    clear c4
    obtain rfl := Option.some.inj H
    go_enter Tryz.func76, Tryz.ntmps76
    go_wp2_with (first | ((with_reducible refine gate_dst (N := 1) rfl ?_); refine box_event ?hg (N := 1) ?hd (cs := #[.int .i64 a0_0, .int .i64 a0_1]) (t := 55) ?hr ?_; (case hd => rfl); (case hg => rfl); (case hr => first | (go_simp; done) | (go_simp; rfl)); intro gb121 hg w5 hbox hb; have n0_ := Aside0.mk (below_step (by repeat (first | (with_reducible first | exact HB.out | apply below_alloc | apply pw_below_drewN | apply below_drew1) | exact HB.out)) hb); have n1_ := Aside0.mk (hbox); have n2_ := Aside0.mk ((by rw [hg]; exact (below_size (by repeat (first | (with_reducible first | exact HB.out | apply below_alloc | apply pw_below_drewN | apply below_drew1) | exact HB.out))) : w.heap.size ≤ gb121)); have n3_ := Aside0.mk ((by rw [hg]; exact (below_size (by repeat (first | (with_reducible first | exact HB.out | apply below_alloc | apply pw_below_drewN | apply below_drew1) | exact HB.out))) : w.heap.size ≤ gb121)); clear HB; have HB := n0_; have BK121 := n1_; have GW121 := n2_; have GE121 := n3_; clear n0_ n1_ n2_ n3_; clear hb hbox hg; have hcz6_0 : w5.cell? ⟨gb121, 0, none⟩ = some (.int .i64 a0_0) := (blk_cell BK121.out 0).trans rfl; have hcz6_1 : w5.cell? ⟨gb121, 1, none⟩ = some (.int .i64 a0_1) := (blk_cell BK121.out 1).trans rfl; have hfz6_0 := blk_frozen BK121.out 0; have hfz6_1 := blk_frozen BK121.out 1))
    go_ret
    exact ⟨by first | rfl | (simp [errW_none, errW_some] <;> rfl) | (simp [*, errW_none, errW_some] <;> rfl), by repeat (first | (with_reducible first | exact HB.out | apply below_alloc | apply pw_below_drewN | apply below_drew1 | refine below_set ?_ GE121.out) | exact HB.out)⟩
   ·rw [if_neg c4] at H
    have c4b0 : decide (0 ≤ a0_1) = false := decide_eq_false c4
    clear c4
    obtain rfl := Option.some.inj H
    go_enter Tryz.func76, Tryz.ntmps76
    go_wp2_with (first | ((with_reducible refine gate_dst (N := 1) rfl ?_); refine box_event ?hg (N := 1) ?hd (cs := #[.int .i64 a0_0, .int .i64 a0_1]) (t := 55) ?hr ?_; (case hd => rfl); (case hg => rfl); (case hr => first | (go_simp; done) | (go_simp; rfl)); intro gb121 hg w7 hbox hb; have n0_ := Aside0.mk (below_step (by repeat (first | (with_reducible first | exact HB.out | apply below_alloc | apply pw_below_drewN | apply below_drew1) | exact HB.out)) hb); have n1_ := Aside0.mk (hbox); have n2_ := Aside0.mk ((by rw [hg]; exact (below_size (by repeat (first | (with_reducible first | exact HB.out | apply below_alloc | apply pw_below_drewN | apply below_drew1) | exact HB.out))) : w.heap.size ≤ gb121)); have n3_ := Aside0.mk ((by rw [hg]; exact (below_size (by repeat (first | (with_reducible first | exact HB.out | apply below_alloc | apply pw_below_drewN | apply below_drew1) | exact HB.out))) : w.heap.size ≤ gb121)); clear HB; have HB := n0_; have BK121 := n1_; have GW121 := n2_; have GE121 := n3_; clear n0_ n1_ n2_ n3_; clear hb hbox hg; have hcz8_0 : w7.cell? ⟨gb121, 0, none⟩ = some (.int .i64 a0_0) := (blk_cell BK121.out 0).trans rfl; have hcz8_1 : w7.cell? ⟨gb121, 1, none⟩ = some (.int .i64 a0_1) := (blk_cell BK121.out 1).trans rfl; have hfz8_0 := blk_frozen BK121.out 0; have hfz8_1 := blk_frozen BK121.out 1))
    go_ret
    exact ⟨by first | rfl | (simp [errW_none, errW_some] <;> rfl) | (simp [*, errW_none, errW_some] <;> rfl), by repeat (first | (with_reducible first | exact HB.out | apply below_alloc | apply pw_below_drewN | apply below_drew1 | refine below_set ?_ GE121.out) | exact HB.out)⟩
  ·rw [if_neg c3] at H
   have c3b0 : decide (a0_0 ≤ 1099511627774) = false := decide_eq_false c3
   clear c3
   obtain rfl := Option.some.inj H
   go_enter Tryz.func76, Tryz.ntmps76
   go_wp2_with (first | ((with_reducible refine gate_dst (N := 1) rfl ?_); refine box_event ?hg (N := 1) ?hd (cs := #[.int .i64 a0_0, .int .i64 a0_1]) (t := 55) ?hr ?_; (case hd => rfl); (case hg => rfl); (case hr => first | (go_simp; done) | (go_simp; rfl)); intro gb121 hg w9 hbox hb; have n0_ := Aside0.mk (below_step (by repeat (first | (with_reducible first | exact HB.out | apply below_alloc | apply pw_below_drewN | apply below_drew1) | exact HB.out)) hb); have n1_ := Aside0.mk (hbox); have n2_ := Aside0.mk ((by rw [hg]; exact (below_size (by repeat (first | (with_reducible first | exact HB.out | apply below_alloc | apply pw_below_drewN | apply below_drew1) | exact HB.out))) : w.heap.size ≤ gb121)); have n3_ := Aside0.mk ((by rw [hg]; exact (below_size (by repeat (first | (with_reducible first | exact HB.out | apply below_alloc | apply pw_below_drewN | apply below_drew1) | exact HB.out))) : w.heap.size ≤ gb121)); clear HB; have HB := n0_; have BK121 := n1_; have GW121 := n2_; have GE121 := n3_; clear n0_ n1_ n2_ n3_; clear hb hbox hg; have hcz10_0 : w9.cell? ⟨gb121, 0, none⟩ = some (.int .i64 a0_0) := (blk_cell BK121.out 0).trans rfl; have hcz10_1 : w9.cell? ⟨gb121, 1, none⟩ = some (.int .i64 a0_1) := (blk_cell BK121.out 1).trans rfl; have hfz10_0 := blk_frozen BK121.out 0; have hfz10_1 := blk_frozen BK121.out 1))
   go_ret
   exact ⟨by first | rfl | (simp [errW_none, errW_some] <;> rfl) | (simp [*, errW_none, errW_some] <;> rfl), by repeat (first | (with_reducible first | exact HB.out | apply below_alloc | apply pw_below_drewN | apply below_drew1 | refine below_set ?_ GE121.out) | exact HB.out)⟩
 ·rw [if_neg c2] at H
  have c2b0 : decide (0 ≤ a0_0) = false := decide_eq_false c2
  clear c2
  obtain rfl := Option.some.inj H
  go_enter Tryz.func76, Tryz.ntmps76
  go_wp2_with (first | ((with_reducible refine gate_dst (N := 1) rfl ?_); refine box_event ?hg (N := 1) ?hd (cs := #[.int .i64 a0_0, .int .i64 a0_1]) (t := 55) ?hr ?_; (case hd => rfl); (case hg => rfl); (case hr => first | (go_simp; done) | (go_simp; rfl)); intro gb121 hg w11 hbox hb; have n0_ := Aside0.mk (below_step (by repeat (first | (with_reducible first | exact HB.out | apply below_alloc | apply pw_below_drewN | apply below_drew1) | exact HB.out)) hb); have n1_ := Aside0.mk (hbox); have n2_ := Aside0.mk ((by rw [hg]; exact (below_size (by repeat (first | (with_reducible first | exact HB.out | apply below_alloc | apply pw_below_drewN | apply below_drew1) | exact HB.out))) : w.heap.size ≤ gb121)); have n3_ := Aside0.mk ((by rw [hg]; exact (below_size (by repeat (first | (with_reducible first | exact HB.out | apply below_alloc | apply pw_below_drewN | apply below_drew1) | exact HB.out))) : w.heap.size ≤ gb121)); clear HB; have HB := n0_; have BK121 := n1_; have GW121 := n2_; have GE121 := n3_; clear n0_ n1_ n2_ n3_; clear hb hbox hg; have hcz12_0 : w11.cell? ⟨gb121, 0, none⟩ = some (.int .i64 a0_0) := (blk_cell BK121.out 0).trans rfl; have hcz12_1 : w11.cell? ⟨gb121, 1, none⟩ = some (.int .i64 a0_1) := (blk_cell BK121.out 1).trans rfl; have hfz12_0 := blk_frozen BK121.out 0; have hfz12_1 := blk_frozen BK121.out 1))
  go_ret
  exact ⟨by first | rfl | (simp [errW_none, errW_some] <;> rfl) | (simp [*, errW_none, errW_some] <;> rfl), by repeat (first | (with_reducible first | exact HB.out | apply below_alloc | apply pw_below_drewN | apply below_drew1 | refine below_set ?_ GE121.out) | exact HB.out)⟩
def oubref23_upTo.f (l0 : List Int) (a1 : Int) (a2 : Int) : Option (List Int) := (oubref2_Fill.f l0 (wrap64 (a1 + a2))).bind fun t122 => (some t122)
set_option maxHeartbeats 8000000 in
set_option maxRecDepth 100000 in
theorem oubref23_upTo.calls (A0 : Option Addr) (c0 : Nat) (l0 : List Int) (a1 : Int) (a2 : Int) (r : List Int) (w : World) (hr0 : Kd.C (Kd.int .u8) w A0 l0.length l0) (hc0 : l0.length ≤ c0) (h : oubref23_upTo.f l0 a1 a2 = some r) :
  Calls Tryz.prog 55 #[.slice A0 l0.length c0, .int .i64 a1, .int .i64 a2] w fun e w' => ∃ v0_ : Value, e = .returned (v0_) ∧ Kd.R (Kd.int .u8) 5 w' w.heap.size (fun _ => True) v0_ r ∧ Below w.heap.size w w' := by
 have HR0 := Aside0.mk hr0
 have HC0 := Aside0.mk hc0
 clear hr0 hc0
 have HB := Aside0.mk (Below.refl w.heap.size w)
 have H : ((oubref2_Fill.f l0 (wrap64 (a1 + a2))).bind fun t122 => (some t122)) = some r := h
 clear h
 replace H := Option.bind_eq_some_iff.mp H
 obtain ⟨t122, A40, H⟩ := H
 replace H : (some t122) = some r := H
 have A4 := Aside0.mk A40
 clear A40
 obtain rfl := Option.some.inj H
 go_enter Tryz.func55, Tryz.ntmps55
 go_wp2_with (first | ((with_reducible refine gate_callee (f := 141) rfl ?_); refine goesL_ (some 11) rfl rfl Tryz.func141 (by kernel_rfl) rfl #[.slice A0 l0.length c0, .int .i64 (wrap64 (a1 + a2))] rfl (by (try simp only [List.map_toArray, List.map_cons, List.map_nil]); first | done | rfl | (simp only [List.length_drop, List.length_take]; rfl)) ?_; (with_reducible refine (oubref2_Fill.calls _ _ l0 (wrap64 (a1 + a2)) t122 _ ?side1 ?side2 A4.out).mono ?_); (case side1 => repeat (first | exact HR0.out | (with_reducible refine Kd.C_alloc ?_ _) | (with_reducible refine Kd.C_drewN ?_ _) | (with_reducible refine Kd.C_drew ?_))); (case side2 => exact HC0.out); rintro e w5 ⟨v123, rfl, ho0, hb⟩; refine ⟨_, rfl, ?_⟩; have n0_ := Aside0.mk (Kd.R_lower ho0 (below_size (by repeat (first | (with_reducible first | exact HB.out | apply below_alloc | apply pw_below_drewN | apply below_drew1) | exact HB.out)))); have n1_ := Aside0.mk (below_step (by repeat (first | (with_reducible first | exact HB.out | apply below_alloc | apply pw_below_drewN | apply below_drew1) | exact HB.out)) hb); clear HB; have HO124 := n0_; have HB := n1_; clear n0_ n1_; (try clear hb); (try clear hb2); (try clear hk); (try clear hi); (try clear ho0)))
 go_ret
 exact ⟨_, by first | rfl | (simp [errW_none, errW_some] <;> rfl) | (simp [*, errW_none, errW_some] <;> rfl), by (with_reducible repeat (first | apply Kd.R_alloc | apply Kd.R_drewN | apply Kd.R_drew)); exact HO124.out, by repeat (first | (with_reducible first | exact HB.out | apply below_alloc | apply pw_below_drewN | apply below_drew1) | exact HB.out)⟩
end Go.Proofs.YtmbnomlkhmcmaaaGreat.D
end
section
namespace Go.Proofs.YtmbnomlkhmcmaaaGreat.D
open Go.RowKit Go.Proofs.YtmbnomlkhmcmaaaGreat.G Go.Proofs.YtmbnomlkhmcmaaaGreat.C Go.Proofs.YtmbnomlkhmcmaaaGreatW.PrintWords Go.Proofs.YtmbnomlkhmcmaaaGreatW.PrintLast Go.Proofs.YtmbnomlkhmcmaaaGreatW.PrintMore
attribute [local go_sem] max2_int min2_int max_two min_two max_three min_three max_four min_four
set_option linter.unusedVariables false
set_option linter.unusedSimpArgs false
end Go.Proofs.YtmbnomlkhmcmaaaGreat.D
end
section
namespace Go.Proofs.YtmbnomlkhmcmaaaGreat.A
open Go.RowKit Go.Shelf Go.Proofs.YtmbnomlkhmcmaaaGreatW.PrintWords Go.Proofs.YtmbnomlkhmcmaaaGreatW.PrintLast Go.Proofs.YtmbnomlkhmcmaaaGreatW.PrintMore Go.Proofs.YtmbnomlkhmcmaaaGreat.C
set_option linter.unusedVariables false
set_option linter.unusedSimpArgs false
def Rb (w0 : World) (rows : List (Nat × Obj)) (w : World) (v : Value) (xs : List Int) : Prop :=
  Sr w0 rows w ∧ Kd.R (Kd.int .u8) 5 w w0.heap.size (fun k => ∀ o, (k, o) ∉ rows) v xs
section
variable {w0 w w' : World} {rows rows' : List (Nat × Obj)} {v : Value} {xs : List Int}
theorem Rb.sr (h : Rb w0 rows w v xs) : Sr w0 rows w := h.1
theorem Rb.bel (h : Rb w0 rows w v xs) : Below w0.heap.size w0 w := h.1.1
theorem Rb.start (h : Sr w0 rows w) : Rb w0 rows w (.slice none 0 0) [] := ⟨h, Kd.R_nil _ _ _ _ _⟩
theorem Rb.below (h : Rb w0 rows w v xs) (hb : Below w.heap.size w w') : Rb w0 rows w' v xs := ⟨h.1.below hb, Kd.R_below h.2 hb⟩
theorem Rb.less (h : Rb w0 rows w v xs) (hr : ∀ r ∈ rows', r ∈ rows) : Rb w0 rows' w v xs := ⟨h.1.less hr, Kd.R_mono h.2 (fun k hk o ho => hk o (hr _ ho))⟩
theorem Rb.box (h : Rb w0 rows w v xs) {g : Nat} {o : Obj} (hg : g = w.heap.size) (ho : w'.heap[g]? = some o) (hb : Below w.heap.size w w') : Rb w0 ((g, o) :: rows) w' v xs := by
  refine ⟨h.1.box hg ho hb, Kd.R_below (Kd.R_mono (Kd.R_bound h.2) (fun k hk o' hm => ?_)) hb⟩
  rcases List.mem_cons.1 hm with e | hm
  · injection e with e1 _
    have := hk.2.2.1
    omega
  · exact hk.1 o' hm
theorem Rb.row (h : Rb w0 rows w v xs) (o : Obj) : Rb w0 ((w.heap.size, o) :: rows) (w.alloc o) v xs := h.box rfl (heap_top w o) (allocB w o)
theorem Rb.reads (h : Rb w0 rows w v xs) : ∃ A c, v = .slice A xs.length c ∧ xs.length ≤ c ∧ Kd.C (Kd.int .u8) w A xs.length xs := Kd.R_reads h.2
theorem Rb.new {w1 : World} {v1 : Value} {ys : List Int} (h : Sr w0 rows w) (hR : Kd.R (Kd.int .u8) 5 w1 w.heap.size (fun _ => True) v1 ys) (hb : Below w.heap.size w w1) : Rb w0 rows w1 v1 ys := by
  refine ⟨h.below hb, Kd.R_lower (Kd.R_mono (Kd.R_bound hR) (fun k hk o hm => ?_)) h.bel.size⟩
  have h1 := h.lt hm
  have h2 := hk.2.1
  have h3 : (k, o).1 = k := rfl
  omega
theorem Rb.grown {w1 : World} {v1 : Value} {ys : List Int} (h : Rb w0 rows w v xs) (ho : Kd.R (Kd.int .u8) 5 w1 w0.heap.size (fun k => ∀ o, (k, o) ∉ rows) v1 ys) (hb : Below w0.heap.size w0 w1) (hg : w.grownBy w1 v.ownBlock) : Rb w0 rows w1 v1 ys := by
  refine ⟨h.1.1 |> fun _ => ⟨hb, fun r hr => ⟨(h.1.2 r hr).1, (hg.block r.1 (h.1.lt hr) (fun e => ?_)).trans (h.1.2 r hr).2⟩⟩, ho⟩
  exact h.2.1 r.1 e.symm r.2 hr
theorem Rb.fresh (h : Rb w0 rows w v xs) (k : Nat) (hk : w.heap.size ≤ k) : ∀ o, (k, o) ∉ rows := fun o hm => by
  have h1 := h.1.lt hm
  have h3 : (k, o).1 = k := rfl
  omega
end
theorem most_f (width : Nat) (h1 : 1 ≤ width) (h2 : width ≤ 7) : D.oubref2_most.f (width : Int) = some (2 ^ (8 * width) - 1) := by
  rcases (by omega : width = 1 ∨ width = 2 ∨ width = 3 ∨ width = 4 ∨ width = 5 ∨ width = 6 ∨ width = 7) with rfl | rfl | rfl | rfl | rfl | rfl | rfl <;> decide +kernel
theorem be_ones (width : Nat) (h1 : 1 ≤ width) (h2 : width ≤ 7) : be width (2 ^ (8 * width) - 1) = be width (-1) := by
  rcases (by omega : width = 1 ∨ width = 2 ∨ width = 3 ∨ width = 4 ∨ width = 5 ∨ width = 6 ∨ width = 7) with rfl | rfl | rfl | rfl | rfl | rfl | rfl <;> decide +kernel
theorem u8_mod (z : Int) : IntKind.u8.wrap z = z % 256 := by
  unfold IntKind.wrap
  simp [IntKind.signed, IntKind.bits]
theorem put_loop (n : Int) (width : Nat) (h2 : width ≤ 7) : ∀ (i : Nat) (j : Nat) (xs : List Int) (k : Nat), j + i = width → i + 2 ≤ k → xs.length + i ≤ 4294967296 →
    D.oubref2_Put.l0 k (xs ++ (be width n).take j) n ((i : Int) - 1) = some (xs ++ be width n, true)
  | 0, j, xs, k + 1, hj, _, _ => by
    unfold D.oubref2_Put.l0
    rw [if_neg (by omega), List.take_of_length_le (by rw [be_length]; omega)]
  | i + 1, j, xs, k + 1, hj, hk, hl => by
    have h3 := put_loop n width h2 i (j + 1) xs k (by omega) (by omega) (by omega)
    have e8 : wrap64 (8 * (((i + 1 : Nat) : Int) - 1)) = ((8 * i : Nat) : Int) := by rw [wr64 (by omega) (by omega)]; omega
    have eu : IntKind.u64.wrap ((8 * i : Nat) : Int) = ((8 * i : Nat) : Int) := by
      unfold IntKind.wrap
      simp [IntKind.signed, IntKind.bits]
      omega
    unfold D.oubref2_Put.l0
    rw [if_pos (by omega), e8, eu, if_pos (by omega), if_pos (by rw [List.length_append, List.length_take, be_length]; omega)]
    rw [wr64 (by omega) (by omega), List.append_assoc]
    have es : shr .i64 n ((8 * i : Nat) : Int) % 256 = IntKind.u8.wrap (n / 2 ^ (8 * (width - 1 - j))) := by
      unfold shr
      rw [u8_mod, Int.toNat_natCast, Nat.min_eq_left (by show 8 * i ≤ 64; omega), show width - 1 - j = i by omega]
    rw [es, ← be_take width n j (by omega), show (((i + 1 : Nat) : Int) - 1 - 1) = (i : Int) - 1 by omega]
    exact h3
theorem Put_f (xs : List Int) (width : Nat) (n : Int) (h1 : 1 ≤ width) (h2 : width ≤ 7) (hn : okN width n) (hl : xs.length ≤ 4294960000) (k : Nat) (hk : 16 ≤ k) : D.oubref2_Put.f k xs width n = some (xs ++ be width n, true) := by
  obtain ⟨k, rfl⟩ : ∃ k', k = k' + 1 + 1 := ⟨k - 2, by omega⟩
  obtain ⟨h3, h4⟩ := hn
  have hm := most_f width h1 h2
  have hb : (2 : Int) ^ (8 * width) - 1 ≤ 72057594037927935 := by
    rcases (by omega : width = 1 ∨ width = 2 ∨ width = 3 ∨ width = 4 ∨ width = 5 ∨ width = 6 ∨ width = 7) with rfl | rfl | rfl | rfl | rfl | rfl | rfl <;> decide
  have loop : ∀ m : Int, D.oubref2_Put.l0 k xs m ((width : Int) - 1) = some (xs ++ be width m, true) := fun m => by
    have := put_loop m width h2 width 0 xs k (by omega) (by omega) (by omega)
    simpa using this
  unfold D.oubref2_Put.f
  rw [if_neg (by omega), if_neg (by omega), if_neg (by omega), hm, Option.bind_some, wr64 (z := 2 ^ (8 * width) - 1 - 1) (by omega) (by omega), decide_eq_false (by omega)]
  have j1 : ∀ m : Int, D.oubref2_Put.j1 (k + 1) xs width m = some (xs ++ be width m, true) := fun m => by
    show D.oubref2_Put.l0 k xs m (wrap64 ((width : Int) - 1)) = _
    rw [wr64 (by omega) (by omega), loop]
  show (if false = true then some (xs, false) else if n = -1 then (D.oubref2_most.f width).bind fun t102 => D.oubref2_Put.j1 (k + 1) xs width t102 else D.oubref2_Put.j1 (k + 1) xs width n) = _
  rw [if_neg (by decide)]
  by_cases e : n = -1
  · rw [if_pos e, hm, Option.bind_some, j1, be_ones width h1 h2, e]
  · rw [if_neg e, j1]
theorem nums_loop (width : Nat) (h1 : 1 ≤ width) (h2 : width ≤ 7) (l : List Int) (hok : ∀ n ∈ l, okN width n) (hll : l.length ≤ 300) : ∀ (r : Nat) (j : Nat) (xs : List Int) (k : Nat), j + r = l.length → r + 20 ≤ k → xs.length ≤ 4294000000 →
    D.oubref2_Nums.l0 k (xs ++ bes width (l.take j)) width l (j : Int) = some (xs ++ bes width l)
  | 0, j, xs, k + 1, hj, _, _ => by
    unfold D.oubref2_Nums.l0
    rw [if_neg (by omega), List.take_of_length_le (by omega)]
  | r + 1, j, xs, k + 1, hj, hk, hl => by
    have h3 := nums_loop width h1 h2 l hok hll r (j + 1) xs k (by omega) (by omega) hl
    have hj2 : j < l.length := by omega
    have hrd : rd l (j : Int) = l[j] := by unfold rd; rw [Int.toNat_natCast, List.getD_eq_getElem?_getD, List.getElem?_eq_getElem hj2]; rfl
    have hbl : (bes width (l.take j)).length ≤ 2100 := by
      rw [bes_length, List.length_take]
      exact Nat.le_trans (Nat.mul_le_mul h2 (show min j l.length ≤ 300 by omega)) (by omega)
    unfold D.oubref2_Nums.l0
    rw [if_pos (by omega), if_pos (by omega), hrd, Put_f _ width _ h1 h2 (hok _ (List.getElem_mem hj2)) (by rw [List.length_append]; omega) k (by omega), Option.bind_some]
    have e : xs ++ bes width (l.take j) ++ be width l[j] = xs ++ bes width (l.take (j + 1)) := by
      rw [List.take_succ_eq_append_getElem hj2, bes_snoc, List.append_assoc]
    show D.oubref2_Nums.l0 k (xs ++ bes width (l.take j) ++ be width l[j]) width l (wrap64 ((j : Int) + 1)) = _
    rw [e, wr64 (by omega) (by omega), show (j : Int) + 1 = ((j + 1 : Nat) : Int) by omega]
    exact h3
theorem Nums_f (xs : List Int) (width : Nat) (l : List Int) (h1 : 1 ≤ width) (h2 : width ≤ 7) (hok : ∀ n ∈ l, okN width n) (hll : l.length ≤ 300) (hl : xs.length ≤ 4294000000) : D.oubref2_Nums.f 400 xs width l = some (xs ++ bes width l) := by
  have := nums_loop width h1 h2 l hok hll l.length 0 xs 400 (by omega) (by omega) hl
  unfold D.oubref2_Nums.f
  simpa [bes] using this
theorem C_heap {w W : World} {A : Option Addr} {n : Nat} {l : List Int} (hC : Kd.C (Kd.int .i64) w A n l) (hsz : w.heap.size ≤ W.heap.size) (hb : ∀ k, k < w.heap.size → W.heap[k]? = w.heap[k]?) : Kd.C (Kd.int .i64) W A n l := by
  have h : Kd.C (Kd.int .i64) { w with heap := W.heap } A n l := Kd.C_below hC ⟨rfl, rfl, rfl, hsz, hb⟩
  exact h
section
variable {w0 w w' : World} {rows : List (Nat × Obj)} {v : Value} {xs : List Int}
theorem Rb.nums (width : Nat) (wi : Int) (l : List Int) (A : Option Addr) (n c : Nat) (h : Rb w0 rows w v xs) (hwi : (width : Int) = wi) (hn : l.length = n) (hc : l.length ≤ c) (hC : ∀ W : World, w0.heap.size ≤ W.heap.size → (∀ k, k < w0.heap.size → W.heap[k]? = w0.heap[k]?) → (∀ r ∈ rows, W.heap[r.1]? = some r.2) → Kd.C (Kd.int .i64) W A l.length l) (h1 : 1 ≤ width) (h2 : width ≤ 7) (hl : l.length ≤ 300) (hok : ∀ n ∈ l, okN width n) (hx : xs.length ≤ 4000000) :
    Calls Tryz.prog 53 #[v, .int .i64 wi, .slice A n c] w fun e w' => ∃ v', e = .returned v' ∧ Rb w0 rows w' v' (xs ++ bes width l) := by
  subst hwi hn
  have hR := Kd.R_tight (by rfl) h.2
  have keep : ∀ W, Below w0.heap.size w0 W → Kept w W (fun k => some k = v.ownBlock) → Sr w0 rows W := fun W hb hk => ⟨hb, fun r hr => ⟨(h.1.2 r hr).1, (hk.2 r.1 (h.1.lt hr) (fun e => h.2.1 r.1 e.symm r.2 hr)).trans (h.1.2 r hr).2⟩⟩
  have keepB : ∀ W, Kept w W (fun k => some k = v.ownBlock) → Kd.C (Kd.int .i64) W A l.length l := fun W hk =>
    hC W (Nat.le_trans h.bel.size hk.1) (fun k hlt => (hk.2 k (Nat.lt_of_lt_of_le hlt h.bel.size) (fun e => by have := ((Kd.R_bound h.2).1 k e.symm).2.1; omega)).trans (h.bel.block k hlt)) (fun r hr => (hk.2 r.1 (h.1.lt hr) (fun e => h.2.1 r.1 e.symm r.2 hr)).trans (h.1.2 r hr).2)
  refine (D.oubref2_Nums.calls 400 (fun k => some k = v.ownBlock) v xs width A c l _ w0 w h.bel hR keepB hc (Nums_f xs width l h1 h2 hok hl (by omega))).mono ?_
  rintro e w' ⟨v', rfl, hv, hb, hk⟩
  refine ⟨v', rfl, keep w' hb hk, Kd.R_mono hv (fun k hk2 o hm => ?_)⟩
  rcases hk2 with e | hge
  · exact h.2.1 k e.symm o hm
  · exact h.fresh k hge o hm
theorem Rb.numsR (width : Nat) (wi : Int) (l : List Int) (b n c : Nat) (h : Rb w0 rows w v xs) (hwi : (width : Int) = wi) (hn : l.length = n) (hc : l.length ≤ c) (hr : (b, rowo l) ∈ rows) (h1 : 1 ≤ width) (h2 : width ≤ 7) (hl : l.length ≤ 300) (hok : ∀ n ∈ l, okN width n) (hx : xs.length ≤ 4000000) :
    Calls Tryz.prog 53 #[v, .int .i64 wi, .slice (some ⟨b, 0, none⟩) n c] w fun e w' => ∃ v', e = .returned v' ∧ Rb w0 rows w' v' (xs ++ bes width l) :=
  Rb.nums width wi l _ n c h hwi hn hc (fun W _ _ hW => C_ints (hW _ hr) (by omega)) h1 h2 hl hok hx
theorem Rb.numsS (width : Nat) (wi : Int) (l : List Int) (A : Option Addr) (n c : Nat) (h : Rb w0 rows w v xs) (hwi : (width : Int) = wi) (hn : l.length = n) (hc : l.length ≤ c) (hC : Kd.C (Kd.int .i64) w0 A l.length l) (h1 : 1 ≤ width) (h2 : width ≤ 7) (hl : l.length ≤ 300) (hok : ∀ n ∈ l, okN width n) (hx : xs.length ≤ 4000000) :
    Calls Tryz.prog 53 #[v, .int .i64 wi, .slice A n c] w fun e w' => ∃ v', e = .returned v' ∧ Rb w0 rows w' v' (xs ++ bes width l) :=
  Rb.nums width wi l A n c h hwi hn hc (fun W hs hb _ => C_heap hC hs hb) h1 h2 hl hok hx
end
end Go.Proofs.YtmbnomlkhmcmaaaGreat.A
end
section
namespace Go.Proofs.YtmbnomlkhmcmaaaGreat.A
open Go.RowKit Go.Shelf Go.Proofs.YtmbnomlkhmcmaaaGreatW.PrintWords Go.Proofs.YtmbnomlkhmcmaaaGreatW.PrintLast Go.Proofs.YtmbnomlkhmcmaaaGreatW.PrintMore Go.Proofs.YtmbnomlkhmcmaaaGreat.C Go.Proofs.YtmbnomlkhmcmaaaGreat.Z
set_option linter.unusedVariables false
set_option linter.unusedSimpArgs false
def plc (lf tg : Int) : List Int := bes 1 [lf] ++ bes 4 [tg]
theorem one_ok {width : Nat} {n : Int} (h : okN width n) : ∀ m ∈ [n], okN width m := fun m hm => by rw [List.mem_singleton.1 hm]; exact h
set_option maxHeartbeats 4000000 in
set_option maxRecDepth 100000 in
theorem Rb.place {w0 w : World} {rows : List (Nat × Obj)} {v : Value} {xs : List Int} (h : Rb w0 rows w v xs) (lf tg : Int) (hl : okN 1 lf) (ht : okN 4 tg) (hx : xs.length ≤ 3900000) :
  Calls Tryz.prog 54 #[v, .agg #[.int .i64 lf, .int .i64 tg]] w fun e w' => ∃ v', e = .returned v' ∧ Rb w0 rows w' v' (xs ++ plc lf tg) := by
 have H := Lib.hid h
 have H1 := Lib.hid (one_ok hl)
 have H4 := Lib.hid (one_ok ht)
 have HX := Lib.hid hx
 clear h hl ht hx
 go_enter Tryz.func54, Tryz.ntmps54
 go_upto_region 1 with (first
  | ((with_reducible refine gate_dst (N := 3) rfl ?_); refine box_event ?hg (N := 3) ?hd (cs := #[.int .i64 lf, .int .i64 tg]) (t := 72) ?hr ?_; (case hd => rfl); (case hg => rfl); (case hr => first | (go_simp; done) | (go_simp; rfl)); intro gp hg_ w1 hbox_ hb_; have HR0 := Lib.hid (Rb.box H.out hg_ hbox_ hb_); clear hbox_ hb_ hg_)
  | fail)
 have HS : ∀ w', Sr w0 ((gp, Obj.cells #[.int .i64 lf, .int .i64 tg] 72) :: rows) w' → w'.cell? ⟨gp, 0, none⟩ = some (.int .i64 lf) ∧ w'.cell? ⟨gp, 1, none⟩ = some (.int .i64 tg) := fun w' h => ⟨h.cell mh 0 rfl, h.cell mh 1 rfl⟩
 refine stq 10 0 (fun w' => w'.cell? ⟨gp, 0, none⟩ = some (.int .i64 lf) ∧ w'.cell? ⟨gp, 1, none⟩ = some (.int .i64 tg)) (HS _ (HR0.out.below (drewB _)).sr) (fun hHeld => ?_)
 have HR1 := Lib.hid (HR0.out.below (drewB _))
 generalize w1.drew = W2 at HR1 hHeld ⊢
 refine pq 0 5 10 1 ?_
 refine pq 1 6 10 3 ?_
 refine pq 5 10 10 35 ?_
 refine tq 2 7 10 39 hHeld ?_
 refine tq 6 11 10 103 hHeld ?_
 refine join_ (σ := Nat × Nat × Value) 2 (bm 10 255) (fun s => [(8, .slice (some ⟨s.1, 0, none⟩) 1 1), (9, s.2.2), (12, .slice (some ⟨s.2.1, 0, none⟩) 1 1)]) (fun s w' => Rb w0 ((s.1, rowo [lf]) :: (s.2.1, rowo [tg]) :: (gp, Obj.cells #[.int .i64 lf, .int .i64 tg] 72) :: rows) w' (s.2.2) (xs ++ bes 1 [lf])) ?_ ?_
 rotate_left
 ·intro hJ3_4_7
  refine join_ (σ := Nat × Value) 3 (bm 10 127) (fun s => [(8, .slice (some ⟨s.1, 0, none⟩) 1 1), (9, s.2)]) (fun s w' => Rb w0 ((s.1, rowo [lf]) :: (gp, Obj.cells #[.int .i64 lf, .int .i64 tg] 72) :: rows) w' (s.2) (xs ++ bes 1 [lf])) ?_ ?_
  rotate_left
  ·intro hJ3_4
   refine join_ (σ := Nat × Nat) 3 (bm 10 239) (fun s => [(8, .slice (some ⟨s.1, 0, none⟩) 1 1), (12, .slice (some ⟨s.2, 0, none⟩) 1 1)]) (fun s w' => Rb w0 ((s.1, rowo [lf]) :: (s.2, rowo [tg]) :: (gp, Obj.cells #[.int .i64 lf, .int .i64 tg] 72) :: rows) w' (v) xs) ?_ ?_
   rotate_left
   ·intro hJ3_7
    refine join_ (σ := Nat) 4 (bm 10 111) (fun s => [(8, .slice (some ⟨s, 0, none⟩) 1 1)]) (fun s w' => Rb w0 ((s, rowo [lf]) :: (gp, Obj.cells #[.int .i64 lf, .int .i64 tg] 72) :: rows) w' (v) xs) ?_ ?_
    rotate_left
    ·intro hJ3
     refine join_ (σ := Nat) 4 (bm 10 231) (fun s => [(12, .slice (some ⟨s, 0, none⟩) 1 1)]) (fun s w' => Rb w0 ((s, rowo [tg]) :: (gp, Obj.cells #[.int .i64 lf, .int .i64 tg] 72) :: rows) w' (v) xs) ?_ ?_
     rotate_left
     ·intro hJ7
      refine twq 3 7 8 12 10 111 231 (fun K hK => ?_) (fun K hK => ?_)
      ·refine vq ?_
       refine hK.out _ _ (HS _ ((HR1.out.row _).sr.less (fun _ hr => (mt hr)))) (fun hHeld => ?_)
       clear hK K
       refine nx 8 ?_
       exact nz (hJ3 W2.heap.size _ ((HR1.out.row _).less (mc mh (fun _ hr => (mt hr)))))
      ·refine vq ?_
       refine hK.out _ _ (HS _ ((HR1.out.row _).sr.less (fun _ hr => (mt hr)))) (fun hHeld => ?_)
       clear hK K
       refine nx 12 ?_
       exact nz (hJ7 W2.heap.size _ ((HR1.out.row _).less (mc mh (fun _ hr => (mt hr)))))
     ·rintro b7 wn hh
      have HH := Lib.hid hh
      clear hh
      have hHeld := HS _ (HH.out.sr.less (fun _ hr => (mt hr)))
      refine ny ?_
      refine oq 3 8 10 239 (fun K hK => ?_)
      refine vq ?_
      refine hK.out _ _ (HS _ ((HH.out.row _).sr.less (fun _ hr => (mt (mt hr))))) (fun hHeld => ?_)
      clear hK K
      refine nx 8 ?_
      exact nz (hJ3_7 (wn.heap.size, b7) _ ((HH.out.row _).less (mc mh (mc (mt mh) (fun _ hr => (mt (mt hr)))))))
    ·rintro b3 wn hh
     have HH := Lib.hid hh
     clear hh
     have hHeld := HS _ (HH.out.sr.less (fun _ hr => (mt hr)))
     refine ny ?_
     refine twq 4 7 9 12 10 127 239 (fun K hK => ?_) (fun K hK => ?_)
     ·refine gq Tryz.func53 #[v, .int .i64 1, .slice (some ⟨b3, 0, none⟩) 1 1] ?_
      with_reducible refine ((Rb.numsR 1 1 [lf] b3 1 1 HH.out rfl rfl (by simp) mh (by decide) (by decide) (by simp) H1.out (by have := HX.out; omega))).mono ?_
      rintro e wn' ⟨v4, rfl, hn⟩
      refine ⟨_, rfl, ?_⟩
      have HN := Lib.hid hn
      clear hn
      refine hK.out _ _ (HS _ (HN.out.sr.less (fun _ hr => (mt hr)))) (fun hHeld => ?_)
      clear hK K
      refine nx 9 ?_
      exact nz (hJ3_4 (b3, v4) _ HN.out)
     ·refine vq ?_
      refine hK.out _ _ (HS _ ((HH.out.row _).sr.less (fun _ hr => (mt (mt hr))))) (fun hHeld => ?_)
      clear hK K
      refine nx 12 ?_
      exact nz (hJ3_7 (b3, wn.heap.size) _ ((HH.out.row _).less (mc (mt mh) (mc mh (fun _ hr => (mt (mt hr)))))))
   ·rintro ⟨b3, b7⟩ wn hh
    have HH := Lib.hid hh
    clear hh
    have hHeld := HS _ (HH.out.sr.less (fun _ hr => (mt (mt hr))))
    refine ny ?_
    refine oq 4 9 10 255 (fun K hK => ?_)
    refine gq Tryz.func53 #[v, .int .i64 1, .slice (some ⟨b3, 0, none⟩) 1 1] ?_
    with_reducible refine ((Rb.numsR 1 1 [lf] b3 1 1 HH.out rfl rfl (by simp) mh (by decide) (by decide) (by simp) H1.out (by have := HX.out; omega))).mono ?_
    rintro e wn' ⟨v4, rfl, hn⟩
    refine ⟨_, rfl, ?_⟩
    have HN := Lib.hid hn
    clear hn
    refine hK.out _ _ (HS _ (HN.out.sr.less (fun _ hr => (mt (mt hr))))) (fun hHeld => ?_)
    clear hK K
    refine nx 9 ?_
    exact nz (hJ3_4_7 (b3, b7, v4) _ HN.out)
  ·rintro ⟨b3, v4⟩ wn hh
   have HH := Lib.hid hh
   clear hh
   have hHeld := HS _ (HH.out.sr.less (fun _ hr => (mt hr)))
   refine ny ?_
   refine oq 7 12 10 255 (fun K hK => ?_)
   refine vq ?_
   refine hK.out _ _ (HS _ ((HH.out.row _).sr.less (fun _ hr => (mt (mt hr))))) (fun hHeld => ?_)
   clear hK K
   refine nx 12 ?_
   exact nz (hJ3_4_7 (b3, wn.heap.size, v4) _ ((HH.out.row _).less (mc (mt mh) (mc mh (fun _ hr => (mt (mt hr)))))))
 rintro ⟨b3, b7, v4⟩ wn hh
 have HH := Lib.hid hh
 clear hh
 have hHeld := HS _ (HH.out.sr.less (fun _ hr => (mt (mt hr))))
 refine ny ?_
 refine oq 8 13 10 511 (fun K hK => ?_)
 refine gq Tryz.func53 #[v4, .int .i64 4, .slice (some ⟨b7, 0, none⟩) 1 1] ?_
 with_reducible refine ((Rb.numsR 4 4 [tg] b7 1 1 HH.out rfl rfl (by simp) (mt mh) (by decide) (by decide) (by simp) H4.out (by simp [bes_length]; have := HX.out; omega))).mono ?_
 rintro e wq ⟨vq, rfl, hn⟩
 refine ⟨_, rfl, ?_⟩
 have HQ := Lib.hid hn
 clear hn
 refine hK.out _ _ (HS _ (HQ.out.sr.less (fun _ hr => mt (mt hr)))) (fun hHeld => ?_)
 clear hK K
 refine nx 13 ?_
 refine pq 9 4 10 1023 ?_
 refine done_ (by kernel_rfl) ?_
 go_wp2_with fail
 go_ret
 refine ⟨vq, rfl, ?_⟩
 have hq := HQ.out.less (rows' := rows) (fun _ hr => mt (mt (mt hr)))
 unfold plc
 rw [← List.append_assoc]
 exact hq
end Go.Proofs.YtmbnomlkhmcmaaaGreat.A
end
section
namespace Go.Proofs.YtmbnomlkhmcmaaaGreat.A
open Go.RowKit Go.Shelf Go.Proofs.YtmbnomlkhmcmaaaGreatW.PrintWords Go.Proofs.YtmbnomlkhmcmaaaGreatW.PrintLast Go.Proofs.YtmbnomlkhmcmaaaGreatW.PrintMore Go.Proofs.YtmbnomlkhmcmaaaGreat.C
set_option linter.unusedVariables false
set_option linter.unusedSimpArgs false
theorem bes1 (n : Int) : bes 1 [n] = [n % 256] := by
  show [IntKind.u8.wrap (n / 2 ^ (8 * (1 - 1 - 0)))] = _
  rw [u8_mod]
  simp
theorem Rb.upTo {w0 w : World} {rows : List (Nat × Obj)} {v : Value} {xs : List Int} (h : Rb w0 rows w v xs) (f l L : Int) (hL : wrap64 (f + l) = L) (h1 : (xs.length : Int) ≤ L) (h2 : L ≤ 1048576) :
    Calls Tryz.prog 55 #[v, .int .i64 f, .int .i64 l] w fun e w' => ∃ v', e = .returned v' ∧ Rb w0 rows w' v' (fill xs L.toNat) := by
  obtain ⟨A, c, rfl, hc, hC⟩ := h.reads
  refine (D.oubref23_upTo.calls A c xs f l (fill xs L.toNat) w hC hc ?_).mono ?_
  · unfold D.oubref23_upTo.f G.oubref2_Fill.f oubref2_Fill.f
    rw [hL, if_pos ⟨h1, h2⟩]
    rfl
  · rintro e w' ⟨v', rfl, hv, hb⟩
    exact ⟨v', rfl, Rb.new h.sr hv hb⟩
theorem cells_ref (n c : Int) (hn : 1 ≤ n) (hn2 : n ≤ 1048576) (hc : 1 ≤ c) (hc2 : c ≤ 1048576) : D.oubref2_Cells.f 3 n c = some ((n - 1) / c + 1) := by
  have h3 := Int.mul_ediv_add_emod n c
  have h4 := Int.emod_nonneg n (show c ≠ 0 by omega)
  have h5 := Int.emod_lt_of_pos n (show 0 < c by omega)
  have h6 : n / c ≤ n := Int.ediv_le_self _ (by omega)
  have h7 : 0 ≤ n / c := Int.ediv_nonneg (by omega) (by omega)
  unfold D.oubref2_Cells.f
  rw [if_neg (by omega), decide_eq_false (by omega)]
  show (if false = true then some 0 else if c = 0 then none else if Int.tmod n c > 0 then some (wrap64 (wrap64 (Int.tdiv n c) + 1)) else some (wrap64 (Int.tdiv n c))) = _
  rw [if_neg (by decide), if_neg (by omega), Int.tmod_eq_emod_of_nonneg (by omega), Int.tdiv_eq_ediv_of_nonneg (by omega), wr64 (z := n / c) (by omega) (by omega), wr64 (by omega) (by omega)]
  by_cases h : n % c > 0
  · rw [if_pos h]
    congr 2
    have : (n - 1) / c = n / c := by
      have e : n - 1 = (n % c - 1) + c * (n / c) := by omega
      rw [e, Int.add_mul_ediv_left _ _ (by omega), Int.ediv_eq_zero_of_lt (by omega) (by omega)]
      omega
    omega
  · rw [if_neg h]
    congr 1
    have hm : c * (n / c - 1) = c * (n / c) - c := by rw [Int.mul_sub, Int.mul_one]
    have e : n - 1 = (c - 1) + c * (n / c - 1) := by omega
    have e2 : (n - 1) / c = n / c - 1 := by
      rw [e, Int.add_mul_ediv_left _ _ (by omega), Int.ediv_eq_zero_of_lt (by omega) (by omega)]
      omega
    omega
theorem pay_ref {y : Ly} (ok : y.Ok) : D.oubref7_Payload.f y.c0 y.c1 y.c2 y.c3 y.c4 y.c5 y.c6 y.c7 y.c8 y.c9 y.l = some (y.c1 * 38) := by
  unfold Ly.Ok at ok
  unfold D.oubref7_Payload.f D.oubref7_Length.f
  have h1 : ¬ y.c1 < 1 := by omega
  have h2 : ¬ y.c1 > 4 := by omega
  simp [h1, h2]
  rw [wr64 (by omega) (by omega)]
theorem Rb.whole {y : Ly} {w0 w : World} {rows : List (Nat × Obj)} {v : Value} {xs : List Int} (h : Rb w0 rows w v xs) (hy : y.R w0) (ok : y.Ok) (h1 : 1 ≤ xs.length) (h2 : xs.length ≤ 100000) :
    Calls Tryz.prog 56 #[y.v, v] w fun e w' => ∃ v', e = .returned v' ∧ Rb w0 rows w' v' (fill xs (y.whole xs.length).toNat) := by
  obtain ⟨A, c, rfl, hc, hC⟩ := h.reads
  have hy' := hy.below h.bel
  have hw := whole_le ok xs.length (by omega) (by omega)
  refine (D.oubref23_whole.calls 3 _ _ _ _ _ _ _ _ _ _ y.A y.cap y.l A c xs (fill xs (y.whole xs.length).toNat) w hy'.1 hy'.2 hC hc ?_).mono ?_
  · unfold D.oubref23_whole.f G.oubref2_Fill.f oubref2_Fill.f
    have ok2 := ok
    unfold Ly.Ok at ok2
    rw [pay_ref ok, Option.bind_some, cells_ref _ _ (by omega) (by omega) (by omega) (by omega), Option.bind_some]
    unfold Ly.whole at hw ⊢
    rw [wr64 (by omega) (by omega), if_pos ⟨by omega, by omega⟩]
    rfl
  · rintro e w' ⟨v', rfl, hv, hb⟩
    exact ⟨v', rfl, Rb.new h.sr hv hb⟩
theorem infos : Tryz.prog.underlying 9 = some .string := Tryz.underlying9
theorem append_str {W : World} {base : Nat} {ok : Nat → Prop} {v : Value} {xs : List Int} (s : ByteArray) (ty : TypeId) (hR : Kd.R (Kd.int .u8) 5 W base ok v xs) (hfresh : ∀ k, W.heap.size ≤ k → ok k) (h0 : 0 < s.size) (hl : xs.length + s.size ≤ 4294967296) (hbase : base ≤ W.heap.size) :
    ∃ v' w', (Builtin.append_ #[29, 9] ty #[v, .string s]).run Tryz.prog W = .ok v' w' ∧ Kd.R (Kd.int .u8) 5 w' base ok v' (xs ++ strL s) ∧ W.grownBy w' v.ownBlock := by
  obtain ⟨i, hi, hzz⟩ := Option.map_eq_some_iff.1 infou8
  simp only [Prod.mk.injEq] at hzz
  obtain ⟨hz, hsz, hby⟩ := hzz
  have hs := Src.ofString (P := Tryz.prog) W infos s
  have hown := Kd.own_of_R (h1 := fun _ => rfl) hR
  obtain ⟨hok, _⟩ := hR
  obtain ⟨X, hX⟩ : ∃ X, encs (Value.int .u8) xs = X := ⟨_, rfl⟩
  rw [hX] at hown
  have hnl : (byteCells s).length = s.size := byteCells_length s
  have hXl : X.length = xs.length := by rw [← hX]; simp [encs]
  have henc : encs (Value.int .u8) (xs ++ strL s) = X ++ byteCells s := by
    rw [← hX]
    unfold encs byteCells strL
    rw [List.map_append, List.map_map]
    rfl
  have hys : (xs ++ strL s).length = xs.length + s.size := by rw [List.length_append, strL_length]
  have fin : ∀ v' w', w'.ownsRow base 5 1 v' (xs.length + s.size) (X ++ byteCells s) → (∀ k, v'.ownBlock = some k → ok k) → Kd.R (Kd.int .u8) 5 w' base ok v' (xs ++ strL s) := fun v' w' ho hk =>
    Kd.R_of_own (h1 := fun _ => rfl) (by rw [hys, henc]; exact ho) hk
  have grown : ∀ (old : Nat), old < xs.length + s.size → ∀ (row : Option Nat),
      (W.drew.alloc (.cells ((X ++ byteCells s).toArray ++ Builtin.zeroCells (Value.int .u8 0).cells (grownCap W (xs.length + s.size) old 5 - (xs.length + s.size))) 5)).ownsRow base 5 1
        (.slice (some ⟨W.heap.size, 0, none⟩) (xs.length + s.size) (grownCap W (xs.length + s.size) old 5)) (xs.length + s.size) (X ++ byteCells s) ∧
      W.grownBy (W.drew.alloc (.cells ((X ++ byteCells s).toArray ++ Builtin.zeroCells (Value.int .u8 0).cells (grownCap W (xs.length + s.size) old 5 - (xs.length + s.size))) 5)) row := by
    intro old ho row
    have hge := grownCap_ge W (xs.length + s.size) old 5
    have hcm := grownCap_le_maxLen W (xs.length + s.size) old 5 (by simp only [maxLen]; omega)
    refine ⟨⟨by simp [hXl, hnl], .inr ⟨W.heap.size, _, _, rfl, hbase, heap_alloc_new W.drew _, hge, hcm, ?_, ?_⟩⟩, ⟨rfl, rfl, rfl, by simp, fun k hk _ => Below.heap_alloc W.drew _ k hk⟩⟩
    · simp only [Array.size_append, List.size_toArray, size_zeroCells, List.length_append, hXl, hnl]
      show _ + _ * 1 = _
      omega
    · simp only [Array.toList_append]
      rw [show (xs.length + s.size) * 1 = (X ++ byteCells s).length by simp [hXl, hnl]]
      exact List.take_left
  rcases hown.2 with ⟨rfl, hn⟩ | ⟨g, cap, cur, rfl, hbg, hg, hnc, hcm, hcs, htake⟩
  · have hX0 : X = [] := List.eq_nil_of_length_eq_zero (by omega)
    have hr := run_append_grow_src (P := Tryz.prog) W 29 9 ty 5 i _ Tryz.underlying29 hi hz none 0 0 [] (run_firstCells_none W.drew i.size 0 0 0) (.string s) s.size (byteCells s) (by rw [hsz]; exact hs) (by omega) (by omega) (growslice_fits (by omega) (by rw [hby]; omega))
    have hgr := grown 0 (by omega) (Value.ownBlock (.slice none 0 0))
    rw [hn, Nat.zero_add, hX0, List.nil_append] at hgr
    rw [hX0, hn, Nat.zero_add, List.nil_append] at fin
    rw [Nat.zero_add, List.nil_append] at hr
    exact ⟨_, _, hr, fin _ _ hgr.1 (fun k hk => hfresh k (Nat.le_of_eq (by simpa [Value.ownBlock] using hk))), hgr.2⟩
  · by_cases hroom : xs.length + s.size ≤ cap
    · have hst := run_storeCells_at Tryz.prog g (xs.length * 1) 5 (byteCells s) 0 cur W hg (by rw [hnl, hcs]; omega) hs.one
      simp only [Nat.add_zero] at hst
      have hr : (Builtin.append_ #[29, 9] ty #[.slice (some ⟨g, 0, none⟩) xs.length cap, .string s]).run Tryz.prog W = .ok (.slice (some ⟨g, 0, none⟩) (xs.length + s.size) cap) (W.setRow g (cur.toList.take (xs.length * 1) ++ byteCells s ++ cur.toList.drop (xs.length * 1 + (byteCells s).length)).toArray) := by
        have hc := hs.cells
        have hf := firstCells_string (P := Tryz.prog) s W
        simp only [Nat.mul_one] at hst
        simp [Builtin.append_, run_underlying Tryz.underlying29, run_underlying infos, sizeOf, typeInfo, hi, hsz, hs.len, hroom, hf, Addr.add_lit, hst]
      refine ⟨_, _, hr, fin _ _ ⟨by simp [hXl, hnl], .inr ⟨g, cap, _, rfl, hbg, setRow_heap W g cur _ 5 _ hg, hroom, hcm, ?_, ?_⟩⟩ hok, ⟨rfl, rfl, rfl, by simp, fun k _ hk => setRow_other W g k _ (fun e => hk (by simp [Value.ownBlock, e]))⟩⟩
      · simp only [List.size_toArray, List.length_append, List.length_take, List.length_drop, Array.length_toList]
        omega
      · rw [htake, show (xs.length + s.size) * 1 = (X ++ byteCells s).length by simp [hXl, hnl]]
        exact List.take_left
    · have holds : ∀ j u, X[j]? = some u → W.cell? ((⟨g, 0, none⟩ : Addr).add j) = some u := hown.cells (g := g) rfl
      have hold := run_firstCells_some (P := Tryz.prog) W.drew i.size xs.length ⟨g, 0, none⟩ xs.length cap X (by rw [hsz, hXl, Nat.mul_one]) (by simpa using holds)
      have hr := run_append_grow_src (P := Tryz.prog) W 29 9 ty 5 i _ Tryz.underlying29 hi hz (some ⟨g, 0, none⟩) xs.length cap X (by simpa using hold) (.string s) s.size (byteCells s) (by rw [hsz]; exact hs) (by omega) (by omega) (growslice_fits (by omega) (by rw [hby]; omega))
      have hgr := grown cap (by omega) (Value.ownBlock (.slice (some ⟨g, 0, none⟩) xs.length cap))
      exact ⟨_, _, hr, fin _ _ hgr.1 (fun k hk => hfresh k (Nat.le_of_eq (by simpa [Value.ownBlock] using hk))), hgr.2⟩
end Go.Proofs.YtmbnomlkhmcmaaaGreat.A
end
section
namespace Go.Proofs.YtmbnomlkhmcmaaaGreat.A
open Go.RowKit Go.Shelf Go.Proofs.YtmbnomlkhmcmaaaGreatW.PrintWords Go.Proofs.YtmbnomlkhmcmaaaGreatW.PrintLast Go.Proofs.YtmbnomlkhmcmaaaGreatW.PrintMore Go.Proofs.YtmbnomlkhmcmaaaGreat.C Go.Proofs.YtmbnomlkhmcmaaaGreat.Z
set_option linter.unusedVariables false
set_option linter.unusedSimpArgs false
abbrev Bq := S214
abbrev Ly.cobj (y : Ly) : Obj := .cells #[.int .i64 y.c0, .int .i64 y.c1, .int .i64 y.c2, .int .i64 y.c3, .int .i64 y.c4, .int .i64 y.c5, .int .i64 y.c6, .int .i64 y.c7, .int .i64 y.c8, .int .i64 y.c9, .slice y.A y.l.length y.cap] 24
def bqB (b : Bq) : List Int := bes 1 [b.f0] ++ b.f1
theorem flatQ : ∀ l : List Bq, (∀ b ∈ l, b.f1.length = 37) → (l.flatMap bqB).length = 38 * l.length
 | [], _ => rfl
 | b :: l, h => by
  have h1 := h b List.mem_cons_self
  have h2 := flatQ l (fun x hx => h x (List.mem_cons_of_mem _ hx))
  rw [List.flatMap_cons, List.length_append, h2]
  simp [bqB, bes_length, h1]
  omega
def stashQ (y : Ly) (s : List Bq) : List Int := bes 1 [(s.length : Int)] ++ s.flatMap bqB ++ List.replicate ((y.c6 - s.length) * 38).toNat 0
set_option maxHeartbeats 8000000 in
set_option maxRecDepth 100000 in
theorem Rb.stash {y : Ly} {w0 w : World} {rows : List (Nat × Obj)} {v : Value} {xs : List Int} (h : Rb w0 rows w v xs) (ok : y.Ok) (A : Option Addr) (c : Nat) (s : List Bq) (hC : Kd.C k214 w0 A s.length s) (hs : (s.length : Int) ≤ y.c6) (hd : ∀ b ∈ s, b.f1.length = 37) (hx : xs.length ≤ 100000) :
  Calls Tryz.prog 57 #[y.v, v, .slice A s.length c] w fun e w' => ∃ v', e = .returned v' ∧ Rb w0 rows w' v' (xs ++ stashQ y s) := by
 have HK := Lib.hid ok
 have HC := Lib.hid hC
 have HL := Lib.hid hs
 have HD := Lib.hid hd
 have HX := Lib.hid hx
 have HW := Lib.hid h
 have HM := Lib.hid (show s.length ≤ 64 by unfold Ly.Ok at ok; omega)
 obtain ⟨n0, hn0⟩ : ∃ n0, s.length = n0 := ⟨_, rfl⟩
 have HNs := Lib.hid hn0
 rw [hn0]
 clear h ok hC hs hd hx hn0
 go_enter Tryz.func57, Tryz.ntmps57
 go_wp2_with (first
  | ((with_reducible refine gate_dst (N := 3) rfl ?_); refine box_event ?hg (N := 3) ?hd (cs := #[.int .i64 y.c0, .int .i64 y.c1, .int .i64 y.c2, .int .i64 y.c3, .int .i64 y.c4, .int .i64 y.c5, .int .i64 y.c6, .int .i64 y.c7, .int .i64 y.c8, .int .i64 y.c9, .slice y.A y.l.length y.cap]) (t := 24) ?hr ?_; (case hd => rfl); (case hg => rfl); (case hr => first | (go_simp; done) | (go_simp; rfl)); intro gl hg_ w1 hbox_ hb_; have HX1 := Lib.hid (Rb.box HW.out hg_ hbox_ hb_); clear hbox_ hb_ hg_)
  | (at_builtin; refine Kd.R_append (Kd.int .u8) (w0 := w0) w0.heap.size rfl (.tmp 9) (.tmp 13) 29 5 (.int .u8 0) 1 rfl Tryz.underlying29 infou8 rfl (by decide) (by omega) _ _ ((n0 : Int) % 256) [.int .u8 ((n0 : Int) % 256)] _ (fun _ => False) rfl rfl ?aP (fun _ hk => hk.elim) HX1.out.fresh HX1.out.2 HX1.out.bel HX1.out.bel.size ?aL ?_; (case aP => exact rfl); (case aL => have := HX.out; omega); intro v1 wb ho hb hg hn; have HB := Lib.hid (Rb.grown HX1.out ho hb hg); clear ho hb hg hn; obtain ⟨A1, c1, e1, _, _⟩ := HB.out.reads; obtain ⟨n1, hn1⟩ : ∃ n1, (xs ++ [(n0 : Int) % 256]).length = n1 := ⟨_, rfl⟩; rw [hn1] at e1; subst e1; have HN1 := Lib.hid (show n1 = xs.length + 1 by rw [← hn1]; simp); clear hn1)
  | fail)
 go_loopw [1, 8] (fun u i wr => ∃ k : Nat, k ≤ n0 ∧ i = .int .i64 k ∧ Hid (Rb w0 ((gl, y.cobj) :: rows) wr u (xs ++ [(n0 : Int) % 256] ++ (s.take k).flatMap bqB))) (fun _ i _ => n0 - (intOf i).toNat)
 case atStart =>
  exact ⟨0, Nat.zero_le _, rfl, by simpa using HB⟩
 case round =>
  clear HB HX1
  obtain ⟨k, hk, rfl, HS0⟩ := hrel
  by_cases hlt : k < n0
  ·obtain ⟨⟨id, ys⟩, hb⟩ : ∃ b, rd_T214 s (k : Int) = b := ⟨_, rfl⟩
   have hks : k < s.length := by have := HNs.out; omega
   have hd : s.take (k + 1) = s.take k ++ [⟨id, ys⟩] := by
    rw [List.take_succ_eq_append_getElem hks, ← hb]
    congr 2
    unfold rd_T214
    rw [Int.toNat_natCast, List.getD_eq_getElem?_getD, List.getElem?_eq_getElem hks]
    rfl
   have hmem : (⟨id, ys⟩ : Bq) ∈ s := by
    have : (⟨id, ys⟩ : Bq) ∈ s.take (k + 1) := by rw [hd]; simp
    exact List.mem_of_mem_take this
   have HY := Lib.hid (show ys.length = 37 from HD.out _ hmem)
   obtain ⟨ad, A2, c2, rfl, q0, q1, l1, g1⟩ := at_T214 HC.out (k : Int) (by omega) (by omega)
   rw [hb] at q0 q1 l1 g1
   simp only [Int.toNat_natCast] at q0 q1 l1 g1
   have HG := Lib.hid (show Kd.C (Kd.int .u8) w0 A2 ys.length ys from g1)
   have HDr := Lib.hid hd
   obtain ⟨m0, hm0⟩ : ∃ m0, ys.length = m0 := ⟨_, rfl⟩
   have HMy := Lib.hid hm0
   rw [show (⟨id, ys⟩ : Bq).f1.length = m0 from hm0] at q1
   have HQ0 := Lib.hid q0
   have HQ1 := Lib.hid q1
   have HLX := Lib.hid (show (xs ++ [(n0 : Int) % 256] ++ (s.take k).flatMap bqB).length ≤ 110000 by
    have h1 := flatQ (s.take k) (fun b hb => HD.out b (List.mem_of_mem_take hb))
    have h2 := HX.out
    rw [List.length_append, List.length_append, h1, List.length_take]
    simp
    have := HM.out; omega)
   obtain ⟨X, hX⟩ : ∃ X, xs ++ [(n0 : Int) % 256] ++ (s.take k).flatMap bqB = X := ⟨_, rfl⟩
   rw [hX] at HS0 HLX
   have HXe := Lib.hid hX
   have c0 : (0 : Int) ≤ (k : Int) := by omega
   clear hb hd hmem l1 g1 hm0 hks hX q0 q1
   go_upto_region 6 with fail
   have HS : ∀ w', Sr w0 ((gl, y.cobj) :: rows) w' → w'.cell? (ad.add (k * 2)) = some (.int .i64 id) ∧ w'.cell? ⟨(ad.add (k * 2)).block, (ad.add (k * 2)).off + 1, none⟩ = some (.slice A2 m0 c2) := fun w' h => ⟨(h.bel.cell (World.block_lt_of_cell? w0 _ HQ0.out)).trans HQ0.out, (h.bel.cell (World.block_lt_of_cell? w0 _ HQ1.out)).trans HQ1.out⟩
   refine stq 16 0 (fun w' => w'.cell? (ad.add (k * 2)) = some (.int .i64 id) ∧ w'.cell? ⟨(ad.add (k * 2)).block, (ad.add (k * 2)).off + 1, none⟩ = some (.slice A2 m0 c2)) (HS _ (HS0.out.below (drewB _)).sr) (fun hHeld => ?_)
   have HR1 := Lib.hid (HS0.out.below (drewB _))
   generalize wr.drew = W2 at HR1 hHeld ⊢
   refine pq 0 23 16 1 ?_
   refine pq 1 24 16 3 ?_
   refine pq 2 25 16 7 ?_
   refine pq 3 26 16 15 ?_
   refine pq 4 27 16 31 ?_
   refine pq 9 32 16 543 ?_
   refine pq 10 33 16 1567 ?_
   refine pq 11 34 16 3615 ?_
   refine pq 12 35 16 7711 ?_
   refine tq 5 28 16 7743 hHeld ?_
   refine pq 6 29 16 7807 ?_
   refine tq 13 36 16 15999 hHeld ?_
   refine oq 7 30 16 16127 (fun K hK => ?_)
   refine vq ?_
   have HQ1 := Lib.hid (HR1.out.row (u8o [IntKind.u8.wrap id]))
   replace HQ1 : RowKit.Hid (Rb w0 ((W2.heap.size, u8o [IntKind.u8.wrap id]) :: (gl, y.cobj) :: rows) (W2.alloc (Obj.cells #[.int .u8 (IntKind.u8.wrap id)] 5)) u1 X) := HQ1
   generalize W2.alloc (Obj.cells #[.int .u8 (IntKind.u8.wrap id)] 5) = W3 at HQ1 ⊢
   refine hK.out _ _ (HS _ (HQ1.out.sr.less (fun _ hr => mt hr))) (fun hHeld => ?_)
   clear hK K
   refine nx 30 ?_
   refine oq 8 31 16 16383 (fun K hK => ?_)
   refine Kd.R_append_rows_step (Kd.int .u8) (w0 := w0) w0.heap.size (by rfl) (.tmp 23) (.tmp 30) 29 5 (.int .u8 0) 1 rfl Tryz.underlying29 infou8 rfl (show 0 < 1 by omega) (by omega) _ _ [IntKind.u8.wrap id] (some ⟨W2.heap.size, 0, none⟩) 1 1 _ (fun _ => False) rfl rfl HQ1.out.2 (C_u8o (HQ1.out.sr.2 _ mh).2 (by simp)) u8_KM (fun _ h_ => h_.elim) HQ1.out.fresh HQ1.out.bel HQ1.out.bel.size (by have := HLX.out; omega) ?_
   intro v8 wn' ho hb hg hn
   have HN := Lib.hid (Rb.grown HQ1.out ho hb hg)
   clear ho hb hg hn
   have HQ2 := Lib.hid HN.out
   clear HN
   refine hK.out _ _ (HS _ (HQ2.out.sr.less (fun _ hr => mt hr))) (fun hHeld => ?_)
   clear hK K
   refine nx 31 ?_
   refine oq 14 37 16 32767 (fun K hK => ?_)
   refine Kd.R_append_rows_step (Kd.int .u8) (w0 := w0) w0.heap.size (by rfl) (.tmp 31) (.tmp 36) 29 5 (.int .u8 0) 1 rfl Tryz.underlying29 infou8 rfl (show 0 < 1 by omega) (by omega) _ _ ys A2 m0 c2 _ (fun _ => False) rfl rfl HQ2.out.2 (HMy.out ▸ Kd.C_below HG.out HQ2.out.bel) u8_KM (fun _ h_ => h_.elim) HQ2.out.fresh HQ2.out.bel HQ2.out.bel.size (by rw [List.length_append]; have := HLX.out; have := HY.out; have := HMy.out; simp; omega) ?_
   intro vq wn' ho hb hg hn
   have HN := Lib.hid (Rb.grown HQ2.out ho hb hg)
   clear ho hb hg hn
   refine hK.out _ _ (HS _ (HN.out.sr.less (fun _ hr => mt hr))) (fun hHeld => ?_)
   clear hK K
   refine nx 37 ?_
   refine pq 15 1 16 65535 ?_
   refine done_ (by kernel_rfl) ?_
   go_wp2_with fail
   have ek : wrap64 ((k : Int) + 1) = ((k + 1 : Nat) : Int) := by rw [wr64 (by have := HM.out; have := HNs.out; omega) (by have := HM.out; have := HNs.out; omega)]; omega
   rw [ek]
   refine ⟨⟨k + 1, by omega, rfl, ?_⟩, ?_⟩
   ·have hq := HN.out.less (rows' := (gl, y.cobj) :: rows) (fun _ hr => mt hr)
    rw [← HXe.out] at hq
    have e : xs ++ [(n0 : Int) % 256] ++ (s.take k).flatMap bqB ++ [IntKind.u8.wrap id] ++ ys = xs ++ [(n0 : Int) % 256] ++ (s.take (k + 1)).flatMap bqB := by
     rw [HDr.out, List.flatMap_append, u8_mod]
     simp [bqB, bes1]
    rw [e] at hq
    exact hq
   ·simp only [intOf]
    omega
  ·obtain rfl : k = n0 := by omega
   have q6 := HS0.out.sr.cell mh 6 rfl
   have hXl : (xs ++ [(k : Int) % 256] ++ (s.take k).flatMap bqB).length = xs.length + 1 + 38 * k := by
    have h1 := flatQ (s.take k) (fun b hb => HD.out b (List.mem_of_mem_take hb))
    have h2 := HNs.out
    rw [List.length_append, List.length_append, h1, List.length_take]
    simp
    omega
   have h6 := HK.out
   unfold Ly.Ok at h6
   have hk6 := HL.out
   rw [HNs.out] at hk6
   have w1 : wrap64 (y.c6 * 38) = y.c6 * 38 := wr64 (by omega) (by omega)
   have w2 : wrap64 ((n1 : Int) + wrap64 (y.c6 * 38)) = (xs.length : Int) + 1 + y.c6 * 38 := by
    have := HN1.out
    have := HX.out
    rw [w1, wr64 (by omega) (by omega)]
    omega
   have HW2 := Lib.hid w2
   have HXl := Lib.hid hXl
   clear w1 w2 h6 hk6 hXl
   go_wp2_with fail
   refine (Rb.upTo HS0.out (n1 : Int) (wrap64 (y.c6 * 38)) _ HW2.out (by rw [HXl.out]; have h6 := HK.out; unfold Ly.Ok at h6; have hk6 := HL.out; rw [HNs.out] at hk6; omega) (by have h6 := HK.out; unfold Ly.Ok at h6; have := HX.out; omega)).mono ?_
   rintro e w3 ⟨v3, rfl, h3⟩
   have HF := Lib.hid h3
   clear h3 q6
   go_wp2_with fail
   go_ret
   refine ⟨_, rfl, ?_⟩
   have hfin := HF.out.less (rows' := rows) (fun _ hr => mt hr)
   have e : fill (xs ++ [(k : Int) % 256] ++ (s.take k).flatMap bqB) ((xs.length : Int) + 1 + y.c6 * 38).toNat = xs ++ stashQ y s := by
    have h6 := HK.out
    unfold Ly.Ok at h6
    have hk6 := HL.out
    unfold fill stashQ
    rw [HXl.out, bes1, ← HNs.out, List.take_length]
    simp only [List.append_assoc]
    congr 4
    rw [HNs.out] at hk6 ⊢
    omega
   rw [e] at hfin
   exact hfin
end Go.Proofs.YtmbnomlkhmcmaaaGreat.A
end
section
namespace Go.Proofs.YtmbnomlkhmcmaaaGreat.A
open Go.RowKit Go.Shelf Go.Proofs.YtmbnomlkhmcmaaaGreatW.PrintWords Go.Proofs.YtmbnomlkhmcmaaaGreatW.PrintLast Go.Proofs.YtmbnomlkhmcmaaaGreatW.PrintMore Go.Proofs.YtmbnomlkhmcmaaaGreat.C
set_option linter.unusedVariables false
set_option linter.unusedSimpArgs false
def mayQ : List Int → List Bq → Bool
  | _, [] => true
  | seen, b :: r => if b.f0 < 0 then false else if b.f0 ≥ 64 then false else if b.f0 ∈ seen then false else if b.f1.length = 37 then mayQ (b.f0 :: seen) r else false
theorem mayQ_map : ∀ (l : List Bk) (seen : List Int), mayQ seen (l.map fun b => (⟨b.f0, b.f1⟩ : Bq)) = mayF seen l
  | [], _ => rfl
  | b :: l, seen => by
    have h := mayQ_map l (b.f0 :: seen)
    simp only [List.map_cons]
    unfold mayQ mayF
    simp only
    rw [h]
theorem mayQ_congr : ∀ (l : List Bq) (a b : List Int), (∀ x, x ∈ a ↔ x ∈ b) → mayQ a l = mayQ b l
  | [], _, _, _ => rfl
  | x :: l, a, b, h => by
    have h1 := mayQ_congr l (x.f0 :: a) (x.f0 :: b) (fun z => by simp [h z])
    unfold mayQ
    rw [h1]
    simp only [h x.f0]
theorem rdq_lt {l : List Bq} {i : Nat} (h : i < l.length) : rd_T214 l (i : Int) = l[i] := by
  unfold rd_T214
  rw [Int.toNat_natCast, List.getD_eq_getElem?_getD, List.getElem?_eq_getElem h]
  rfl
theorem take_ids {l : List Bq} {i : Nat} (x : Int) : x ∈ (l.take i).map (·.f0) ↔ ∃ j, ∃ h : j < l.length, j < i ∧ l[j].f0 = x := by
  constructor
  · intro h
    obtain ⟨b, hb, rfl⟩ := List.mem_map.1 h
    obtain ⟨j, hj, rfl⟩ := List.mem_iff_getElem.1 hb
    rw [List.length_take] at hj
    exact ⟨j, by omega, by omega, by rw [List.getElem_take]⟩
  · rintro ⟨j, h, hi, rfl⟩
    refine List.mem_map.2 ⟨l[j], ?_, rfl⟩
    refine List.mem_iff_getElem.2 ⟨j, by rw [List.length_take]; omega, by rw [List.getElem_take]⟩
theorem blocks_in {l : List Bq} {i : Nat} (hi : i < l.length) (hl : l.length ≤ 300) (r : Bool) (hm : l[i].f0 ∈ (l.take i).map (·.f0) → r = false) : ∀ (d j k : Nat), j + d = i → d + 2 ≤ k →
    (l[i].f0 ∉ (l.take i).map (·.f0) → D.oubref7_MayBlocks.l0 (k - d - 1) l (i + 1 : Nat) = some r) → (∀ m, m < j → ∀ h : m < l.length, l[m].f0 ≠ l[i].f0) →
    D.oubref7_MayBlocks.l1 k l i j = some r
  | 0, j, k + 1, hj, hk, hn, hs => by
    unfold D.oubref7_MayBlocks.l1
    rw [if_neg (by omega), wr64 (by omega) (by omega)]
    have h1 := hn (fun hc => by
      obtain ⟨m, hm1, hm2, hm3⟩ := (take_ids _).1 hc
      exact hs m (by omega) hm1 hm3)
    simpa using h1
  | d + 1, j, k + 1, hj, hk, hn, hs => by
    unfold D.oubref7_MayBlocks.l1
    rw [if_pos (by omega), if_pos (by omega), if_pos (by omega), if_pos (by omega), if_pos (by omega), rdq_lt hi, rdq_lt (show j < l.length by omega)]
    by_cases he : l[j].f0 = l[i].f0
    · rw [if_pos he, hm ((take_ids _).2 ⟨j, by omega, by omega, he⟩)]
    · rw [if_neg he, wr64 (by omega) (by omega)]
      have h := blocks_in hi hl r hm d (j + 1) k (by omega) (by omega) (by
        rw [show k - d - 1 = k + 1 - (d + 1) - 1 by omega]
        exact hn) (fun m hm1 h => by
        by_cases e : m = j
        · subst e; exact he
        · exact hs m (by omega) h)
      simpa using h
set_option maxRecDepth 100000 in
theorem blocks_out {l : List Bq} (hl : l.length ≤ 300) : ∀ (r i k : Nat), i + r = l.length → r * 400 + 1 ≤ k → D.oubref7_MayBlocks.l0 k l i = some (mayQ ((l.take i).map (·.f0)) (l.drop i))
  | 0, i, k, hi, hk => by
    obtain ⟨k, rfl⟩ : ∃ k', k = k' + 1 := ⟨k - 1, by omega⟩
    unfold D.oubref7_MayBlocks.l0
    rw [if_neg (by omega), List.drop_of_length_le (by omega)]
    rfl
  | r + 1, i, k, hi, hk => by
    obtain ⟨k, rfl⟩ : ∃ k', k = k' + 1 + 1 := ⟨k - 2, by omega⟩
    have hlt : i < l.length := by omega
    have hd : l.drop i = l[i] :: l.drop (i + 1) := List.drop_eq_getElem_cons hlt
    have j1 : ∀ b : Bool, D.oubref7_MayBlocks.j1 (k + 1) l i b = if b = true then some false else D.oubref7_MayBlocks.l1 k l i 0 := fun b => rfl
    unfold D.oubref7_MayBlocks.l0
    rw [if_pos (by omega), if_pos (by omega), rdq_lt hlt, hd]
    unfold mayQ
    by_cases h0 : l[i].f0 < 0
    · rw [if_pos h0, if_pos h0, j1, if_pos rfl]
    · rw [if_neg h0, if_neg h0]
      by_cases h1 : l[i].f0 ≥ 64
      · rw [if_pos h1, if_pos h1, j1, if_pos rfl]
      · rw [if_neg h1, if_neg h1, j1]
        by_cases h2 : l[i].f1.length = 37
        · rw [if_neg (by simp [h2]), if_pos h2]
          refine blocks_in hlt hl _ (fun hm => by rw [if_pos hm]) i 0 k (by omega) (by omega) (fun hn => ?_) (fun m hm => by omega)
          rw [if_neg hn, blocks_out hl r (i + 1) (k - i - 1) (by omega) (by omega)]
          congr 1
          refine mayQ_congr _ _ _ (fun x => ?_)
          rw [List.take_succ_eq_append_getElem hlt, List.map_append]
          simp only [List.map_cons, List.map_nil, List.mem_append, List.mem_cons, List.not_mem_nil, or_false]
          exact Or.comm
        · rw [if_pos (by rw [bne_iff_ne]; omega), if_neg h2]
          split <;> rfl
theorem MayBlocks_f {l : List Bq} (hl : l.length ≤ 300) (k : Nat) (hk : 130000 ≤ k) : D.oubref7_MayBlocks.f k l = some (mayQ [] l) := by
  have h := blocks_out hl l.length 0 k (by omega) (by omega)
  unfold D.oubref7_MayBlocks.f
  simpa using h
def stQ (y : Ly) (s : List Bq) : Bool := (s.all fun b => decide (b.f0 < y.c2)) && (decide ((s.length : Int) ≤ y.c6) && (mayQ [] s && risB (s.map (·.f0))))
theorem stQ_map (y : Ly) (l : List Bk) : stQ y (l.map fun b => (⟨b.f0, b.f1⟩ : Bq)) = stOk y l := by
  unfold stQ stOk inB
  rw [mayQ_map, List.length_map, List.map_map, List.all_map]
  rfl
theorem stash_loop {y : Ly} {l : List Bq} (hl : l.length ≤ 300) : ∀ (r i k : Nat), i + r = l.length → 130000 + r + 1 ≤ k → ((l.take i).all fun b => decide (b.f0 < y.c2)) = true → (∀ j, j + 1 < i → (l.map (·.f0)).getD j 0 < (l.map (·.f0)).getD (j + 1) 0) →
    D.oubref23_mayStash.l0 k l i y.c0 y.c1 y.c2 y.c3 y.c4 y.c5 y.c6 y.c7 y.c8 y.c9 y.l = some (stQ y l)
  | 0, i, k, hi, hk, ha, hr => by
    obtain ⟨k, rfl⟩ : ∃ k', k = k' + 1 := ⟨k - 1, by omega⟩
    unfold D.oubref23_mayStash.l0
    rw [if_neg (by omega)]
    rw [List.take_of_length_le (by omega)] at ha
    have h2 : risB (l.map (·.f0)) = true := (risB_iff _).2 (fun j hj => hr j (by rw [List.length_map] at hj; omega))
    unfold stQ
    rw [ha, h2]
    by_cases h : (l.length : Int) ≤ y.c6
    · rw [if_pos h, MayBlocks_f hl k (by omega), decide_eq_true h]
      simp
    · rw [if_neg h, decide_eq_false h]
      rfl
  | r + 1, i, k, hi, hk, ha, hr => by
    obtain ⟨k, rfl⟩ : ∃ k', k = k' + 1 := ⟨k - 1, by omega⟩
    have hlt : i < l.length := by omega
    have hg : ∀ j, (h : j < l.length) → (l.map (·.f0)).getD j 0 = l[j].f0 := fun j h => by
      rw [List.getD_eq_getElem?_getD, List.getElem?_map, List.getElem?_eq_getElem h]
      rfl
    unfold D.oubref23_mayStash.l0
    rw [if_pos (by omega), if_pos (by omega), rdq_lt hlt]
    by_cases h1 : l[i].f0 ≥ y.c2
    · rw [if_pos h1]
      unfold stQ
      rw [all_no (fun b : Bq => decide (b.f0 < y.c2)) (List.getElem_mem hlt) (decide_eq_false (by omega))]
      rfl
    · rw [if_neg h1]
      have ha2 : ((l.take (i + 1)).all fun b => decide (b.f0 < y.c2)) = true := by
        rw [List.take_succ_eq_append_getElem hlt, List.all_append, ha]
        simp; omega
      by_cases h2 : i = 0
      · subst h2
        rw [if_neg (by omega), wr64 (by omega) (by omega)]
        exact stash_loop hl r 1 k (by omega) (by omega) ha2 (fun j hj => by omega)
      · obtain ⟨m, rfl⟩ : ∃ m, i = m + 1 := ⟨i - 1, by omega⟩
        rw [if_pos (by omega), wr64 (z := ((m + 1 : Nat) : Int) - 1) (by omega) (by omega), if_pos (by omega), if_pos (by omega), show ((m + 1 : Nat) : Int) - 1 = (m : Int) by omega, rdq_lt (show m < l.length by omega)]
        by_cases h3 : l[m + 1].f0 ≤ l[m].f0
        · rw [if_pos h3]
          have : risB (l.map (·.f0)) = false := by
            cases h : risB (l.map (·.f0)) with
            | false => rfl
            | true =>
              have h4 := (risB_iff _).1 h m (by rw [List.length_map]; omega)
              rw [hg m (by omega), hg (m + 1) hlt] at h4
              omega
          unfold stQ
          rw [this]
          simp
        · rw [if_neg h3, wr64 (by omega) (by omega)]
          refine stash_loop hl r (m + 1 + 1) k (by omega) (by omega) ha2 (fun j hj => ?_)
          by_cases e : j + 1 < m + 1
          · exact hr j e
          · obtain rfl : j = m := by omega
            rw [hg j (by omega), hg (j + 1) hlt]
            omega
theorem mayStashQ_call {y : Ly} {w : World} (hy : y.R w) (A : Option Addr) (n c : Nat) (l : List Bq) (hn : l.length = n) (hC : Kd.C k214 w A l.length l) (hc : l.length ≤ c) (hl : l.length ≤ 300) (r : Bool) (hr : stQ y l = r) :
    Calls Tryz.prog 138 #[y.v, .slice A n c] w fun e w' => e = .returned (.bool r) ∧ Below w.heap.size w w' := by
  subst hn
  refine D.oubref23_mayStash.calls 140000 _ _ _ _ _ _ _ _ _ _ y.A y.cap y.l A c l r w hy.1 hy.2 hC hc ?_
  unfold D.oubref23_mayStash.f
  rw [← hr]
  exact stash_loop hl l.length 0 140000 (by omega) (by omega) (by simp) (fun j hj => by omega)
end Go.Proofs.YtmbnomlkhmcmaaaGreat.A
end
section
namespace Go.Proofs.YtmbnomlkhmcmaaaGreat.A
open Go.RowKit Go.Shelf Go.Proofs.YtmbnomlkhmcmaaaGreatW.PrintWords Go.Proofs.YtmbnomlkhmcmaaaGreatW.PrintLast Go.Proofs.YtmbnomlkhmcmaaaGreatW.PrintMore Go.Proofs.YtmbnomlkhmcmaaaGreat.C
set_option linter.unusedVariables false
set_option linter.unusedSimpArgs false
theorem and_one : ∀ z : Fin 256, Go.bits .and .i64 ((z.val : Nat) : Int) 1 = ((z.val % 2 : Nat) : Int) ∧ Go.bits .and .u8 ((z.val : Nat) : Int) 1 = ((z.val % 2 : Nat) : Int) := by decide +kernel
theorem bit_eq {x : Int} (h : 0 ≤ x ∧ x < 256) (s : Nat) : Go.bits .and .i64 (x / 2 ^ s) 1 = wrap64 (Go.bits .and .u8 (x / 2 ^ s) 1) := by
  have h1 : 0 ≤ x / 2 ^ s := Int.ediv_nonneg h.1 (by exact Int.pow_nonneg (by omega))
  have h2 : x / 2 ^ s ≤ x := Int.ediv_le_self _ h.1
  have h3 := and_one ⟨(x / 2 ^ s).toNat, by omega⟩
  simp only at h3
  rw [show (((x / 2 ^ s).toNat : Nat) : Int) = x / 2 ^ s by omega] at h3
  rw [h3.1, h3.2, wr64 (by omega) (by omega)]
theorem div8 (i : Nat) (hi : i ≤ 1000) : wrap64 (Int.tdiv (i : Int) 8) = ((i / 8 : Nat) : Int) := by
  rw [Int.tdiv_eq_ediv_of_nonneg (by omega), show (i : Int) / 8 = ((i / 8 : Nat) : Int) by omega]
  exact w16 (by omega)
theorem mod8 (i : Nat) (hi : i ≤ 1000) : IntKind.u64.wrap (Int.tmod (i : Int) 8) = ((i % 8 : Nat) : Int) := by
  rw [Int.tmod_eq_emod_of_nonneg (by omega), show (i : Int) % 8 = ((i % 8 : Nat) : Int) by omega]
  unfold IntKind.wrap
  simp [IntKind.signed, IntKind.bits]
  omega
theorem rd_nat (l : List Int) (i : Nat) : rd l (i : Int) = l.getD i 0 := by unfold rd; rw [Int.toNat_natCast]
theorem pack_loop {L : List Int} (hl : L.length ≤ 127) : ∀ (r i k : Nat), i + r = L.length → r + 1 ≤ k → D.oubref7_BitBytes.l0 k L (packK L i) i = some (pack L)
  | 0, i, k, hi, hk => by
    obtain ⟨k, rfl⟩ : ∃ k', k = k' + 1 := ⟨k - 1, by omega⟩
    unfold D.oubref7_BitBytes.l0
    rw [if_neg (by omega), show i = L.length by omega]
    rfl
  | r + 1, i, k, hi, hk => by
    obtain ⟨k, rfl⟩ : ∃ k', k = k' + 1 := ⟨k - 1, by omega⟩
    have h := pack_loop hl r (i + 1) k (by omega) (by omega)
    have h8 := div8 i (by omega)
    have hm := mod8 i (by omega)
    unfold D.oubref7_BitBytes.l0
    rw [if_pos (by omega), h8, hm, if_pos (by omega), if_pos (by rw [packK_length]; omega), if_pos (by omega), if_pos (by omega), rd_nat, rd_nat, Int.toNat_natCast, show wrap64 ((i : Int) + 1) = ((i + 1 : Nat) : Int) by rw [wr64 (by omega) (by omega)]; omega]
    have e : shl .i64 (L.getD i 0) ((i % 8 : Nat) : Int) = wrap64 (L.getD i 0 * 2 ^ (i % 8)) := by
      unfold shl
      rw [i64_w, Int.toNat_natCast, Nat.min_eq_left (by show i % 8 ≤ 64; omega)]
    rw [e]
    exact h
theorem BitBytes_f {L : List Int} (hl : L.length ≤ 127) (k : Nat) (hk : 200 ≤ k) : D.oubref7_BitBytes.f k L = some (pack L) := by
  have h := pack_loop hl L.length 0 k (by omega) (by omega)
  have e : wrap64 (Int.tdiv (wrap64 ((L.length : Int) + 7)) 8) = (((L.length + 7) / 8 : Nat) : Int) := by
    rw [wr64 (z := (L.length : Int) + 7) (by omega) (by omega), show (L.length : Int) + 7 = ((L.length + 7 : Nat) : Int) by omega]
    exact div8 _ (by omega)
  unfold D.oubref7_BitBytes.f
  rw [e, if_pos (by omega), if_pos (by rw [Int.toNat_natCast]; omega), Int.toNat_natCast]
  exact h
theorem parse_loop {n : Nat} {b : List Int} (hn : n ≤ 127) (hb : b.length = (n + 7) / 8) (hu : u8ok b) : ∀ (r i k : Nat), i + r = n → r + 250 ≤ k → ∃ x, D.oubref7_ParseBits.l0 k n b (bitsK b n i) i = some (x, if parB n b = true then 0 else 2)
  | 0, i, k, hi, hk => by
    obtain ⟨k, rfl⟩ : ∃ k', k = k' + 1 := ⟨k - 1, by omega⟩
    obtain rfl : i = n := by omega
    unfold D.oubref7_ParseBits.l0
    rw [if_neg (by omega), BitBytes_f (by rw [bitsK_length]; exact hn) k (by omega), Option.bind_some]
    show ∃ x, ((some (eqB (pack (bitsK b i i)) b)).bind fun t236 => (if t236 = true then (some (bitsK b i i, 0)) else (some (([] : List Int), 2)))) = _
    rw [Option.bind_some]
    unfold parB
    by_cases h : eqB (pack (bitsK b i i)) b = true
    · rw [if_pos h, if_pos h]; exact ⟨_, rfl⟩
    · rw [if_neg h, if_neg h]; exact ⟨_, rfl⟩
  | r + 1, i, k, hi, hk => by
    obtain ⟨k, rfl⟩ : ∃ k', k = k' + 1 := ⟨k - 1, by omega⟩
    obtain ⟨x, h⟩ := parse_loop hn hb hu r (i + 1) k (by omega) (by omega)
    refine ⟨x, ?_⟩
    have h8 := div8 i (by omega)
    have hm := mod8 i (by omega)
    have hlt : i / 8 < b.length := by omega
    have hx : 0 ≤ b.getD (i / 8) 0 ∧ b.getD (i / 8) 0 < 256 := by
      rw [List.getD_eq_getElem?_getD, List.getElem?_eq_getElem hlt]
      exact hu _ (List.getElem_mem hlt)
    unfold D.oubref7_ParseBits.l0
    rw [if_pos (by omega), h8, hm, if_pos (by omega), if_pos (by omega), if_pos (by omega), if_pos (by omega), if_pos (by rw [bitsK_length]; omega), rd_nat, Int.toNat_natCast, show wrap64 ((i : Int) + 1) = ((i + 1 : Nat) : Int) by rw [wr64 (by omega) (by omega)]; omega]
    have e : Go.bits .and .i64 (shr .i64 (wrap64 (b.getD (i / 8) 0)) ((i % 8 : Nat) : Int)) 1 = bitOf b i := by
      unfold shr bitOf
      rw [if_pos hlt, Int.toNat_natCast, Nat.min_eq_left (by show i % 8 ≤ 64; omega), wr64 (z := b.getD (i / 8) 0) (by omega) (by omega), bit_eq hx]
    rw [e, bitsK_set]
    exact h
theorem ParseBits_f {n : Nat} {b : List Int} (h1 : 1 ≤ n) (hn : n ≤ 127) (hb : b.length ≤ 300) (hu : u8ok b) : ∃ x, D.oubref7_ParseBits.f 500 n b = some (x, if parB n b = true then 0 else 2) := by
  have e : wrap64 (Int.tdiv (wrap64 ((n : Int) + 7)) 8) = (((n + 7) / 8 : Nat) : Int) := by
    rw [wr64 (z := (n : Int) + 7) (by omega) (by omega), show (n : Int) + 7 = ((n + 7 : Nat) : Int) by omega]
    exact div8 _ (by omega)
  unfold D.oubref7_ParseBits.f D.oubref7_MayBits.f
  rw [if_pos (by omega), decide_eq_true (by omega), Option.bind_some, if_pos rfl, e]
  by_cases h : b.length = (n + 7) / 8
  · rw [if_pos (by omega), if_pos (by omega), if_pos (by rw [Int.toNat_natCast]; omega), Int.toNat_natCast, ← bitsK_zero b n]
    exact parse_loop hn h hu n 0 500 (by omega) (by omega)
  · rw [if_neg (by omega)]
    have : ¬ parB n b = true := fun hp => by
      have := eqB_length hp
      rw [pack_bits_length] at this
      omega
    rw [if_neg this]
    exact ⟨_, rfl⟩
theorem BucketsQ_call {y : Ly} (ok : y.Ok) (w : World) : Calls Tryz.prog 107 #[.int .i64 y.c0] w fun e w' => e = .returned (.int .i64 (y.nb : Int)) ∧ Below w.heap.size w w' := by
  have h1 := ok.1
  have h2 := ok.2.1
  unfold Ly.nb Ly.lv
  obtain ⟨m, hm⟩ : ∃ m : Nat, y.c0 = m := ⟨y.c0.toNat, by omega⟩
  have hM : ∀ W, Calls Tryz.prog 125 #[.int .i64 (m : Int)] W fun e w' => e = .returned (.bool true) ∧ Drawn0 W w' := fun W => D.oubref7_MayHeight.calls (m : Int) true W (by
    unfold D.oubref7_MayHeight.f
    rw [if_pos (by omega), decide_eq_true (by omega)])
  rw [hm, Int.toNat_natCast]
  have HM := Lib.hid hM
  rcases (by omega : m = 0 ∨ m = 1 ∨ m = 2 ∨ m = 3 ∨ m = 4 ∨ m = 5 ∨ m = 6) with rfl | rfl | rfl | rfl | rfl | rfl | rfl
  all_goals
    clear hM hm h1 h2
    go_enter Tryz.func107, Tryz.ntmps107
    go_wp2_with fail
    refine (HM.out _).mono ?_
    rintro e w1 ⟨rfl, hd⟩
    have HB := Lib.hid hd.below
    clear hd
    go_wp2_with fail
    go_ret
    exact ⟨by first | rfl | decide, HB.out⟩
theorem ParseBitsQ_call {A : Option Addr} {c n : Nat} {b : List Int} {m : Nat} {w : World} (r : Bool) (hr : parB n b = r) (hm : b.length = m) (hC : Kd.C (Kd.int .u8) w A b.length b) (hc : b.length ≤ c) (h1 : 1 ≤ n) (h2 : n ≤ 127) (hb : b.length ≤ 300) (hu : u8ok b) :
    Calls Tryz.prog 115 #[.int .i64 n, .slice A m c] w fun e w' => ∃ p, e = .returned (.tuple #[p, .int .i64 (if r = true then 0 else 2)]) ∧ Below w.heap.size w w' := by
  subst hm hr
  obtain ⟨x, hx⟩ := ParseBits_f h1 h2 hb hu
  refine (D.oubref7_ParseBits.calls 500 (n : Int) A c b x _ w hC hc hx).mono ?_
  rintro e w' ⟨v, rfl, _, hb⟩
  exact ⟨v, rfl, hb⟩
end Go.Proofs.YtmbnomlkhmcmaaaGreat.A
end
section
namespace Go.Proofs.YtmbnomlkhmcmaaaGreat.A
open Go.RowKit Go.Shelf Go.Proofs.YtmbnomlkhmcmaaaGreatW.PrintWords Go.Proofs.YtmbnomlkhmcmaaaGreatW.PrintLast Go.Proofs.YtmbnomlkhmcmaaaGreatW.PrintMore Go.Proofs.YtmbnomlkhmcmaaaGreat.C Go.Proofs.YtmbnomlkhmcmaaaGreat.Z
set_option linter.unusedVariables false
set_option linter.unusedSimpArgs false
theorem MayLeaf_f {y : Ly} (ok : y.Ok) (leaf : Int) : D.oubref7_MayLeaf.f y.c0 leaf = some (amB leaf (y.lv - 1)) := by
 have h1 := ok.1
 have h2 := ok.2.1
 have e0 : D.oubref7_MayHeight.f y.c0 = some true := by
  unfold D.oubref7_MayHeight.f
  rw [if_pos h1, decide_eq_true h2]
 have e1 : ∃ z, IntKind.u64.wrap y.c0 = z ∧ 0 ≤ z ∧ shl .i64 1 z = y.lv := by
  unfold Ly.lv
  obtain ⟨m, hm⟩ : ∃ m : Nat, y.c0 = m := ⟨y.c0.toNat, by omega⟩
  rw [hm, Int.toNat_natCast]
  rcases (by omega : m = 0 ∨ m = 1 ∨ m = 2 ∨ m = 3 ∨ m = 4 ∨ m = 5 ∨ m = 6) with rfl | rfl | rfl | rfl | rfl | rfl | rfl <;> exact ⟨_, rfl, by decide +kernel, by decide +kernel⟩
 obtain ⟨z, e2, e3, e4⟩ := e1
 unfold D.oubref7_MayLeaf.f amB
 rw [e0, Option.bind_some, if_pos rfl, e2, e4]
 by_cases h : leaf ≥ 0
 ·rw [if_pos h, if_pos e3]
  congr 1
  exact decide_eq_decide.2 (by omega)
 ·rw [if_neg h, decide_eq_false (by omega)]
theorem MayLeaf_call {y : Ly} (ok : y.Ok) (leaf : Int) (r : Bool) (hr : amB leaf (y.lv - 1) = r) (w : World) : Calls Tryz.prog 150 #[.int .i64 y.c0, .int .i64 leaf] w fun e w' => e = .returned (.bool r) ∧ Below w.heap.size w w' := by
 refine (D.oubref7_MayLeaf.calls y.c0 leaf r w (by rw [MayLeaf_f ok, hr])).mono ?_
 rintro e w' ⟨rfl, h⟩
 exact ⟨rfl, h.below⟩
theorem SlotsQ_call {y : Ly} {w : World} (h : y.R w) (ok : y.Ok) : Calls Tryz.prog 65 #[y.v] w fun e w' => e = .returned (.int .i64 y.slots) ∧ Below w.heap.size w w' := by
 obtain ⟨_, _, _, _, _, _, h1, h2, h3, h4, h5, h6, _⟩ := ok
 have a : y.c3 * y.c4 ≤ 4 * 8 := Int.mul_le_mul h2 h4 (by omega) (by omega)
 have b : 1 * 1 ≤ y.c3 * y.c4 := Int.mul_le_mul h1 h3 (by omega) (by omega)
 refine (D.oubref7_Slots.calls _ _ _ _ _ _ _ _ _ _ y.A y.cap y.l y.slots w h.1 h.2 ?_).mono ?_
 ·unfold D.oubref7_Slots.f Ly.slots
  rw [wr64 (z := y.c3 * y.c4) (by omega) (by omega), wr64 (by omega) (by omega)]
 ·rintro e w' ⟨rfl, hb⟩
  exact ⟨rfl, hb⟩
theorem MayCommitQ_call (s e0 : Int) (w : World) : Calls Tryz.prog 76 #[.agg #[.int .i64 s, .int .i64 e0]] w fun e w' => e = .returned (.bool (okC s e0)) ∧ Below w.heap.size w w' := by
 refine D.oubref23_MayCommit.calls s e0 (okC s e0) w ?_
 unfold D.oubref23_MayCommit.f okC
 by_cases h1 : s ≥ 0 <;> by_cases h2 : s ≤ 1099511627774 <;> by_cases h3 : e0 ≥ 0 <;> simp [h1, h2, h3] <;> omega
set_option maxHeartbeats 4000000 in
set_option maxRecDepth 100000 in
theorem placeQ_call {y : Ly} (w : World) (ok : y.Ok) (leaf tag : Int) (r : Bool) (hr : plB y leaf tag = r) : Calls Tryz.prog 139 #[y.v, .agg #[.int .i64 leaf, .int .i64 tag]] w fun e w' => e = .returned (.bool r) ∧ Below w.heap.size w w' := by
 have HK := Lib.hid ok
 have HR := Lib.hid hr
 clear ok hr
 go_enter Tryz.func139, Tryz.ntmps139
 go_wp2_with (first
  | ((with_reducible refine gate_dst (N := 2) rfl ?_); refine box_event ?hg (N := 2) ?hd (cs := #[.int .i64 y.c0, .int .i64 y.c1, .int .i64 y.c2, .int .i64 y.c3, .int .i64 y.c4, .int .i64 y.c5, .int .i64 y.c6, .int .i64 y.c7, .int .i64 y.c8, .int .i64 y.c9, .slice y.A y.l.length y.cap]) (t := 24) ?hr ?_; (case hd => rfl); (case hg => rfl); (case hr => first | (go_simp; done) | (go_simp; rfl)); intro gl hg_ w1 hbox_ hb_; have HX1 := Lib.hid (Sr.box (Sr.nil w) hg_ hbox_ hb_); clear hbox_ hb_ hg_)
  | ((with_reducible refine gate_dst (N := 3) rfl ?_); refine box_event ?hg (N := 3) ?hd (cs := #[.int .i64 leaf, .int .i64 tag]) (t := 72) ?hr ?_; (case hd => rfl); (case hg => rfl); (case hr => first | (go_simp; done) | (go_simp; rfl)); intro gp hg_ w2 hbox_ hb_; have HX2 := Lib.hid (Sr.box HX1.out hg_ hbox_ hb_); have q0 := HX2.out.cell (mt mh) 0 rfl; have q1 := HX2.out.cell mh 0 rfl; have q2 := HX2.out.cell mh 1 rfl; clear hbox_ hb_ hg_)
  | fail)
 obtain ⟨b1, hb1⟩ : ∃ b, amB leaf (y.lv - 1) = b := ⟨_, rfl⟩
 refine (MayLeaf_call HK.out leaf b1 hb1 _).mono ?_
 have HB1 := Lib.hid hb1
 clear hb1 q0 q1 q2
 rintro e w3 ⟨rfl, hb_⟩
 have HX3 := Lib.hid (HX2.out.below hb_)
 have q2 := HX3.out.cell mh 1 rfl
 clear hb_
 cases b1 with
 | false =>
  go_wp2_with fail
  go_ret
  exact ⟨by rw [← HR.out]; unfold plB; rw [HB1.out]; rfl, HX3.out.bel⟩
 | true =>
  by_cases h1 : 0 ≤ tag
  ·have e1 : decide (0 ≤ tag) = true := decide_eq_true h1
   obtain ⟨b2, hb2⟩ : ∃ b, decide (tag ≤ 4294967294) = b := ⟨_, rfl⟩
   have HB2 := Lib.hid (show plB y leaf tag = b2 by
    unfold plB
    rw [HB1.out, ← hb2]
    unfold amB
    simp [h1])
   go_wp2_with fail
   go_ret
   exact ⟨by rw [← HR.out, HB2.out]; first | rfl | (rw [← hb2]; rfl) | rw [hb2], HX3.out.bel⟩
  ·have e1 : decide (0 ≤ tag) = false := decide_eq_false h1
   go_wp2_with fail
   go_ret
   exact ⟨by rw [← HR.out]; unfold plB; rw [HB1.out, show amB tag 4294967294 = false from decide_eq_false (by omega)]; rfl, HX3.out.bel⟩
abbrev Lg.qobj (g : Lg) : Obj := .cells #[.int .i64 g.s, .int .i64 g.i, .int .i64 g.d, .int .i64 g.f, .int .i64 g.t] 76
theorem amB_and (a b : Int) : amB a b = (decide (0 ≤ a) && decide (a ≤ b)) := by unfold amB; rw [Bool.decide_and]
theorem okLog_of {y : Ly} {g : Lg} (ok : y.Ok) (h0 : -9223372036854775808 ≤ g.d) (h1 : g.d ≤ 9223372036854775807) : okLog y g = (decide (0 ≤ g.s) && (decide (g.s ≤ 1099511627774) && (decide (0 ≤ g.i) && (decide (g.i < y.slots) && (decide (-1 ≤ g.d) && (decide (g.d < y.c2) && plB y g.f g.t)))))) := by
 have e : amB (wrap64 (g.d + 1)) y.c2 = (decide (-1 ≤ g.d) && decide (g.d < y.c2)) := by
  unfold Ly.Ok at ok
  unfold amB
  rw [← Bool.decide_and]
  apply decide_eq_decide.2
  by_cases h : g.d < 9223372036854775807
  ·rw [wr64 (by omega) (by omega)]; omega
  ·rw [show g.d = 9223372036854775807 by omega, show wrap64 (9223372036854775807 + 1) = -9223372036854775808 by decide +kernel]
   omega
 unfold okLog
 rw [e, amB_and g.s, amB_and g.i, show decide (g.i ≤ y.slots - 1) = decide (g.i < y.slots) from decide_eq_decide.2 (by omega)]
 simp only [Bool.and_assoc]
abbrev sRfE0 (gg : Nat) (g : Lg) (gl : Nat) (y : Ly) : World → Prop := fun w' => w'.cell? ⟨gg, 0, none⟩ = some (.int .i64 g.s) ∧ w'.cell? ⟨gg, 1, none⟩ = some (.int .i64 g.i) ∧ w'.cell? ⟨gg, 2, none⟩ = some (.int .i64 g.d) ∧ w'.cell? ⟨gg, 3, none⟩ = some (.int .i64 g.f) ∧ w'.cell? ⟨gg, 4, none⟩ = some (.int .i64 g.t) ∧ w'.cell? ⟨gl, 0, none⟩ = some (.int .i64 y.c0) ∧ w'.cell? ⟨gl, 1, none⟩ = some (.int .i64 y.c1) ∧ w'.cell? ⟨gl, 2, none⟩ = some (.int .i64 y.c2) ∧ w'.cell? ⟨gl, 3, none⟩ = some (.int .i64 y.c3) ∧ w'.cell? ⟨gl, 4, none⟩ = some (.int .i64 y.c4) ∧ w'.cell? ⟨gl, 5, none⟩ = some (.int .i64 y.c5) ∧ w'.cell? ⟨gl, 6, none⟩ = some (.int .i64 y.c6) ∧ w'.cell? ⟨gl, 7, none⟩ = some (.int .i64 y.c7) ∧ w'.cell? ⟨gl, 8, none⟩ = some (.int .i64 y.c8) ∧ w'.cell? ⟨gl, 9, none⟩ = some (.int .i64 y.c9) ∧ w'.cell? ⟨gl, 10, none⟩ = some (.slice y.A y.l.length y.cap)
set_option maxHeartbeats 8000000 in
set_option maxRecDepth 100000 in
theorem MayLogQ_call {y : Ly} {w : World} (hy : y.R w) (ok : y.Ok) (g : Lg) (hg : -9223372036854775808 ≤ g.d ∧ g.d ≤ 9223372036854775807) (r : Bool) (hr : okLog y g = r) :
  Calls Tryz.prog 73 #[y.v, g.v] w fun e w' => e = .returned (.bool r) ∧ Below w.heap.size w w' := by
 have HY := Lib.hid hy
 have HK := Lib.hid ok
 have HG := Lib.hid hg
 have HR := Lib.hid hr
 clear hy ok hg hr
 go_enter Tryz.func73, Tryz.ntmps73
 go_upto_region 1 with (first
  | ((with_reducible refine gate_dst (N := 2) rfl ?_); refine box_event ?hg (N := 2) ?hd (cs := #[.int .i64 y.c0, .int .i64 y.c1, .int .i64 y.c2, .int .i64 y.c3, .int .i64 y.c4, .int .i64 y.c5, .int .i64 y.c6, .int .i64 y.c7, .int .i64 y.c8, .int .i64 y.c9, .slice y.A y.l.length y.cap]) (t := 24) ?hr ?_; (case hd => rfl); (case hg => rfl); (case hr => first | (go_simp; done) | (go_simp; rfl)); intro gl hg_ w1 hbox_ hb_; have HX1 := Lib.hid (Sr.box (Sr.nil w) hg_ hbox_ hb_); clear hbox_ hb_ hg_)
  | ((with_reducible refine gate_dst (N := 3) rfl ?_); refine box_event ?hg (N := 3) ?hd (cs := #[.int .i64 g.s, .int .i64 g.i, .int .i64 g.d, .int .i64 g.f, .int .i64 g.t]) (t := 76) ?hr ?_; (case hd => rfl); (case hg => rfl); (case hr => first | (go_simp; done) | (go_simp; rfl)); intro gg hg_ w2 hbox_ hb_; have HX2 := Lib.hid (Sr.box HX1.out hg_ hbox_ hb_); clear hbox_ hb_ hg_)
  | fail)
 have HS : ∀ w', Sr w [(gg, Obj.cells #[.int .i64 g.s, .int .i64 g.i, .int .i64 g.d, .int .i64 g.f, .int .i64 g.t] 76), (gl, y.cobj)] w' → w'.cell? ⟨gg, 0, none⟩ = some (.int .i64 g.s) ∧ w'.cell? ⟨gg, 1, none⟩ = some (.int .i64 g.i) ∧ w'.cell? ⟨gg, 2, none⟩ = some (.int .i64 g.d) ∧ w'.cell? ⟨gg, 3, none⟩ = some (.int .i64 g.f) ∧ w'.cell? ⟨gg, 4, none⟩ = some (.int .i64 g.t) ∧ w'.cell? ⟨gl, 0, none⟩ = some (.int .i64 y.c0) ∧ w'.cell? ⟨gl, 1, none⟩ = some (.int .i64 y.c1) ∧ w'.cell? ⟨gl, 2, none⟩ = some (.int .i64 y.c2) ∧ w'.cell? ⟨gl, 3, none⟩ = some (.int .i64 y.c3) ∧ w'.cell? ⟨gl, 4, none⟩ = some (.int .i64 y.c4) ∧ w'.cell? ⟨gl, 5, none⟩ = some (.int .i64 y.c5) ∧ w'.cell? ⟨gl, 6, none⟩ = some (.int .i64 y.c6) ∧ w'.cell? ⟨gl, 7, none⟩ = some (.int .i64 y.c7) ∧ w'.cell? ⟨gl, 8, none⟩ = some (.int .i64 y.c8) ∧ w'.cell? ⟨gl, 9, none⟩ = some (.int .i64 y.c9) ∧ w'.cell? ⟨gl, 10, none⟩ = some (.slice y.A y.l.length y.cap) := fun w' h => ⟨h.cell mh 0 rfl, h.cell mh 1 rfl, h.cell mh 2 rfl, h.cell mh 3 rfl, h.cell mh 4 rfl, h.cell (mt mh) 0 rfl, h.cell (mt mh) 1 rfl, h.cell (mt mh) 2 rfl, h.cell (mt mh) 3 rfl, h.cell (mt mh) 4 rfl, h.cell (mt mh) 5 rfl, h.cell (mt mh) 6 rfl, h.cell (mt mh) 7 rfl, h.cell (mt mh) 8 rfl, h.cell (mt mh) 9 rfl, h.cell (mt mh) 10 rfl⟩
 by_cases h1 : 0 ≤ g.s
 ·have e1 : decide (0 ≤ g.s) = true := decide_eq_true h1
  by_cases h2 : g.s ≤ 1099511627774
  ·have e2 : decide (g.s ≤ 1099511627774) = true := decide_eq_true h2
   by_cases h3 : 0 ≤ g.i
   ·have e3 : decide (0 ≤ g.i) = true := decide_eq_true h3
    by_cases h4 : g.i < y.slots
    ·have e4 : decide (g.i < y.slots) = true := decide_eq_true h4
     by_cases h5 : -1 ≤ g.d
     ·have e5 : decide (-1 ≤ g.d) = true := decide_eq_true h5
      by_cases h6 : g.d < y.c2
      ·have e6 : decide (g.d < y.c2) = true := decide_eq_true h6
       obtain ⟨b7, hb7⟩ : ∃ b, plB y g.f g.t = b := ⟨_, rfl⟩
       have H7 := Lib.hid hb7
       clear hb7
       refine stq 42 0 (sRfE0 gg g gl y) (HS _ (HX2.out.below (drewB _))) (fun hHeld => ?_)
       refine pq 0 5 42 1 ?_
       refine tq 1 6 42 3 hHeld ?_
       refine pq 2 7 42 7 ?_
       refine pq 3 8 42 15 ?_
       refine pq 4 9 42 31 ?_
       refine tq 5 10 42 63 hHeld ?_
       refine pq 6 11 42 127 ?_
       refine pq 7 12 42 255 ?_
       refine pq 8 13 42 511 ?_
       refine pq 9 14 42 1023 ?_
       refine tq 10 15 42 2047 hHeld ?_
       refine pq 11 16 42 4095 ?_
       refine pq 12 17 42 8191 ?_
       refine pq 13 18 42 16383 ?_
       refine pq 14 19 42 32767 ?_
       refine tq 15 20 42 65535 hHeld ?_
       refine tq 16 21 42 131071 hHeld ?_
       refine oq 17 22 42 262143 (fun K hK => ?_)
       refine gq Tryz.func65 #[y.v] ?_
       with_reducible refine ((SlotsQ_call (HY.out.below (Sr.bel (HX2.out.below (drewB _)))) HK.out)).mono ?_
       rintro e ws ⟨rfl, hb_⟩
       refine ⟨_, rfl, ?_⟩
       have HAs := Lib.hid (Sr.below (HX2.out.below (drewB _)) hb_)
       clear hb_
       refine hK.out _ _ (HS _ HAs.out) (fun hHeld => ?_)
       clear hK K
       refine nx 22 ?_
       refine pq 18 23 42 524287 ?_
       refine pq 19 24 42 1048575 ?_
       refine pq 20 25 42 2097151 ?_
       refine pq 21 26 42 4194303 ?_
       refine pq 22 27 42 8388607 ?_
       refine tq 23 28 42 16777215 hHeld ?_
       refine pq 24 29 42 33554431 ?_
       refine pq 25 30 42 67108863 ?_
       refine pq 26 31 42 134217727 ?_
       refine pq 27 32 42 268435455 ?_
       refine pq 28 33 42 536870911 ?_
       refine pq 30 35 42 1610612735 ?_
       refine tq 29 34 42 2147483647 hHeld ?_
       refine tq 31 36 42 4294967295 hHeld ?_
       refine pq 32 37 42 8589934591 ?_
       refine pq 33 38 42 17179869183 ?_
       refine pq 34 39 42 34359738367 ?_
       refine pq 36 41 42 103079215103 ?_
       refine pq 37 42 42 240518168575 ?_
       refine tq 35 40 42 274877906943 hHeld ?_
       refine tq 38 43 42 549755813887 hHeld ?_
       refine oq 39 44 42 1099511627775 (fun K hK => ?_)
       refine gq Tryz.func139 #[y.v, .agg #[.int .i64 g.f, .int .i64 g.t]] ?_
       with_reducible refine ((placeQ_call _ HK.out g.f g.t b7 H7.out)).mono ?_
       rintro e wp ⟨rfl, hb_⟩
       refine ⟨_, rfl, ?_⟩
       have HAp := Lib.hid (HAs.out.below hb_)
       clear hb_
       refine hK.out _ _ (HS _ HAp.out) (fun hHeld => ?_)
       clear hK K
       refine nx 44 ?_
       refine pq 40 45 42 2199023255551 ?_
       refine pq 41 4 42 4398046511103 ?_
       refine done_ (by kernel_rfl) ?_
       go_wp2_with fail
       go_ret
       exact ⟨by rw [← HR.out, okLog_of HK.out HG.out.1 HG.out.2, e1, e2, e3, e4, e5, e6, H7.out]; rfl, HAp.out.bel⟩
      ·have e6 : decide (g.d < y.c2) = false := decide_eq_false h6
       refine stq 42 0 (sRfE0 gg g gl y) (HS _ (HX2.out.below (drewB _))) (fun hHeld => ?_)
       refine pq 0 5 42 1 ?_
       refine tq 1 6 42 3 hHeld ?_
       refine pq 2 7 42 7 ?_
       refine pq 3 8 42 15 ?_
       refine pq 4 9 42 31 ?_
       refine tq 5 10 42 63 hHeld ?_
       refine pq 6 11 42 127 ?_
       refine pq 7 12 42 255 ?_
       refine pq 8 13 42 511 ?_
       refine pq 9 14 42 1023 ?_
       refine tq 10 15 42 2047 hHeld ?_
       refine pq 11 16 42 4095 ?_
       refine pq 12 17 42 8191 ?_
       refine pq 13 18 42 16383 ?_
       refine pq 14 19 42 32767 ?_
       refine tq 15 20 42 65535 hHeld ?_
       refine tq 16 21 42 131071 hHeld ?_
       refine oq 17 22 42 262143 (fun K hK => ?_)
       refine gq Tryz.func65 #[y.v] ?_
       with_reducible refine ((SlotsQ_call (HY.out.below (Sr.bel (HX2.out.below (drewB _)))) HK.out)).mono ?_
       rintro e ws ⟨rfl, hb_⟩
       refine ⟨_, rfl, ?_⟩
       have HAs := Lib.hid (Sr.below (HX2.out.below (drewB _)) hb_)
       clear hb_
       refine hK.out _ _ (HS _ HAs.out) (fun hHeld => ?_)
       clear hK K
       refine nx 22 ?_
       refine pq 18 23 42 524287 ?_
       refine pq 19 24 42 1048575 ?_
       refine pq 20 25 42 2097151 ?_
       refine pq 21 26 42 4194303 ?_
       refine pq 22 27 42 8388607 ?_
       refine tq 23 28 42 16777215 hHeld ?_
       refine pq 24 29 42 33554431 ?_
       refine pq 25 30 42 67108863 ?_
       refine pq 26 31 42 134217727 ?_
       refine pq 27 32 42 268435455 ?_
       refine pq 28 33 42 536870911 ?_
       refine pq 30 35 42 1610612735 ?_
       refine tq 29 34 42 2147483647 hHeld ?_
       refine tq 31 36 42 4294967295 hHeld ?_
       refine pq 32 37 42 8589934591 ?_
       refine pq 33 38 42 17179869183 ?_
       refine pq 34 39 42 34359738367 ?_
       refine pqo 35 40 42 68719476735 ?_
       refine pqo 36 41 42 137438953471 ?_
       refine pqo 37 42 42 274877906943 ?_
       refine pqo 38 43 42 549755813887 ?_
       refine pqo 39 44 42 1099511627775 ?_
       refine pq 40 45 42 2199023255551 ?_
       refine pq 41 4 42 4398046511103 ?_
       refine done_ (by kernel_rfl) ?_
       go_wp2_with fail
       go_ret
       exact ⟨by rw [← HR.out, okLog_of HK.out HG.out.1 HG.out.2, e1, e2, e3, e4, e5, e6]; rfl, HAs.out.bel⟩
     ·have e5 : decide (-1 ≤ g.d) = false := decide_eq_false h5
      refine stq 42 0 (sRfE0 gg g gl y) (HS _ (HX2.out.below (drewB _))) (fun hHeld => ?_)
      refine pq 0 5 42 1 ?_
      refine tq 1 6 42 3 hHeld ?_
      refine pq 2 7 42 7 ?_
      refine pq 3 8 42 15 ?_
      refine pq 4 9 42 31 ?_
      refine tq 5 10 42 63 hHeld ?_
      refine pq 6 11 42 127 ?_
      refine pq 7 12 42 255 ?_
      refine pq 8 13 42 511 ?_
      refine pq 9 14 42 1023 ?_
      refine tq 10 15 42 2047 hHeld ?_
      refine pq 11 16 42 4095 ?_
      refine pq 12 17 42 8191 ?_
      refine pq 13 18 42 16383 ?_
      refine pq 14 19 42 32767 ?_
      refine tq 15 20 42 65535 hHeld ?_
      refine tq 16 21 42 131071 hHeld ?_
      refine oq 17 22 42 262143 (fun K hK => ?_)
      refine gq Tryz.func65 #[y.v] ?_
      with_reducible refine ((SlotsQ_call (HY.out.below (Sr.bel (HX2.out.below (drewB _)))) HK.out)).mono ?_
      rintro e ws ⟨rfl, hb_⟩
      refine ⟨_, rfl, ?_⟩
      have HAs := Lib.hid (Sr.below (HX2.out.below (drewB _)) hb_)
      clear hb_
      refine hK.out _ _ (HS _ HAs.out) (fun hHeld => ?_)
      clear hK K
      refine nx 22 ?_
      refine pq 18 23 42 524287 ?_
      refine pq 19 24 42 1048575 ?_
      refine pq 20 25 42 2097151 ?_
      refine pq 21 26 42 4194303 ?_
      refine pq 22 27 42 8388607 ?_
      refine tq 23 28 42 16777215 hHeld ?_
      refine pq 24 29 42 33554431 ?_
      refine pq 25 30 42 67108863 ?_
      refine pq 26 31 42 134217727 ?_
      refine pqo 27 32 42 268435455 ?_
      refine pqo 28 33 42 536870911 ?_
      refine pqo 29 34 42 1073741823 ?_
      refine pqo 30 35 42 2147483647 ?_
      refine pqo 31 36 42 4294967295 ?_
      refine pqo 32 37 42 8589934591 ?_
      refine pq 33 38 42 17179869183 ?_
      refine pq 34 39 42 34359738367 ?_
      refine pqo 35 40 42 68719476735 ?_
      refine pqo 36 41 42 137438953471 ?_
      refine pqo 37 42 42 274877906943 ?_
      refine pqo 38 43 42 549755813887 ?_
      refine pqo 39 44 42 1099511627775 ?_
      refine pq 40 45 42 2199023255551 ?_
      refine pq 41 4 42 4398046511103 ?_
      refine done_ (by kernel_rfl) ?_
      go_wp2_with fail
      go_ret
      exact ⟨by rw [← HR.out, okLog_of HK.out HG.out.1 HG.out.2, e1, e2, e3, e4, e5]; rfl, HAs.out.bel⟩
    ·have e4 : decide (g.i < y.slots) = false := decide_eq_false h4
     refine stq 42 0 (sRfE0 gg g gl y) (HS _ (HX2.out.below (drewB _))) (fun hHeld => ?_)
     refine pq 0 5 42 1 ?_
     refine tq 1 6 42 3 hHeld ?_
     refine pq 2 7 42 7 ?_
     refine pq 3 8 42 15 ?_
     refine pq 4 9 42 31 ?_
     refine tq 5 10 42 63 hHeld ?_
     refine pq 6 11 42 127 ?_
     refine pq 7 12 42 255 ?_
     refine pq 8 13 42 511 ?_
     refine pq 9 14 42 1023 ?_
     refine tq 10 15 42 2047 hHeld ?_
     refine pq 11 16 42 4095 ?_
     refine pq 12 17 42 8191 ?_
     refine pq 13 18 42 16383 ?_
     refine pq 14 19 42 32767 ?_
     refine tq 15 20 42 65535 hHeld ?_
     refine tq 16 21 42 131071 hHeld ?_
     refine oq 17 22 42 262143 (fun K hK => ?_)
     refine gq Tryz.func65 #[y.v] ?_
     with_reducible refine ((SlotsQ_call (HY.out.below (Sr.bel (HX2.out.below (drewB _)))) HK.out)).mono ?_
     rintro e ws ⟨rfl, hb_⟩
     refine ⟨_, rfl, ?_⟩
     have HAs := Lib.hid (Sr.below (HX2.out.below (drewB _)) hb_)
     clear hb_
     refine hK.out _ _ (HS _ HAs.out) (fun hHeld => ?_)
     clear hK K
     refine nx 22 ?_
     refine pq 18 23 42 524287 ?_
     refine pq 19 24 42 1048575 ?_
     refine pq 20 25 42 2097151 ?_
     refine pqo 21 26 42 4194303 ?_
     refine pqo 22 27 42 8388607 ?_
     refine pqo 23 28 42 16777215 ?_
     refine pqo 24 29 42 33554431 ?_
     refine pq 25 30 42 67108863 ?_
     refine pq 26 31 42 134217727 ?_
     refine pqo 27 32 42 268435455 ?_
     refine pqo 28 33 42 536870911 ?_
     refine pqo 29 34 42 1073741823 ?_
     refine pqo 30 35 42 2147483647 ?_
     refine pqo 31 36 42 4294967295 ?_
     refine pqo 32 37 42 8589934591 ?_
     refine pq 33 38 42 17179869183 ?_
     refine pq 34 39 42 34359738367 ?_
     refine pqo 35 40 42 68719476735 ?_
     refine pqo 36 41 42 137438953471 ?_
     refine pqo 37 42 42 274877906943 ?_
     refine pqo 38 43 42 549755813887 ?_
     refine pqo 39 44 42 1099511627775 ?_
     refine pq 40 45 42 2199023255551 ?_
     refine pq 41 4 42 4398046511103 ?_
     refine done_ (by kernel_rfl) ?_
     go_wp2_with fail
     go_ret
     exact ⟨by rw [← HR.out, okLog_of HK.out HG.out.1 HG.out.2, e1, e2, e3, e4]; rfl, HAs.out.bel⟩
   ·have e3 : decide (0 ≤ g.i) = false := decide_eq_false h3
    refine stq 42 0 (sRfE0 gg g gl y) (HS _ (HX2.out.below (drewB _))) (fun hHeld => ?_)
    refine pq 0 5 42 1 ?_
    refine tq 1 6 42 3 hHeld ?_
    refine pq 2 7 42 7 ?_
    refine pq 3 8 42 15 ?_
    refine pq 4 9 42 31 ?_
    refine tq 5 10 42 63 hHeld ?_
    refine pq 6 11 42 127 ?_
    refine pq 7 12 42 255 ?_
    refine pq 8 13 42 511 ?_
    refine pq 9 14 42 1023 ?_
    refine tq 10 15 42 2047 hHeld ?_
    refine pq 11 16 42 4095 ?_
    refine pq 12 17 42 8191 ?_
    refine pq 13 18 42 16383 ?_
    refine pqo 14 19 42 32767 ?_
    refine pqo 15 20 42 65535 ?_
    refine pqo 16 21 42 131071 ?_
    refine pqo 17 22 42 262143 ?_
    refine pqo 18 23 42 524287 ?_
    refine pq 19 24 42 1048575 ?_
    refine pq 20 25 42 2097151 ?_
    refine pqo 21 26 42 4194303 ?_
    refine pqo 22 27 42 8388607 ?_
    refine pqo 23 28 42 16777215 ?_
    refine pqo 24 29 42 33554431 ?_
    refine pq 25 30 42 67108863 ?_
    refine pq 26 31 42 134217727 ?_
    refine pqo 27 32 42 268435455 ?_
    refine pqo 28 33 42 536870911 ?_
    refine pqo 29 34 42 1073741823 ?_
    refine pqo 30 35 42 2147483647 ?_
    refine pqo 31 36 42 4294967295 ?_
    refine pqo 32 37 42 8589934591 ?_
    refine pq 33 38 42 17179869183 ?_
    refine pq 34 39 42 34359738367 ?_
    refine pqo 35 40 42 68719476735 ?_
    refine pqo 36 41 42 137438953471 ?_
    refine pqo 37 42 42 274877906943 ?_
    refine pqo 38 43 42 549755813887 ?_
    refine pqo 39 44 42 1099511627775 ?_
    refine pq 40 45 42 2199023255551 ?_
    refine pq 41 4 42 4398046511103 ?_
    refine done_ (by kernel_rfl) ?_
    go_wp2_with fail
    go_ret
    exact ⟨by rw [← HR.out, okLog_of HK.out HG.out.1 HG.out.2, e1, e2, e3]; rfl, (HX2.out.bel).drew⟩
  ·have e2 : decide (g.s ≤ 1099511627774) = false := decide_eq_false h2
   refine stq 42 0 (sRfE0 gg g gl y) (HS _ (HX2.out.below (drewB _))) (fun hHeld => ?_)
   refine pq 0 5 42 1 ?_
   refine tq 1 6 42 3 hHeld ?_
   refine pq 2 7 42 7 ?_
   refine pq 3 8 42 15 ?_
   refine pq 4 9 42 31 ?_
   refine tq 5 10 42 63 hHeld ?_
   refine pq 6 11 42 127 ?_
   refine pq 7 12 42 255 ?_
   refine pq 8 13 42 511 ?_
   refine pqo 9 14 42 1023 ?_
   refine pqo 10 15 42 2047 ?_
   refine pqo 11 16 42 4095 ?_
   refine pq 12 17 42 8191 ?_
   refine pq 13 18 42 16383 ?_
   refine pqo 14 19 42 32767 ?_
   refine pqo 15 20 42 65535 ?_
   refine pqo 16 21 42 131071 ?_
   refine pqo 17 22 42 262143 ?_
   refine pqo 18 23 42 524287 ?_
   refine pq 19 24 42 1048575 ?_
   refine pq 20 25 42 2097151 ?_
   refine pqo 21 26 42 4194303 ?_
   refine pqo 22 27 42 8388607 ?_
   refine pqo 23 28 42 16777215 ?_
   refine pqo 24 29 42 33554431 ?_
   refine pq 25 30 42 67108863 ?_
   refine pq 26 31 42 134217727 ?_
   refine pqo 27 32 42 268435455 ?_
   refine pqo 28 33 42 536870911 ?_
   refine pqo 29 34 42 1073741823 ?_
   refine pqo 30 35 42 2147483647 ?_
   refine pqo 31 36 42 4294967295 ?_
   refine pqo 32 37 42 8589934591 ?_
   refine pq 33 38 42 17179869183 ?_
   refine pq 34 39 42 34359738367 ?_
   refine pqo 35 40 42 68719476735 ?_
   refine pqo 36 41 42 137438953471 ?_
   refine pqo 37 42 42 274877906943 ?_
   refine pqo 38 43 42 549755813887 ?_
   refine pqo 39 44 42 1099511627775 ?_
   refine pq 40 45 42 2199023255551 ?_
   refine pq 41 4 42 4398046511103 ?_
   refine done_ (by kernel_rfl) ?_
   go_wp2_with fail
   go_ret
   exact ⟨by rw [← HR.out, okLog_of HK.out HG.out.1 HG.out.2, e1, e2]; rfl, (HX2.out.bel).drew⟩
 ·have e1 : decide (0 ≤ g.s) = false := decide_eq_false h1
  refine stq 42 0 (sRfE0 gg g gl y) (HS _ (HX2.out.below (drewB _))) (fun hHeld => ?_)
  refine pq 0 5 42 1 ?_
  refine tq 1 6 42 3 hHeld ?_
  refine pq 2 7 42 7 ?_
  refine pq 3 8 42 15 ?_
  refine pqo 4 9 42 31 ?_
  refine pqo 5 10 42 63 ?_
  refine pqo 6 11 42 127 ?_
  refine pq 7 12 42 255 ?_
  refine pq 8 13 42 511 ?_
  refine pqo 9 14 42 1023 ?_
  refine pqo 10 15 42 2047 ?_
  refine pqo 11 16 42 4095 ?_
  refine pq 12 17 42 8191 ?_
  refine pq 13 18 42 16383 ?_
  refine pqo 14 19 42 32767 ?_
  refine pqo 15 20 42 65535 ?_
  refine pqo 16 21 42 131071 ?_
  refine pqo 17 22 42 262143 ?_
  refine pqo 18 23 42 524287 ?_
  refine pq 19 24 42 1048575 ?_
  refine pq 20 25 42 2097151 ?_
  refine pqo 21 26 42 4194303 ?_
  refine pqo 22 27 42 8388607 ?_
  refine pqo 23 28 42 16777215 ?_
  refine pqo 24 29 42 33554431 ?_
  refine pq 25 30 42 67108863 ?_
  refine pq 26 31 42 134217727 ?_
  refine pqo 27 32 42 268435455 ?_
  refine pqo 28 33 42 536870911 ?_
  refine pqo 29 34 42 1073741823 ?_
  refine pqo 30 35 42 2147483647 ?_
  refine pqo 31 36 42 4294967295 ?_
  refine pqo 32 37 42 8589934591 ?_
  refine pq 33 38 42 17179869183 ?_
  refine pq 34 39 42 34359738367 ?_
  refine pqo 35 40 42 68719476735 ?_
  refine pqo 36 41 42 137438953471 ?_
  refine pqo 37 42 42 274877906943 ?_
  refine pqo 38 43 42 549755813887 ?_
  refine pqo 39 44 42 1099511627775 ?_
  refine pq 40 45 42 2199023255551 ?_
  refine pq 41 4 42 4398046511103 ?_
  refine done_ (by kernel_rfl) ?_
  go_wp2_with fail
  go_ret
  exact ⟨by rw [← HR.out, okLog_of HK.out HG.out.1 HG.out.2, e1]; rfl, (HX2.out.bel).drew⟩
end Go.Proofs.YtmbnomlkhmcmaaaGreat.A
end
section
namespace Go.Proofs.YtmbnomlkhmcmaaaGreat.A
open Go.RowKit Go.Shelf Go.Proofs.YtmbnomlkhmcmaaaGreatW.PrintWords Go.Proofs.YtmbnomlkhmcmaaaGreatW.PrintLast Go.Proofs.YtmbnomlkhmcmaaaGreatW.PrintMore Go.Proofs.YtmbnomlkhmcmaaaGreat.C Go.Proofs.YtmbnomlkhmcmaaaGreat.Z
set_option linter.unusedVariables false
set_option linter.unusedSimpArgs false
theorem bes_app (width : Nat) (l l' : List Int) : bes width (l ++ l') = bes width l ++ bes width l' := by simp [bes]
theorem EncPost.ok {b : Bool} {bs xs : List Int} {w w' : World} {v : Value} {rows : List (Nat × Obj)} (h : Rb w rows w' v xs) (hb : b = true) (e : xs = bs) : EncPost b bs w (.returned (.tuple #[v, .int .i64 0])) w' := by
 subst e
 unfold EncPost
 rw [if_pos hb, if_pos hb]
 exact ⟨v, rfl, Kd.R_mono h.2 (fun _ _ => trivial), h.bel⟩
theorem EncPost.no {b : Bool} {bs : List Int} {w w' : World} (h : Below w.heap.size w w') (hb : b = false) : EncPost b bs w (.returned (.tuple #[.slice none 0 0, .int .i64 1])) w' := by
 unfold EncPost
 rw [hb]
 exact ⟨_, rfl, Kd.R_nil _ _ _ _ _, h⟩
theorem whole_commit {y : Ly} (ok : y.Ok) : y.whole 10 = y.c1 * 38 := by
 unfold Ly.Ok at ok
 unfold Ly.whole
 rw [show (10 - 1) / (y.c1 * 38) = 0 from Int.ediv_eq_zero_of_lt (by omega) (by omega)]
 omega
theorem EncodeCommit_call {y : Ly} {w : World} (hy : y.R w) (ok : y.Ok) (s e0 : Int) : Calls Tryz.prog 22 #[y.v, .agg #[.int .i64 s, .int .i64 e0]] w (EncPost (okC s e0) (fill (bes 5 [s, e0]) (y.c1 * 38).toNat) w) := by
 have ok2 := ok
 unfold Ly.Ok at ok2
 refine (ckpt_EncodeCommit.calls y.c0 y.c1 y.c2 y.c3 y.c4 y.c5 y.c6 y.c7 y.c8 y.c9 y.A y.cap y.l s e0 (if okC s e0 = true then fill (bes 5 [s, e0]) (y.c1 * 38).toNat else []) (if okC s e0 = true then 0 else 1) w hy.1 hy.2 ?_).mono ?_
 ·unfold ckpt_EncodeCommit.f
  rw [if_pos (by omega)]
  by_cases h : okC s e0 = true
  ·rw [if_pos h, if_pos h, if_pos h]
  ·rw [if_neg h, if_neg h, if_neg h]
 ·rintro e w' ⟨v, rfl, hv, hb⟩
  exact ⟨v, rfl, hv, hb⟩
set_option maxHeartbeats 8000000 in
set_option maxRecDepth 100000 in
theorem EncodeLogQ_call {y : Ly} {w : World} (hy : y.R w) (ok : y.Ok) (g : Lg) (hg : -9223372036854775808 ≤ g.d ∧ g.d ≤ 9223372036854775807) :
  Calls Tryz.prog 20 #[y.v, g.v] w (EncPost (okLog y g) (fill (logBytes g) (y.whole 12).toNat) w) := by
 have HY := Lib.hid hy
 have HK := Lib.hid ok
 have HG := Lib.hid hg
 obtain ⟨b, hb⟩ : ∃ b, okLog y g = b := ⟨_, rfl⟩
 have HB := Lib.hid hb
 clear hy ok hg hb
 go_enter Tryz.func20, Tryz.ntmps20
 go_wp2_with (first
  | ((with_reducible refine gate_dst (N := 2) rfl ?_); refine box_event ?hg (N := 2) ?hd (cs := #[.int .i64 y.c0, .int .i64 y.c1, .int .i64 y.c2, .int .i64 y.c3, .int .i64 y.c4, .int .i64 y.c5, .int .i64 y.c6, .int .i64 y.c7, .int .i64 y.c8, .int .i64 y.c9, .slice y.A y.l.length y.cap]) (t := 24) ?hr ?_; (case hd => rfl); (case hg => rfl); (case hr => first | (go_simp; done) | (go_simp; rfl)); intro gl hg_ w1 hbox_ hb_; have HX1 := Lib.hid (Sr.box (Sr.nil w) hg_ hbox_ hb_); clear hbox_ hb_ hg_)
  | ((with_reducible refine gate_dst (N := 3) rfl ?_); refine box_event ?hg (N := 3) ?hd (cs := #[.int .i64 g.s, .int .i64 g.i, .int .i64 g.d, .int .i64 g.f, .int .i64 g.t]) (t := 76) ?hr ?_; (case hd => rfl); (case hg => rfl); (case hr => first | (go_simp; done) | (go_simp; rfl)); intro gg hg_ w2 hbox_ hb_; have HX2 := Lib.hid (Sr.box HX1.out hg_ hbox_ hb_); have q0 := HX2.out.cell mh 0 rfl; have q1 := HX2.out.cell mh 1 rfl; have q2 := HX2.out.cell mh 2 rfl; have q3 := HX2.out.cell mh 3 rfl; have q4 := HX2.out.cell mh 4 rfl; have p0 := HX2.out.cell (mt mh) 0 rfl; have p1 := HX2.out.cell (mt mh) 1 rfl; have p2 := HX2.out.cell (mt mh) 2 rfl; have p3 := HX2.out.cell (mt mh) 3 rfl; have p4 := HX2.out.cell (mt mh) 4 rfl; have p5 := HX2.out.cell (mt mh) 5 rfl; have p6 := HX2.out.cell (mt mh) 6 rfl; have p7 := HX2.out.cell (mt mh) 7 rfl; have p8 := HX2.out.cell (mt mh) 8 rfl; have p9 := HX2.out.cell (mt mh) 9 rfl; have p10 := HX2.out.cell (mt mh) 10 rfl; clear hbox_ hb_ hg_)
  | fail)
 refine (MayLogQ_call (HY.out.below HX2.out.bel) HK.out g HG.out b HB.out).mono ?_
 rintro e w3 ⟨rfl, hb_⟩
 have HX3 := Lib.hid (HX2.out.below hb_)
 clear hb_ q0 q1 q2 q3 q4 p0 p1 p2 p3 p4 p5 p6 p7 p8 p9 p10 HX1 HX2
 cases b with
 | false =>
  go_wp2_with fail
  refine bodyPost_ret (v := .tuple #[.slice none 0 0, .int .i64 1]) ?_ rfl ?_
  ·simp [results, Tryz.results20, go_sem]
  ·exact EncPost.no HX3.out.bel HB.out
 | true =>
  go_upto_region 3 with fail
  have hO := HB.out
  rw [okLog_of HK.out HG.out.1 HG.out.2] at hO
  simp only [Bool.and_eq_true, decide_eq_true_eq, plB] at hO
  obtain ⟨o1, o2, o3, o4, o5, o6, o7, o8⟩ := hO
  have HN5 := Lib.hid (one_ok (show okN 5 g.s from ⟨by omega, by rw [show (2 : Int) ^ (8 * 5) - 1 = 1099511627775 from rfl]; omega⟩))
  have HN1 := Lib.hid (show ∀ n ∈ [g.i, g.d], okN 1 n from by
   have h4 := Ly.slots_le HK.out
   have h6 := HK.out
   unfold Ly.Ok at h6
   intro n hn
   simp only [List.mem_cons, List.not_mem_nil, or_false] at hn
   unfold okN
   rw [show (2 : Int) ^ (8 * 1) - 1 = 255 from rfl]
   rcases hn with rfl | rfl <;> omega)
  have HNf := Lib.hid (okN1 o7 (by have := Ly.lv_le HK.out; omega))
  have HNt := Lib.hid (okN4 o8)
  clear o1 o2 o3 o4 o5 o6 o7 o8
  have HS : ∀ w', Sr w [(gg, g.qobj), (gl, y.cobj)] w' → w'.cell? ⟨gg, 0, none⟩ = some (.int .i64 g.s) ∧ w'.cell? ⟨gg, 1, none⟩ = some (.int .i64 g.i) ∧ w'.cell? ⟨gg, 2, none⟩ = some (.int .i64 g.d) ∧ w'.cell? ⟨gg, 3, none⟩ = some (.int .i64 g.f) ∧ w'.cell? ⟨gg, 4, none⟩ = some (.int .i64 g.t) ∧ w'.cell? ⟨gl, 0, none⟩ = some (.int .i64 y.c0) ∧ w'.cell? ⟨gl, 1, none⟩ = some (.int .i64 y.c1) ∧ w'.cell? ⟨gl, 2, none⟩ = some (.int .i64 y.c2) ∧ w'.cell? ⟨gl, 3, none⟩ = some (.int .i64 y.c3) ∧ w'.cell? ⟨gl, 4, none⟩ = some (.int .i64 y.c4) ∧ w'.cell? ⟨gl, 5, none⟩ = some (.int .i64 y.c5) ∧ w'.cell? ⟨gl, 6, none⟩ = some (.int .i64 y.c6) ∧ w'.cell? ⟨gl, 7, none⟩ = some (.int .i64 y.c7) ∧ w'.cell? ⟨gl, 8, none⟩ = some (.int .i64 y.c8) ∧ w'.cell? ⟨gl, 9, none⟩ = some (.int .i64 y.c9) ∧ w'.cell? ⟨gl, 10, none⟩ = some (.slice y.A y.l.length y.cap) := fun w' h => ⟨h.cell mh 0 rfl, h.cell mh 1 rfl, h.cell mh 2 rfl, h.cell mh 3 rfl, h.cell mh 4 rfl, h.cell (mt mh) 0 rfl, h.cell (mt mh) 1 rfl, h.cell (mt mh) 2 rfl, h.cell (mt mh) 3 rfl, h.cell (mt mh) 4 rfl, h.cell (mt mh) 5 rfl, h.cell (mt mh) 6 rfl, h.cell (mt mh) 7 rfl, h.cell (mt mh) 8 rfl, h.cell (mt mh) 9 rfl, h.cell (mt mh) 10 rfl⟩
  have HR9 := Lib.hid (Rb.start HX3.out)
  refine stq 19 0 (fun w' => w'.cell? ⟨gg, 0, none⟩ = some (.int .i64 g.s) ∧ w'.cell? ⟨gg, 1, none⟩ = some (.int .i64 g.i) ∧ w'.cell? ⟨gg, 2, none⟩ = some (.int .i64 g.d) ∧ w'.cell? ⟨gg, 3, none⟩ = some (.int .i64 g.f) ∧ w'.cell? ⟨gg, 4, none⟩ = some (.int .i64 g.t) ∧ w'.cell? ⟨gl, 0, none⟩ = some (.int .i64 y.c0) ∧ w'.cell? ⟨gl, 1, none⟩ = some (.int .i64 y.c1) ∧ w'.cell? ⟨gl, 2, none⟩ = some (.int .i64 y.c2) ∧ w'.cell? ⟨gl, 3, none⟩ = some (.int .i64 y.c3) ∧ w'.cell? ⟨gl, 4, none⟩ = some (.int .i64 y.c4) ∧ w'.cell? ⟨gl, 5, none⟩ = some (.int .i64 y.c5) ∧ w'.cell? ⟨gl, 6, none⟩ = some (.int .i64 y.c6) ∧ w'.cell? ⟨gl, 7, none⟩ = some (.int .i64 y.c7) ∧ w'.cell? ⟨gl, 8, none⟩ = some (.int .i64 y.c8) ∧ w'.cell? ⟨gl, 9, none⟩ = some (.int .i64 y.c9) ∧ w'.cell? ⟨gl, 10, none⟩ = some (.slice y.A y.l.length y.cap)) (HS _ (HR9.out.below (drewB _)).sr) (fun hHeld => ?_)
  have HR0 := Lib.hid (HR9.out.below (drewB _))
  generalize w3.drew = W0 at HR0 hHeld ⊢
  refine pq 1 11 19 2 ?_
  refine pq 5 15 19 34 ?_
  refine pq 7 17 19 162 ?_
  refine pq 8 18 19 418 ?_
  refine pq 12 22 19 4514 ?_
  refine pq 13 23 19 12706 ?_
  refine tq 0 10 19 12707 hHeld ?_
  refine tq 2 12 19 12711 hHeld ?_
  refine tq 6 16 19 12775 hHeld ?_
  refine tq 9 19 19 13287 hHeld ?_
  refine tq 14 24 19 29671 hHeld ?_
  refine join_ (σ := Nat × Nat × Value) 5 (bm 19 30719) (fun s => [(13, .slice (some ⟨s.1, 0, none⟩) 1 1), (14, s.2.2), (20, .slice (some ⟨s.2.1, 0, none⟩) 2 2)]) (fun s w' => Rb w ((s.1, rowo [g.s]) :: (s.2.1, rowo [g.i, g.d]) :: [(gg, g.qobj), (gl, y.cobj)]) w' (s.2.2) ([] ++ bes 5 [g.s])) ?_ ?_
  rotate_left
  ·intro hJ3_4_10
   refine join_ (σ := Nat × Value) 6 (bm 19 29695) (fun s => [(13, .slice (some ⟨s.1, 0, none⟩) 1 1), (14, s.2)]) (fun s w' => Rb w ((s.1, rowo [g.s]) :: [(gg, g.qobj), (gl, y.cobj)]) w' (s.2) ([] ++ bes 5 [g.s])) ?_ ?_
   rotate_left
   ·intro hJ3_4
    refine join_ (σ := Nat × Nat) 6 (bm 19 30703) (fun s => [(13, .slice (some ⟨s.1, 0, none⟩) 1 1), (20, .slice (some ⟨s.2, 0, none⟩) 2 2)]) (fun s w' => Rb w ((s.1, rowo [g.s]) :: (s.2, rowo [g.i, g.d]) :: [(gg, g.qobj), (gl, y.cobj)]) w' ((.slice none 0 0)) []) ?_ ?_
    rotate_left
    ·intro hJ3_10
     refine join_ (σ := Nat) 7 (bm 19 29679) (fun s => [(13, .slice (some ⟨s, 0, none⟩) 1 1)]) (fun s w' => Rb w ((s, rowo [g.s]) :: [(gg, g.qobj), (gl, y.cobj)]) w' ((.slice none 0 0)) []) ?_ ?_
     rotate_left
     ·intro hJ3
      refine join_ (σ := Nat) 7 (bm 19 30695) (fun s => [(20, .slice (some ⟨s, 0, none⟩) 2 2)]) (fun s w' => Rb w ((s, rowo [g.i, g.d]) :: [(gg, g.qobj), (gl, y.cobj)]) w' ((.slice none 0 0)) []) ?_ ?_
      rotate_left
      ·intro hJ10
       refine twq 3 10 13 20 19 29679 30695 (fun K hK => ?_) (fun K hK => ?_)
       ·refine vq ?_
        refine hK.out _ _ (HS _ ((HR0.out.row _).sr.less (fun _ hr => (mt hr)))) (fun hHeld => ?_)
        clear hK K
        refine nx 13 ?_
        exact nz (hJ3 W0.heap.size _ ((HR0.out.row _).less (mc mh (fun _ hr => (mt hr)))))
       ·refine vq ?_
        refine hK.out _ _ (HS _ ((HR0.out.row _).sr.less (fun _ hr => (mt hr)))) (fun hHeld => ?_)
        clear hK K
        refine nx 20 ?_
        exact nz (hJ10 W0.heap.size _ ((HR0.out.row _).less (mc mh (fun _ hr => (mt hr)))))
      ·rintro b10 wn hh
       have HH := Lib.hid hh
       clear hh
       have hHeld := HS _ (HH.out.sr.less (fun _ hr => (mt hr)))
       refine ny ?_
       refine oq 3 13 19 30703 (fun K hK => ?_)
       refine vq ?_
       refine hK.out _ _ (HS _ ((HH.out.row _).sr.less (fun _ hr => (mt (mt hr))))) (fun hHeld => ?_)
       clear hK K
       refine nx 13 ?_
       exact nz (hJ3_10 (wn.heap.size, b10) _ ((HH.out.row _).less (mc mh (mc (mt mh) (fun _ hr => (mt (mt hr)))))))
     ·rintro b3 wn hh
      have HH := Lib.hid hh
      clear hh
      have hHeld := HS _ (HH.out.sr.less (fun _ hr => (mt hr)))
      refine ny ?_
      refine twq 4 10 14 20 19 29695 30703 (fun K hK => ?_) (fun K hK => ?_)
      ·refine gq Tryz.func53 #[(.slice none 0 0), .int .i64 5, .slice (some ⟨b3, 0, none⟩) 1 1] ?_
       with_reducible refine ((Rb.numsR 5 5 [g.s] b3 1 1 HH.out rfl rfl (by simp) mh (by decide) (by decide) (by simp) HN5.out (by simp))).mono ?_
       rintro e wn' ⟨v4, rfl, hn⟩
       refine ⟨_, rfl, ?_⟩
       have HN := Lib.hid hn
       clear hn
       refine hK.out _ _ (HS _ (HN.out.sr.less (fun _ hr => (mt hr)))) (fun hHeld => ?_)
       clear hK K
       refine nx 14 ?_
       exact nz (hJ3_4 (b3, v4) _ HN.out)
      ·refine vq ?_
       refine hK.out _ _ (HS _ ((HH.out.row _).sr.less (fun _ hr => (mt (mt hr))))) (fun hHeld => ?_)
       clear hK K
       refine nx 20 ?_
       exact nz (hJ3_10 (b3, wn.heap.size) _ ((HH.out.row _).less (mc (mt mh) (mc mh (fun _ hr => (mt (mt hr)))))))
    ·rintro ⟨b3, b10⟩ wn hh
     have HH := Lib.hid hh
     clear hh
     have hHeld := HS _ (HH.out.sr.less (fun _ hr => (mt (mt hr))))
     refine ny ?_
     refine oq 4 14 19 30719 (fun K hK => ?_)
     refine gq Tryz.func53 #[(.slice none 0 0), .int .i64 5, .slice (some ⟨b3, 0, none⟩) 1 1] ?_
     with_reducible refine ((Rb.numsR 5 5 [g.s] b3 1 1 HH.out rfl rfl (by simp) mh (by decide) (by decide) (by simp) HN5.out (by simp))).mono ?_
     rintro e wn' ⟨v4, rfl, hn⟩
     refine ⟨_, rfl, ?_⟩
     have HN := Lib.hid hn
     clear hn
     refine hK.out _ _ (HS _ (HN.out.sr.less (fun _ hr => (mt (mt hr))))) (fun hHeld => ?_)
     clear hK K
     refine nx 14 ?_
     exact nz (hJ3_4_10 (b3, b10, v4) _ HN.out)
   ·rintro ⟨b3, v4⟩ wn hh
    have HH := Lib.hid hh
    clear hh
    have hHeld := HS _ (HH.out.sr.less (fun _ hr => (mt hr)))
    refine ny ?_
    refine oq 10 20 19 30719 (fun K hK => ?_)
    refine vq ?_
    refine hK.out _ _ (HS _ ((HH.out.row _).sr.less (fun _ hr => (mt (mt hr))))) (fun hHeld => ?_)
    clear hK K
    refine nx 20 ?_
    exact nz (hJ3_4_10 (b3, wn.heap.size, v4) _ ((HH.out.row _).less (mc (mt mh) (mc mh (fun _ hr => (mt (mt hr)))))))
  rintro ⟨b3, b10, v4⟩ wn hh
  have HH := Lib.hid hh
  clear hh
  have hHeld := HS _ (HH.out.sr.less (fun _ hr => (mt (mt hr))))
  refine ny ?_
  refine oq 11 21 19 32767 (fun K hK => ?_)
  refine gq Tryz.func53 #[v4, .int .i64 1, .slice (some ⟨b10, 0, none⟩) 2 2] ?_
  with_reducible refine ((Rb.numsR 1 1 [g.i, g.d] b10 2 2 HH.out rfl rfl (by simp) (mt mh) (by decide) (by decide) (by simp) HN1.out (by simp [bes_length]))).mono ?_
  rintro e wp ⟨v11, rfl, hn⟩
  refine ⟨_, rfl, ?_⟩
  have HQ0 := Lib.hid hn
  clear hn
  refine hK.out _ _ (HS _ (HQ0.out.sr.less (fun _ hr => mt (mt hr)))) (fun hHeld => ?_)
  clear hK K
  refine nx 21 ?_
  refine oq 15 25 19 65535 (fun K hK => ?_)
  refine gq Tryz.func54 #[v11, .agg #[.int .i64 g.f, .int .i64 g.t]] ?_
  with_reducible refine ((Rb.place HQ0.out g.f g.t HNf.out HNt.out (by simp [bes_length]))).mono ?_
  rintro e wq ⟨vq, rfl, hn⟩
  refine ⟨_, rfl, ?_⟩
  have HQ := Lib.hid hn
  clear hn
  refine hK.out _ _ (HS _ (HQ.out.sr.less (fun _ hr => mt (mt hr)))) (fun hHeld => ?_)
  clear hK K
  refine nx 25 ?_
  refine oq 16 26 19 131071 (fun K hK => ?_)
  refine gq Tryz.func56 #[y.v, vq] ?_
  with_reducible refine ((Rb.whole HQ.out HY.out HK.out (by simp [bes_length, plc]) (by simp [bes_length, plc]))).mono ?_
  rintro e wr ⟨vr, rfl, hn⟩
  refine ⟨_, rfl, ?_⟩
  have HV := Lib.hid hn
  clear hn
  refine hK.out _ _ (HS _ (HV.out.sr.less (fun _ hr => mt (mt hr)))) (fun hHeld => ?_)
  clear hK K
  refine nx 26 ?_
  refine pq 17 4 19 262143 ?_
  refine pq 18 5 19 524287 ?_
  refine done_ (by kernel_rfl) ?_
  go_wp2_with fail
  refine bodyPost_ret (v := .tuple #[vr, .int .i64 0]) ?_ rfl ?_
  ·simp [results, Tryz.results20, go_sem]
  ·refine EncPost.ok HV.out HB.out ?_
   have e : [] ++ bes 5 [g.s] ++ bes 1 [g.i, g.d] ++ plc g.f g.t = logBytes g := by
    unfold logBytes plc
    rw [show [g.i, g.d, g.f] = [g.i, g.d] ++ [g.f] from rfl, bes_app 1]
    simp only [List.nil_append, List.append_assoc]
   have e2 : ([] ++ bes 5 [g.s] ++ bes 1 [g.i, g.d] ++ plc g.f g.t).length = 12 := by simp [bes_length, plc]
   rw [e2, e]
   rfl
set_option maxHeartbeats 8000000 in
set_option maxRecDepth 100000 in
theorem EncodeCommitQ_call {y : Ly} {w : World} (hy : y.R w) (ok : y.Ok) (s e0 : Int) :
  Calls Tryz.prog 23 #[y.v, .agg #[.int .i64 s, .int .i64 e0]] w (EncPost (okC s e0) (fill (bes 5 [s, e0]) (y.c1 * 38).toNat) w) := by
 have HY := Lib.hid hy
 have HK := Lib.hid ok
 obtain ⟨b, hb⟩ : ∃ b, okC s e0 = b := ⟨_, rfl⟩
 have HB := Lib.hid hb
 clear hy ok hb
 go_enter Tryz.func23, Tryz.ntmps23
 go_wp2_with (first
  | ((with_reducible refine gate_dst (N := 2) rfl ?_); refine box_event ?hg (N := 2) ?hd (cs := #[.int .i64 y.c0, .int .i64 y.c1, .int .i64 y.c2, .int .i64 y.c3, .int .i64 y.c4, .int .i64 y.c5, .int .i64 y.c6, .int .i64 y.c7, .int .i64 y.c8, .int .i64 y.c9, .slice y.A y.l.length y.cap]) (t := 24) ?hr ?_; (case hd => rfl); (case hg => rfl); (case hr => first | (go_simp; done) | (go_simp; rfl)); intro gl hg_ w1 hbox_ hb_; have HX1 := Lib.hid (Sr.box (Sr.nil w) hg_ hbox_ hb_); clear hbox_ hb_ hg_)
  | ((with_reducible refine gate_dst (N := 3) rfl ?_); refine box_event ?hg (N := 3) ?hd (cs := #[.int .i64 s, .int .i64 e0]) (t := 55) ?hr ?_; (case hd => rfl); (case hg => rfl); (case hr => first | (go_simp; done) | (go_simp; rfl)); intro gg hg_ w2 hbox_ hb_; have HX2 := Lib.hid (Sr.box HX1.out hg_ hbox_ hb_); have q0 := HX2.out.cell mh 0 rfl; have q1 := HX2.out.cell mh 1 rfl; clear hbox_ hb_ hg_)
  | fail)
 refine (MayCommitQ_call s e0 _).mono ?_
 rw [HB.out]
 rintro e w3 ⟨rfl, hb_⟩
 have HX3 := Lib.hid (HX2.out.below hb_)
 clear hb_ q0 q1 HX1 HX2
 cases b with
 | false =>
  go_wp2_with fail
  refine bodyPost_ret (v := .tuple #[.slice none 0 0, .int .i64 1]) ?_ rfl ?_
  ·simp [results, Tryz.results23, go_sem]
  ·exact EncPost.no HX3.out.bel HB.out
 | true =>
  go_upto_region 3 with fail
  have HN5 := Lib.hid (ok5 HB.out)
  have HS : ∀ w', Sr w [(gg, Obj.cells #[.int .i64 s, .int .i64 e0] 55), (gl, y.cobj)] w' → w'.cell? ⟨gg, 0, none⟩ = some (.int .i64 s) ∧ w'.cell? ⟨gg, 1, none⟩ = some (.int .i64 e0) ∧ w'.cell? ⟨gl, 0, none⟩ = some (.int .i64 y.c0) ∧ w'.cell? ⟨gl, 1, none⟩ = some (.int .i64 y.c1) ∧ w'.cell? ⟨gl, 2, none⟩ = some (.int .i64 y.c2) ∧ w'.cell? ⟨gl, 3, none⟩ = some (.int .i64 y.c3) ∧ w'.cell? ⟨gl, 4, none⟩ = some (.int .i64 y.c4) ∧ w'.cell? ⟨gl, 5, none⟩ = some (.int .i64 y.c5) ∧ w'.cell? ⟨gl, 6, none⟩ = some (.int .i64 y.c6) ∧ w'.cell? ⟨gl, 7, none⟩ = some (.int .i64 y.c7) ∧ w'.cell? ⟨gl, 8, none⟩ = some (.int .i64 y.c8) ∧ w'.cell? ⟨gl, 9, none⟩ = some (.int .i64 y.c9) ∧ w'.cell? ⟨gl, 10, none⟩ = some (.slice y.A y.l.length y.cap) := fun w' h => ⟨h.cell mh 0 rfl, h.cell mh 1 rfl, h.cell (mt mh) 0 rfl, h.cell (mt mh) 1 rfl, h.cell (mt mh) 2 rfl, h.cell (mt mh) 3 rfl, h.cell (mt mh) 4 rfl, h.cell (mt mh) 5 rfl, h.cell (mt mh) 6 rfl, h.cell (mt mh) 7 rfl, h.cell (mt mh) 8 rfl, h.cell (mt mh) 9 rfl, h.cell (mt mh) 10 rfl⟩
  have HR9 := Lib.hid (Rb.start HX3.out)
  refine stq 10 0 (fun w' => w'.cell? ⟨gg, 0, none⟩ = some (.int .i64 s) ∧ w'.cell? ⟨gg, 1, none⟩ = some (.int .i64 e0) ∧ w'.cell? ⟨gl, 0, none⟩ = some (.int .i64 y.c0) ∧ w'.cell? ⟨gl, 1, none⟩ = some (.int .i64 y.c1) ∧ w'.cell? ⟨gl, 2, none⟩ = some (.int .i64 y.c2) ∧ w'.cell? ⟨gl, 3, none⟩ = some (.int .i64 y.c3) ∧ w'.cell? ⟨gl, 4, none⟩ = some (.int .i64 y.c4) ∧ w'.cell? ⟨gl, 5, none⟩ = some (.int .i64 y.c5) ∧ w'.cell? ⟨gl, 6, none⟩ = some (.int .i64 y.c6) ∧ w'.cell? ⟨gl, 7, none⟩ = some (.int .i64 y.c7) ∧ w'.cell? ⟨gl, 8, none⟩ = some (.int .i64 y.c8) ∧ w'.cell? ⟨gl, 9, none⟩ = some (.int .i64 y.c9) ∧ w'.cell? ⟨gl, 10, none⟩ = some (.slice y.A y.l.length y.cap)) (HS _ (HR9.out.below (drewB _)).sr) (fun hHeld => ?_)
  have HR0 := Lib.hid (HR9.out.below (drewB _))
  generalize w3.drew = W0 at HR0 hHeld ⊢
  refine pq 1 10 10 2 ?_
  refine pq 3 12 10 10 ?_
  refine tq 0 9 10 11 hHeld ?_
  refine tq 2 11 10 15 hHeld ?_
  refine tq 4 13 10 31 hHeld ?_
  refine oq 5 14 10 63 (fun K hK => ?_)
  refine vq ?_
  have HQ1 := Lib.hid (HR0.out.row (rowo [s, e0]))
  replace HQ1 : RowKit.Hid (Rb w ((W0.heap.size, rowo [s, e0]) :: [(gg, Obj.cells #[.int .i64 s, .int .i64 e0] 55), (gl, y.cobj)]) (W0.alloc (Obj.cells #[.int .i64 s, .int .i64 e0] 3)) (.slice none 0 0) []) := HQ1
  generalize W0.alloc (Obj.cells #[.int .i64 s, .int .i64 e0] 3) = W1 at HQ1 ⊢
  refine hK.out _ _ (HS _ (HQ1.out.sr.less (fun _ hr => mt hr))) (fun hHeld => ?_)
  clear hK K
  refine nx 14 ?_
  refine oq 6 15 10 127 (fun K hK => ?_)
  refine gq Tryz.func53 #[.slice none 0 0, .int .i64 5, .slice (some ⟨W0.heap.size, 0, none⟩) 2 2] ?_
  with_reducible refine ((Rb.numsR 5 5 [s, e0] W0.heap.size 2 2 HQ1.out rfl rfl (by simp) mh (by decide) (by decide) (by simp) HN5.out (by simp))).mono ?_
  rintro e wq ⟨vq, rfl, hn⟩
  refine ⟨_, rfl, ?_⟩
  have HQ := Lib.hid hn
  clear hn HQ1
  refine hK.out _ _ (HS _ (HQ.out.sr.less (fun _ hr => mt hr))) (fun hHeld => ?_)
  clear hK K
  refine nx 15 ?_
  refine oq 7 16 10 255 (fun K hK => ?_)
  refine gq Tryz.func56 #[y.v, vq] ?_
  with_reducible refine ((Rb.whole HQ.out HY.out HK.out (by simp [bes_length]) (by simp [bes_length]))).mono ?_
  rintro e wr ⟨vr, rfl, hn⟩
  refine ⟨_, rfl, ?_⟩
  have HV := Lib.hid hn
  clear hn
  refine hK.out _ _ (HS _ (HV.out.sr.less (fun _ hr => mt hr))) (fun hHeld => ?_)
  clear hK K
  refine nx 16 ?_
  refine pq 8 4 10 511 ?_
  refine pq 9 5 10 1023 ?_
  refine done_ (by kernel_rfl) ?_
  go_wp2_with fail
  refine bodyPost_ret (v := .tuple #[vr, .int .i64 0]) ?_ rfl ?_
  ·simp [results, Tryz.results23, go_sem]
  ·refine EncPost.ok HV.out HB.out ?_
   have e2 : ([] ++ bes 5 [s, e0]).length = 10 := by simp [bes_length]
   rw [e2, List.nil_append, ← whole_commit HK.out]
   rfl
end Go.Proofs.YtmbnomlkhmcmaaaGreat.A
end
