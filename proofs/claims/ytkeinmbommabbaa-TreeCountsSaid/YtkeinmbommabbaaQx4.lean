-- Written by gprint.py (wip/tools), which runs the kit's printer with some contracts given. Lean checks it.
import Derived.Test.YtkeinmbommabbaaQx0
import Derived.Test.YtkeinmbommabbaaQx1
import Derived.Test.YtkeinmbommabbaaQx2
namespace Go.Proofs.Ytkeinmbommabbaa.Q
open Go.RowKit Go.Proofs.Ytkeinmbommabbaa.G Go.Proofs.YtkeinmbommabbaaW.PrintWords Go.Proofs.YtkeinmbommabbaaW.PrintLast Go.Proofs.YtkeinmbommabbaaW.PrintMore
attribute [local go_sem] max2_int min2_int max_two min_two max_three min_three max_four min_four   -- for this text's walks alone
set_option linter.unusedVariables false
set_option linter.unusedSimpArgs false

/-! ### oublaw7_TreeCounts: function 7 -/
mutual
def oublaw7_TreeCounts.l0 : Nat → Int → List Int → List Int → Int → Option (Bool)
  | 0, _, _, _, _ => none
  | k + 1, x0, x3, x4, x5 => (tree_Leaves.f x0).bind fun t253 => (if x5 < t253 then ((tree_Path.f k x0 x5).bind fun t254 => (if x4.length < 17592186044416 then (oublaw7_TreeCounts.l1 k x0 x3 (x4 ++ [x5]) x5 t254 0) else (none))) else (oublaw7_TreeCounts.l2 k x0 x3 x4 0))
def oublaw7_TreeCounts.l1 : Nat → Int → List Int → List Int → Int → List Int → Int → Option (Bool)
  | 0, _, _, _, _, _, _ => none
  | k + 1, x0, x3, x4, x5, x6, x7 => if x7 < (x6.length : Int) then (if 0 ≤ x7 then (if (rd x6 x7) < 0 then (some false) else (if (rd x6 x7) ≥ (x3.length : Int) then (some false) else (if 0 ≤ (rd x6 x7) then (if (rd x6 x7) < (x3.length : Int) then (oublaw7_TreeCounts.l1 k x0 (x3.set ((rd x6 x7) : Int).toNat (wrap64 ((rd x3 (rd x6 x7)) + 1))) x4 x5 x6 (wrap64 (x7 + 1))) else (none)) else (none)))) else (none)) else (oublaw7_TreeCounts.l0 k x0 x3 x4 (wrap64 (x5 + 1)))
def oublaw7_TreeCounts.l2 : Nat → Int → List Int → List Int → Int → Option (Bool)
  | 0, _, _, _, _ => none
  | k + 1, x0, x3, x4, x8 => if x8 < (x3.length : Int) then ((tree_Level.f k x8).bind fun t265 => (if t265 < 0 then (some false) else (if t265 > x0 then (some false) else (if 0 ≤ x8 then (if 0 ≤ (IntKind.u64.wrap (wrap64 (x0 - t265))) then (if (rd x3 x8) = (shl .i64 1 (IntKind.u64.wrap (wrap64 (x0 - t265)))) then (oublaw7_TreeCounts.l2 k x0 x3 x4 (wrap64 (x8 + 1))) else (some false)) else (none)) else (none))))) else ((oublaw7_first.f k).bind fun t267 => (if t267 = true then ((tree_Union.f k x0 x4).bind fun t268 => (if (t268.length : Int) = (x3.length : Int) then ((tree_Leaves.f x0).bind fun t271 => (some ((x3.length : Int) == (wrap64 ((wrap64 (2 * t271)) - 1))))) else (some false))) else (some false)))
end
def oublaw7_TreeCounts.f (k : Nat) (a0 : Int) : Option (Bool) := (oublaw7_first.f k).bind fun t241 => (if t241 = true then ((tree_May.f a0).bind fun t242 => (if t242 = true then ((tree_Buckets.f a0).bind fun t249 => (if 0 ≤ t249 then (if (t249 : Int).toNat ≤ 35184372088832 then (oublaw7_TreeCounts.l0 k a0 (List.replicate (t249 : Int).toNat 0) ([] : List Int) 0) else (none)) else (none))) else ((oublaw7_first.f k).bind fun t243 => (if t243 = true then ((tree_Buckets.f a0).bind fun t244 => (if t244 = 0 then ((tree_Leaves.f a0).bind fun t245 => (if t245 = 0 then ((tree_Path.f k a0 0).bind fun t246 => (some ((t246.length : Int) == 0))) else (some false))) else (some false))) else (some false))))) else (some false))
theorem oublaw7_TreeCounts.mono_l : ∀ k, (∀ y0 y1 y2 y3, LeO (oublaw7_TreeCounts.l0 k y0 y1 y2 y3) (oublaw7_TreeCounts.l0 (k + 1) y0 y1 y2 y3)) ∧ (∀ y0 y1 y2 y3 y4 y5, LeO (oublaw7_TreeCounts.l1 k y0 y1 y2 y3 y4 y5) (oublaw7_TreeCounts.l1 (k + 1) y0 y1 y2 y3 y4 y5)) ∧ (∀ y0 y1 y2 y3, LeO (oublaw7_TreeCounts.l2 k y0 y1 y2 y3) (oublaw7_TreeCounts.l2 (k + 1) y0 y1 y2 y3))
  | 0 => ⟨fun _ _ _ _ r h => by simp [oublaw7_TreeCounts.l0] at h, fun _ _ _ _ _ _ r h => by simp [oublaw7_TreeCounts.l1] at h, fun _ _ _ _ r h => by simp [oublaw7_TreeCounts.l2] at h⟩
  | k + 1 => by
    obtain ⟨ih0, ih1, ih2⟩ := oublaw7_TreeCounts.mono_l k
    refine ⟨?_, ?_, ?_⟩
    · intro y0 y1 y2 y3
      unfold oublaw7_TreeCounts.l0
      repeat' first
      | (with_reducible exact ih0 _ _ _ _)
      | (with_reducible exact ih1 _ _ _ _ _ _)
      | (with_reducible exact ih2 _ _ _ _)
      | (with_reducible exact oublaw7_first.mono _)
      | (with_reducible exact tree_Level.mono _ _)
      | (with_reducible exact tree_Path.mono _ _ _)
      | (with_reducible exact tree_Union.mono _ _ _)
      | (with_reducible exact LeO.refl _)
      | (with_reducible exact LeO.none _)
      | (with_reducible refine LeO.ite ?_ ?_)
      | (with_reducible refine LeO.bind ?_ (fun _ => ?_))
      | exact ih0 _ _ _ _
      | exact ih1 _ _ _ _ _ _
      | exact ih2 _ _ _ _
      | exact oublaw7_first.mono _
      | exact tree_Level.mono _ _
      | exact tree_Path.mono _ _ _
      | exact tree_Union.mono _ _ _
      | exact LeO.none _
      | refine LeO.ite ?_ ?_
      | refine LeO.bind ?_ (fun _ => ?_)
    · intro y0 y1 y2 y3 y4 y5
      unfold oublaw7_TreeCounts.l1
      repeat' first
      | (with_reducible exact ih0 _ _ _ _)
      | (with_reducible exact ih1 _ _ _ _ _ _)
      | (with_reducible exact ih2 _ _ _ _)
      | (with_reducible exact oublaw7_first.mono _)
      | (with_reducible exact tree_Level.mono _ _)
      | (with_reducible exact tree_Path.mono _ _ _)
      | (with_reducible exact tree_Union.mono _ _ _)
      | (with_reducible exact LeO.refl _)
      | (with_reducible exact LeO.none _)
      | (with_reducible refine LeO.ite ?_ ?_)
      | (with_reducible refine LeO.bind ?_ (fun _ => ?_))
      | exact ih0 _ _ _ _
      | exact ih1 _ _ _ _ _ _
      | exact ih2 _ _ _ _
      | exact oublaw7_first.mono _
      | exact tree_Level.mono _ _
      | exact tree_Path.mono _ _ _
      | exact tree_Union.mono _ _ _
      | exact LeO.none _
      | refine LeO.ite ?_ ?_
      | refine LeO.bind ?_ (fun _ => ?_)
    · intro y0 y1 y2 y3
      unfold oublaw7_TreeCounts.l2
      repeat' first
      | (with_reducible exact ih0 _ _ _ _)
      | (with_reducible exact ih1 _ _ _ _ _ _)
      | (with_reducible exact ih2 _ _ _ _)
      | (with_reducible exact oublaw7_first.mono _)
      | (with_reducible exact tree_Level.mono _ _)
      | (with_reducible exact tree_Path.mono _ _ _)
      | (with_reducible exact tree_Union.mono _ _ _)
      | (with_reducible exact LeO.refl _)
      | (with_reducible exact LeO.none _)
      | (with_reducible refine LeO.ite ?_ ?_)
      | (with_reducible refine LeO.bind ?_ (fun _ => ?_))
      | exact ih0 _ _ _ _
      | exact ih1 _ _ _ _ _ _
      | exact ih2 _ _ _ _
      | exact oublaw7_first.mono _
      | exact tree_Level.mono _ _
      | exact tree_Path.mono _ _ _
      | exact tree_Union.mono _ _ _
      | exact LeO.none _
      | refine LeO.ite ?_ ?_
      | refine LeO.bind ?_ (fun _ => ?_)
theorem oublaw7_TreeCounts.mono : ∀ a0 k, LeO (oublaw7_TreeCounts.f k a0) (oublaw7_TreeCounts.f (k + 1) a0) := by
  intro a0 k
  obtain ⟨ih0, ih1, ih2⟩ := oublaw7_TreeCounts.mono_l k
  unfold oublaw7_TreeCounts.f
  repeat' first
      | (with_reducible exact ih0 _ _ _ _)
      | (with_reducible exact ih1 _ _ _ _ _ _)
      | (with_reducible exact ih2 _ _ _ _)
      | (with_reducible exact oublaw7_first.mono _)
      | (with_reducible exact tree_Level.mono _ _)
      | (with_reducible exact tree_Path.mono _ _ _)
      | (with_reducible exact tree_Union.mono _ _ _)
      | (with_reducible exact LeO.refl _)
      | (with_reducible exact LeO.none _)
      | (with_reducible refine LeO.ite ?_ ?_)
      | (with_reducible refine LeO.bind ?_ (fun _ => ?_))
      | exact ih0 _ _ _ _
      | exact ih1 _ _ _ _ _ _
      | exact ih2 _ _ _ _
      | exact oublaw7_first.mono _
      | exact tree_Level.mono _ _
      | exact tree_Path.mono _ _ _
      | exact tree_Union.mono _ _ _
      | exact LeO.none _
      | refine LeO.ite ?_ ?_
      | refine LeO.bind ?_ (fun _ => ?_)
set_option maxHeartbeats 8000000 in
set_option maxRecDepth 100000 in
theorem oublaw7_TreeCounts.calls (k : Nat) (a0 : Int) (r : Bool) (w : World) (h : oublaw7_TreeCounts.f k a0 = some r) :
    Calls Try.prog 7 #[.int .i64 a0] w fun e w' => e = .returned (.bool r) ∧ Below w.heap.size w w' := by
  have HB := Aside0.mk (Below.refl w.heap.size w)
  have H : ((oublaw7_first.f k).bind fun t241 => (if t241 = true then ((tree_May.f a0).bind fun t242 => (if t242 = true then ((tree_Buckets.f a0).bind fun t249 => (if 0 ≤ t249 then (if (t249 : Int).toNat ≤ 35184372088832 then (oublaw7_TreeCounts.l0 k a0 (List.replicate (t249 : Int).toNat 0) ([] : List Int) 0) else (none)) else (none))) else ((oublaw7_first.f k).bind fun t243 => (if t243 = true then ((tree_Buckets.f a0).bind fun t244 => (if t244 = 0 then ((tree_Leaves.f a0).bind fun t245 => (if t245 = 0 then ((tree_Path.f k a0 0).bind fun t246 => (some ((t246.length : Int) == 0))) else (some false))) else (some false))) else (some false))))) else (some false))) = some r := h
  clear h
  replace H := Option.bind_eq_some_iff.mp H
  obtain ⟨t241, A20, H⟩ := H
  replace H : (if t241 = true then ((tree_May.f a0).bind fun t242 => (if t242 = true then ((tree_Buckets.f a0).bind fun t249 => (if 0 ≤ t249 then (if (t249 : Int).toNat ≤ 35184372088832 then (oublaw7_TreeCounts.l0 k a0 (List.replicate (t249 : Int).toNat 0) ([] : List Int) 0) else (none)) else (none))) else ((oublaw7_first.f k).bind fun t243 => (if t243 = true then ((tree_Buckets.f a0).bind fun t244 => (if t244 = 0 then ((tree_Leaves.f a0).bind fun t245 => (if t245 = 0 then ((tree_Path.f k a0 0).bind fun t246 => (some ((t246.length : Int) == 0))) else (some false))) else (some false))) else (some false))))) else (some false)) = some r := H
  have A2 := Aside0.mk A20
  clear A20
  by_cases c3 : t241 = true
  · subst c3
    have H1 : ((tree_May.f a0).bind fun t242 => (if t242 = true then ((tree_Buckets.f a0).bind fun t249 => (if 0 ≤ t249 then (if (t249 : Int).toNat ≤ 35184372088832 then (oublaw7_TreeCounts.l0 k a0 (List.replicate (t249 : Int).toNat 0) ([] : List Int) 0) else (none)) else (none))) else ((oublaw7_first.f k).bind fun t243 => (if t243 = true then ((tree_Buckets.f a0).bind fun t244 => (if t244 = 0 then ((tree_Leaves.f a0).bind fun t245 => (if t245 = 0 then ((tree_Path.f k a0 0).bind fun t246 => (some ((t246.length : Int) == 0))) else (some false))) else (some false))) else (some false))))) = some r := by rw [if_pos rfl] at H; exact H
    clear H
    have H := H1
    clear H1
    replace H := Option.bind_eq_some_iff.mp H
    obtain ⟨t242, A40, H⟩ := H
    replace H : (if t242 = true then ((tree_Buckets.f a0).bind fun t249 => (if 0 ≤ t249 then (if (t249 : Int).toNat ≤ 35184372088832 then (oublaw7_TreeCounts.l0 k a0 (List.replicate (t249 : Int).toNat 0) ([] : List Int) 0) else (none)) else (none))) else ((oublaw7_first.f k).bind fun t243 => (if t243 = true then ((tree_Buckets.f a0).bind fun t244 => (if t244 = 0 then ((tree_Leaves.f a0).bind fun t245 => (if t245 = 0 then ((tree_Path.f k a0 0).bind fun t246 => (some ((t246.length : Int) == 0))) else (some false))) else (some false))) else (some false)))) = some r := H
    have A4 := Aside0.mk A40
    clear A40
    by_cases c5 : t242 = true
    · subst c5
      have H1 : ((tree_Buckets.f a0).bind fun t249 => (if 0 ≤ t249 then (if (t249 : Int).toNat ≤ 35184372088832 then (oublaw7_TreeCounts.l0 k a0 (List.replicate (t249 : Int).toNat 0) ([] : List Int) 0) else (none)) else (none))) = some r := by rw [if_pos rfl] at H; exact H
      clear H
      have H := H1
      clear H1
      replace H := Option.bind_eq_some_iff.mp H
      obtain ⟨t249, A60, H⟩ := H
      replace H : (if 0 ≤ t249 then (if (t249 : Int).toNat ≤ 35184372088832 then (oublaw7_TreeCounts.l0 k a0 (List.replicate (t249 : Int).toNat 0) ([] : List Int) 0) else (none)) else (none)) = some r := H
      have A6 := Aside0.mk A60
      clear A60
      by_cases c7 : 0 ≤ t249
      · rw [if_pos c7] at H
        have c7b0 := eq_true c7
        have c7b1 : decide (0 ≤ t249) = true := decide_eq_true c7
        clear c7
        by_cases c8 : (t249 : Int).toNat ≤ 35184372088832
        · rw [if_pos c8] at H
          have c8b0 := eq_true c8
          have c8b1 : decide ((t249 : Int).toNat ≤ 35184372088832) = true := decide_eq_true c8
          clear c8
          obtain ⟨y250, hy250⟩ : ∃ y_ : List Int, y_ = (List.replicate (t249 : Int).toNat 0) := ⟨_, rfl⟩
          replace H : (oublaw7_TreeCounts.l0 k a0 y250 ([] : List Int) 0) = some r := by first | (rw [hy250]; with_reducible exact H) | (have H2_ := (Option.bind_some _ _).symm.trans H; rw [hy250]; with_reducible exact H2_) | (have H2_ := (Option.bind_some _ _).symm.trans H; with_reducible exact H2_) | with_reducible exact H | (rw [hy250]; exact H) | exact H
          have Ny250 := Aside0.mk hy250
          clear hy250
          have H' := Aside0.mk H
          clear H
          go_enter Try.func7, Try.ntmps7
          go_wp2_with (first | ((with_reducible refine gate_callee (f := 8) rfl ?_); refine goesL_ (some 10) rfl rfl Try.func8 (by kernel_rfl) rfl #[] rfl (by (try simp only [List.map_toArray, List.map_cons, List.map_nil]); first | done | rfl | (simp only [List.length_drop, List.length_take]; rfl)) ?_; (with_reducible refine (oublaw7_first.calls k  true _ A2.out).mono ?_); rintro e w9 ⟨rfl, hb⟩; refine ⟨_, rfl, ?_⟩; have n0_ := Aside0.mk (below_step (by repeat (first | (with_reducible first | exact HB.out | apply below_alloc | apply pw_below_drewN | apply below_drew1) | exact HB.out)) hb); clear HB; have HB := n0_; clear n0_; (try clear hb); (try clear hb2); (try clear hk); (try clear hi)) | ((with_reducible refine gate_callee (f := 10) rfl ?_); refine goesL_ (some 13) rfl rfl Try.func10 (by kernel_rfl) rfl #[.int .i64 a0] rfl (by (try simp only [List.map_toArray, List.map_cons, List.map_nil]); first | done | rfl | (simp only [List.length_drop, List.length_take]; rfl)) ?_; (with_reducible refine (tree_May.calls a0 true _ A4.out).mono ?_); rintro e w' ⟨rfl, ⟨nd, rfl⟩⟩; refine ⟨_, rfl, ?_⟩) | ((with_reducible refine gate_callee (f := 11) rfl ?_); refine goesL_ (some 33) rfl rfl Try.func11 (by kernel_rfl) rfl #[.int .i64 a0] rfl (by (try simp only [List.map_toArray, List.map_cons, List.map_nil]); first | done | rfl | (simp only [List.length_drop, List.length_take]; rfl)) ?_; (with_reducible refine (tree_Buckets.calls a0 t249 _ A6.out).mono ?_); rintro e w10 ⟨rfl, hb⟩; refine ⟨_, rfl, ?_⟩; have n0_ := Aside0.mk (below_step (by repeat (first | (with_reducible first | exact HB.out | apply below_alloc | apply pw_below_drewN | apply below_drew1) | exact HB.out)) hb); clear HB; have HB := n0_; clear n0_; (try clear hb); (try clear hb2); (try clear hk); (try clear hi)) | ((with_reducible refine gate_dst (N := 34) rfl ?_); (try (refine gate_guard (by rfl) ?_; dsimp only)); refine Kd.R_make (Kd.int .i64) _ 3 rfl (N := 34) rfl 27 _ _ rfl t249 rfl rfl Try.underlying27 (.int .i64 0) 8 info3 rfl (by decide) (by omega) 0 (ok := fun _ => True) (okp := fun _ => True) rfl (fun _ hk => hk) trivial (of_decide_eq_true (by first | (with_reducible assumption) | assumption)) (Nat.le_trans (Nat.mul_le_mul_right _ (of_decide_eq_true (by first | (with_reducible assumption) | assumption) : t249.toNat ≤ 35184372088832)) (by omega)) (Below.refl _ _) (Nat.le_refl _) ?_; intro v251 w11 ho12 hb hg_ hnew_; clear hg_ hnew_; (first | rw [← Ny250.out] at ho12 | (simp only [Int.reduceToNat] at ho12; rw [← Ny250.out] at ho12)); have n0_ := Aside0.mk (Kd.R_lower ho12 (below_size (by repeat (first | (with_reducible first | exact HB.out | apply below_alloc | apply pw_below_drewN | apply below_drew1) | exact HB.out)))); have n1_ := Aside0.mk (below_step (by repeat (first | (with_reducible first | exact HB.out | apply below_alloc | apply pw_below_drewN | apply below_drew1) | exact HB.out)) hb); clear HB; have HO252 := n0_; have HB := n1_; clear n0_ n1_; clear hb ho12))
          go_loopg [4, 5] k (fun kq v4 v5 w' => ∃ (x3_1 : List Int) (x4_1 : List Int) (x5_1 : Int), v5 = .int .i64 x5_1 ∧ Aside0 (oublaw7_TreeCounts.l0 kq a0 x3_1 x4_1 x5_1 = some r) ∧ Aside0 (kq ≤ k) ∧ Aside0 (Kd.R (Kd.int .i64) 3 w' w.heap.size (fun k_ => some k_ ≠ (v4 : Value).ownBlock) v251 x3_1) ∧ Aside0 (Kd.R (Kd.int .i64) 3 w' w.heap.size (fun k_ => some k_ ≠ (v251 : Value).ownBlock) v4 x4_1) ∧ Aside0 (Below w.heap.size w w'))
          case atStart => exact ⟨(y250), (([] : List Int)), (0), (by first | rfl | (simp; done) | (simp [*]; done)), H', ⟨Nat.le_refl _⟩, ⟨by (with_reducible repeat (first | apply Kd.R_alloc | apply Kd.R_drewN | apply Kd.R_drew)); exact Kd.R_mono HO252.out (fun _ hk => (by simp [Value.ownBlock]))⟩, ⟨by first | exact Kd.R_nil _ _ _ _ _ | exact Kd.N_nil _ _ _ _ _ | exact Kd.V_nil _ _ _ _ _ | exact Kd.Q_nil _ _ _ _ _ | exact Kd.S_nil _ _ _ _ _⟩, ⟨by repeat (first | (with_reducible first | exact HB.out | apply below_alloc | apply pw_below_drewN | apply below_drew1) | exact HB.out)⟩⟩
          case round =>
            clear H'
            try clear c1
            try clear p2
            try clear c3
            try clear c5
            try clear c7
            try clear c7b0
            try clear c7b1
            try clear c8
            try clear c8b0
            try clear c8b1
            try clear c10
            try clear c11
            obtain ⟨x3_1, x4_1, x5_1, rfl, HA, HK1, HO_3, HO_4, HB⟩ := hrel
            cases gk with
            | zero => exact absurd HA.out (by simp [oublaw7_TreeCounts.l0])
            | succ k1 =>
              have H := HA.out
              clear HA
              simp only [oublaw7_TreeCounts.l0] at H
              replace H := Option.bind_eq_some_iff.mp H
              obtain ⟨t253, A130, H⟩ := H
              replace H : (if x5_1 < t253 then ((tree_Path.f k1 a0 x5_1).bind fun t254 => (if x4_1.length < 17592186044416 then (oublaw7_TreeCounts.l1 k1 a0 x3_1 (x4_1 ++ [x5_1]) x5_1 t254 0) else (none))) else (oublaw7_TreeCounts.l2 k1 a0 x3_1 x4_1 0)) = some r := H
              have A13 := Aside0.mk A130
              clear A130
              by_cases c14 : x5_1 < t253
              · rw [if_pos c14] at H
                have c14b0 : decide (x5_1 < t253) = true := decide_eq_true c14
                clear c14
                replace H := Option.bind_eq_some_iff.mp H
                obtain ⟨t254, A150, H⟩ := H
                replace H : (if x4_1.length < 17592186044416 then (oublaw7_TreeCounts.l1 k1 a0 x3_1 (x4_1 ++ [x5_1]) x5_1 t254 0) else (none)) = some r := H
                have A15 := Aside0.mk A150
                clear A150
                by_cases c16 : x4_1.length < 17592186044416
                · rw [if_pos c16] at H
                  have LMc16 := Aside0.mk c16
                  clear c16
                  obtain ⟨y257, hy257⟩ : ∃ y_ : List Int, y_ = (x4_1 ++ [x5_1]) := ⟨_, rfl⟩
                  replace H : (oublaw7_TreeCounts.l1 k1 a0 x3_1 y257 x5_1 t254 0) = some r := by first | (rw [hy257]; with_reducible exact H) | (have H2_ := (Option.bind_some _ _).symm.trans H; rw [hy257]; with_reducible exact H2_) | (have H2_ := (Option.bind_some _ _).symm.trans H; with_reducible exact H2_) | with_reducible exact H | (rw [hy257]; exact H) | exact H
                  have Ny257 := Aside0.mk hy257
                  clear hy257
                  have H' := Aside0.mk H
                  clear H
                  go_wp2_with (first | ((with_reducible refine gate_callee (f := 13) rfl ?_); refine goesL_ (some 37) rfl rfl Try.func13 (by kernel_rfl) rfl #[.int .i64 a0] rfl (by (try simp only [List.map_toArray, List.map_cons, List.map_nil]); first | done | rfl | (simp only [List.length_drop, List.length_take]; rfl)) ?_; (with_reducible refine (tree_Leaves.calls a0 t253 _ A13.out).mono ?_); rintro e w' ⟨rfl, ⟨nd, rfl⟩⟩; refine ⟨_, rfl, ?_⟩) | ((with_reducible refine gate_callee (f := 15) rfl ?_); refine goesL_ (some 43) rfl rfl Try.func15 (by kernel_rfl) rfl #[.int .i64 a0, .int .i64 x5_1] rfl (by (try simp only [List.map_toArray, List.map_cons, List.map_nil]); first | done | rfl | (simp only [List.length_drop, List.length_take]; rfl)) ?_; (with_reducible refine (tree_Path.calls k1 a0 x5_1 t254 _ A15.out).mono ?_); rintro e w17 ⟨v255, rfl, ho0, hb⟩; refine ⟨_, rfl, ?_⟩; have n0_ := Aside0.mk (Kd.R_elder' (by (with_reducible repeat (first | apply Kd.R_alloc | apply Kd.R_drewN | apply Kd.R_drew)); exact HO_3.out) (Kd.R_base ho0) hb); have n1_ := Aside0.mk (Kd.R_elder' (by (with_reducible repeat (first | apply Kd.R_alloc | apply Kd.R_drewN | apply Kd.R_drew)); exact HO_4.out) (Kd.R_base ho0) hb); have n2_ := Aside0.mk (Kd.R_lower (Kd.R_new' (Kd.R_new' ho0 (Kd.R_lt (by (with_reducible repeat (first | apply Kd.R_alloc | apply Kd.R_drewN | apply Kd.R_drew)); exact HO_3.out))) (Kd.R_lt (by (with_reducible repeat (first | apply Kd.R_alloc | apply Kd.R_drewN | apply Kd.R_drew)); exact HO_4.out))) (below_size (by repeat (first | (with_reducible first | exact HB.out | apply below_alloc | apply pw_below_drewN | apply below_drew1) | exact HB.out)))); have n3_ := Aside0.mk (below_step (by repeat (first | (with_reducible first | exact HB.out | apply below_alloc | apply pw_below_drewN | apply below_drew1) | exact HB.out)) hb); clear HO_3; clear HO_4; clear HB; have HO_3 := n0_; have HO_4 := n1_; have HO256 := n2_; have HB := n3_; clear n0_ n1_ n2_ n3_; (try clear hb); (try clear hb2); (try clear hk); (try clear hi); (try clear ho0)) | ((with_reducible refine gate_builtin (b := .append) (xs := #[.tmp 44, .tmp 46]) rfl ?_); (try (refine gate_guard (by rfl) ?_; dsimp only)); at_builtin; refine Kd.R_append (Kd.int .i64) (w0 := w) w.heap.size rfl (.tmp 44) (.tmp 46) 27 3 (.int .i64 0) 8 rfl Try.underlying27 info3 rfl (by decide) (by omega) u4 x4_1 x5_1 [.int .i64 x5_1] (fun k_ => some k_ ≠ (v251 : Value).ownBlock ∧ some k_ ≠ (v255 : Value).ownBlock) (fun _ => False) rfl rfl ?aP (fun _ hk => hk.elim) ?aF ?aO ?aB ?aS ?aL ?_; (case aP => exact rfl); (case aB => exact (by repeat (first | (with_reducible first | exact HB.out | apply below_alloc | apply pw_below_drewN | apply below_drew1) | exact HB.out))); (case aF => exact (fun k_ hk => ⟨Kd.fresh' (Kd.R_lt (by (with_reducible repeat (first | apply Kd.R_alloc | apply Kd.R_drewN | apply Kd.R_drew)); exact HO_3.out)) k_ hk, Kd.fresh' (Kd.R_lt (by (with_reducible repeat (first | apply Kd.R_alloc | apply Kd.R_drewN | apply Kd.R_drew)); exact HO256.out)) k_ hk⟩)); (case aO => exact (by (with_reducible repeat (first | apply Kd.R_alloc | apply Kd.R_drewN | apply Kd.R_drew)); exact HO_4.out)); (case aS => exact (below_size (by repeat (first | (with_reducible first | exact HB.out | apply below_alloc | apply pw_below_drewN | apply below_drew1) | exact HB.out)))); (case aL => have := LMc16.out; omega); intro v258 w18 ho hb hg hat; rw [← Ny257.out] at ho; have n0_ := Aside0.mk (Kd.R_after (ok := (fun k_ => some k_ ≠ (v255 : Value).ownBlock)) (by (with_reducible repeat (first | apply Kd.R_alloc | apply Kd.R_drewN | apply Kd.R_drew)); exact Kd.R_mono HO_3.out (fun _ hk => ⟨hk.2, hk.1⟩)) hg hat); have n1_ := Aside0.mk (Kd.R_after (ok := (fun k_ => some k_ ≠ (v251 : Value).ownBlock)) (by (with_reducible repeat (first | apply Kd.R_alloc | apply Kd.R_drewN | apply Kd.R_drew)); exact Kd.R_mono HO256.out (fun _ hk => ⟨hk.1.2, hk.2⟩)) hg hat); have n2_ := Aside0.mk (hb); have n3_ := Aside0.mk (ho); clear HO_3; clear HO256; clear HB; clear HO_4; have HO_3 := n0_; have HO256 := n1_; have HB := n2_; have HO259 := n3_; clear n0_ n1_ n2_ n3_; clear ho hb hg hat))
                  go_loopg [7] k1 (fun kq v7 w' => ∃ (x3_2 : List Int) (x7_2 : Int), v7 = .int .i64 x7_2 ∧ Aside0 (oublaw7_TreeCounts.l1 kq a0 x3_2 y257 x5_1 t254 x7_2 = some r) ∧ Aside0 (kq ≤ k1) ∧ Aside0 (Kd.R (Kd.int .i64) 3 w' w.heap.size (fun k_ => some k_ ≠ (v258 : Value).ownBlock ∧ some k_ ≠ (v255 : Value).ownBlock) v251 x3_2) ∧ Aside0 (Kd.R (Kd.int .i64) 3 w' w.heap.size (fun k_ => some k_ ≠ (v251 : Value).ownBlock ∧ some k_ ≠ (v255 : Value).ownBlock) v258 y257) ∧ Aside0 (Kd.R (Kd.int .i64) 3 w' w.heap.size (fun k_ => some k_ ≠ (v251 : Value).ownBlock ∧ some k_ ≠ (v258 : Value).ownBlock) v255 t254) ∧ Aside0 (Below w.heap.size w w'))
                  case atStart => exact ⟨(x3_1), (0), (by first | rfl | (simp; done) | (simp [*]; done)), H', ⟨Nat.le_refl _⟩, ⟨by (with_reducible repeat (first | apply Kd.R_alloc | apply Kd.R_drewN | apply Kd.R_drew)); exact Kd.R_mono HO_3.out (fun _ hk => ⟨hk.2, hk.1⟩)⟩, ⟨by (with_reducible repeat (first | apply Kd.R_alloc | apply Kd.R_drewN | apply Kd.R_drew)); exact HO259.out⟩, ⟨by (with_reducible repeat (first | apply Kd.R_alloc | apply Kd.R_drewN | apply Kd.R_drew)); exact HO256.out⟩, ⟨by repeat (first | (with_reducible first | exact HB.out | apply below_alloc | apply pw_below_drewN | apply below_drew1) | exact HB.out)⟩⟩
                  case round =>
                    clear H'
                    try clear c1
                    try clear p2
                    try clear c3
                    try clear c5
                    try clear c7
                    try clear c7b0
                    try clear c7b1
                    try clear c8
                    try clear c8b0
                    try clear c8b1
                    try clear c10
                    try clear c11
                    try clear c13
                    try clear c14
                    try clear c14b0
                    try clear c15
                    try clear c16
                    try clear p2
                    obtain ⟨x3_2, x7_2, rfl, HA, HK2, HO_3, HO_4, HO_6, HB⟩ := hrel
                    cases gk with
                    | zero => exact absurd HA.out (by simp [oublaw7_TreeCounts.l1])
                    | succ k2 =>
                      have H := HA.out
                      clear HA
                      simp only [oublaw7_TreeCounts.l1] at H
                      by_cases c19 : x7_2 < (t254.length : Int)
                      · rw [if_pos c19] at H
                        have c19b0 : decide (x7_2 < (t254.length : Int)) = true := decide_eq_true c19
                        clear c19
                        by_cases c20 : 0 ≤ x7_2
                        · rw [if_pos c20] at H
                          have c20b0 : decide (0 ≤ x7_2) = true := decide_eq_true c20
                          clear c20
                          by_cases c21 : (rd t254 x7_2) < 0
                          · rw [if_pos c21] at H
                            have c21b0 : decide ((rd t254 x7_2) < 0) = true := decide_eq_true c21
                            clear c21
                            obtain rfl := Option.some.inj H
                            obtain ⟨Ao22, co22, eo22⟩ := Kd.R_slice HO_6.out
                            subst eo22
                            have p260 : 0 ≤ (x7_2 : Int) := of_decide_eq_true (by first | (with_reducible assumption) | assumption)
                            have q260 : x7_2 < (t254.length : Int) := of_decide_eq_true (by first | (with_reducible assumption) | assumption)
                            obtain ⟨ad260, e260, hx260_0⟩ := Kd.at_int (Kd.R_reads' HO_6.out).2.2 x7_2 p260 q260
                            cases e260
                            replace p260 := eq_true p260
                            replace q260 := eq_true q260
                            go_wp2
                            go_ret
                            exact ⟨by first | rfl | (simp [errW_none, errW_some] <;> rfl) | (simp [*, errW_none, errW_some] <;> rfl), by repeat (first | (with_reducible first | exact HB.out | apply below_alloc | apply pw_below_drewN | apply below_drew1) | exact HB.out)⟩
                          · rw [if_neg c21] at H
                            have c21b0 : decide ((rd t254 x7_2) < 0) = false := decide_eq_false c21
                            clear c21
                            by_cases c23 : (rd t254 x7_2) ≥ (x3_2.length : Int)
                            · rw [if_pos c23] at H
                              have c23b0 : decide ((x3_2.length : Int) ≤ (rd t254 x7_2)) = true := decide_eq_true c23
                              clear c23
                              obtain rfl := Option.some.inj H
                              obtain ⟨Ao24, co24, eo24⟩ := Kd.R_slice HO_6.out
                              subst eo24
                              have p260 : 0 ≤ (x7_2 : Int) := of_decide_eq_true (by first | (with_reducible assumption) | assumption)
                              have q260 : x7_2 < (t254.length : Int) := of_decide_eq_true (by first | (with_reducible assumption) | assumption)
                              obtain ⟨ad260, e260, hx260_0⟩ := Kd.at_int (Kd.R_reads' HO_6.out).2.2 x7_2 p260 q260
                              cases e260
                              replace p260 := eq_true p260
                              replace q260 := eq_true q260
                              have p261 : 0 ≤ (x7_2 : Int) := of_decide_eq_true (by first | (with_reducible assumption) | assumption)
                              have q261 : x7_2 < (t254.length : Int) := of_decide_eq_true (by first | (with_reducible assumption) | assumption)
                              obtain ⟨ad261, e261, hx261_0⟩ := Kd.at_int (Kd.R_reads' HO_6.out).2.2 x7_2 p261 q261
                              obtain rfl : ad260 = ad261 := (by injection e261)
                              replace p261 := eq_true p261
                              replace q261 := eq_true q261
                              obtain ⟨Ao25, co25, eo25⟩ := Kd.R_slice HO_3.out
                              subst eo25
                              go_wp2
                              go_ret
                              exact ⟨by first | rfl | (simp [errW_none, errW_some] <;> rfl) | (simp [*, errW_none, errW_some] <;> rfl), by repeat (first | (with_reducible first | exact HB.out | apply below_alloc | apply pw_below_drewN | apply below_drew1) | exact HB.out)⟩
                            · rw [if_neg c23] at H
                              have c23b0 : decide ((x3_2.length : Int) ≤ (rd t254 x7_2)) = false := decide_eq_false c23
                              clear c23
                              by_cases c26 : 0 ≤ (rd t254 x7_2)
                              · rw [if_pos c26] at H
                                have c26b0 : decide (0 ≤ (rd t254 x7_2)) = true := decide_eq_true c26
                                clear c26
                                by_cases c27 : (rd t254 x7_2) < (x3_2.length : Int)
                                · rw [if_pos c27] at H
                                  have c27b0 : decide ((rd t254 x7_2) < (x3_2.length : Int)) = true := decide_eq_true c27
                                  clear c27
                                  obtain ⟨y264, hy264⟩ : ∃ y_ : List Int, y_ = (x3_2.set ((rd t254 x7_2) : Int).toNat (wrap64 ((rd x3_2 (rd t254 x7_2)) + 1))) := ⟨_, rfl⟩
                                  replace H : (oublaw7_TreeCounts.l1 k2 a0 y264 y257 x5_1 t254 (wrap64 (x7_2 + 1))) = some r := by first | (rw [hy264]; with_reducible exact H) | (have H2_ := (Option.bind_some _ _).symm.trans H; rw [hy264]; with_reducible exact H2_) | (have H2_ := (Option.bind_some _ _).symm.trans H; with_reducible exact H2_) | with_reducible exact H | (rw [hy264]; exact H) | exact H
                                  have Ny264 := Aside0.mk hy264
                                  clear hy264
                                  have H' := Aside0.mk H
                                  clear H
                                  obtain ⟨Ao29, co29, eo29⟩ := Kd.R_slice HO_6.out
                                  subst eo29
                                  have p260 : 0 ≤ (x7_2 : Int) := of_decide_eq_true (by first | (with_reducible assumption) | assumption)
                                  have q260 : x7_2 < (t254.length : Int) := of_decide_eq_true (by first | (with_reducible assumption) | assumption)
                                  obtain ⟨ad260, e260, hx260_0⟩ := Kd.at_int (Kd.R_reads' HO_6.out).2.2 x7_2 p260 q260
                                  cases e260
                                  replace p260 := eq_true p260
                                  replace q260 := eq_true q260
                                  have p261 : 0 ≤ (x7_2 : Int) := of_decide_eq_true (by first | (with_reducible assumption) | assumption)
                                  have q261 : x7_2 < (t254.length : Int) := of_decide_eq_true (by first | (with_reducible assumption) | assumption)
                                  obtain ⟨ad261, e261, hx261_0⟩ := Kd.at_int (Kd.R_reads' HO_6.out).2.2 x7_2 p261 q261
                                  obtain rfl : ad260 = ad261 := (by injection e261)
                                  replace p261 := eq_true p261
                                  replace q261 := eq_true q261
                                  obtain ⟨Ao30, co30, eo30⟩ := Kd.R_slice HO_3.out
                                  subst eo30
                                  have p262 : 0 ≤ (x7_2 : Int) := of_decide_eq_true (by first | (with_reducible assumption) | assumption)
                                  have q262 : x7_2 < (t254.length : Int) := of_decide_eq_true (by first | (with_reducible assumption) | assumption)
                                  obtain ⟨ad262, e262, hx262_0⟩ := Kd.at_int (Kd.R_reads' HO_6.out).2.2 x7_2 p262 q262
                                  obtain rfl : ad260 = ad262 := (by injection e262)
                                  replace p262 := eq_true p262
                                  replace q262 := eq_true q262
                                  have p263 : 0 ≤ ((rd t254 x7_2) : Int) := of_decide_eq_true (by first | (with_reducible assumption) | assumption)
                                  have q263 : (rd t254 x7_2) < (x3_2.length : Int) := of_decide_eq_true (by first | (with_reducible assumption) | assumption)
                                  obtain ⟨ad263, e263, hx263_0⟩ := Kd.at_int (Kd.R_reads' HO_3.out).2.2 (rd t254 x7_2) p263 q263
                                  cases e263
                                  replace p263 := eq_true p263
                                  replace q263 := eq_true q263
                                  have p28 : 0 ≤ ((rd t254 x7_2) : Int) := of_decide_eq_true (by first | (with_reducible assumption) | assumption)
                                  have q28 : ((rd t254 x7_2) : Int) < ((x3_2.length : Int) : Int) := of_decide_eq_true (by first | (with_reducible assumption) | assumption)
                                  obtain ⟨go28, co28, eo28, gb28, gl28, cl28, HG28⟩ := Kd.R_form HO_3.out (by omega)
                                  (first | cases eo28 | (injection eo28 with ea_ en_ ec_; (first | subst ea_ | (injection ea_ with ea_; subst ea_)); subst ec_; clear en_))
                                  have GB28 := Aside0.mk gb28
                                  have GG28 := Aside0.mk HG28
                                  clear gb28 gl28 HG28
                                  (first | simp only [add_plain] at hx263_0 | skip)
                                  obtain ⟨hx28_0, hf28_0⟩ := Kd.R_celln 0 HO_3.out ((rd t254 x7_2) : Int) p28 q28
                                  replace p28 := eq_true p28
                                  replace q28 := eq_true q28
                                  have HP31 := Kd.R_putg HO_3.out ((rd t254 x7_2) : Int) (wrap64 ((rd x3_2 (rd t254 x7_2)) + 1))
                                  go_wp2_with (first | ((with_reducible refine gate_store (t := 3) (p := 76) rfl ?_); refine store_event (t := 3) (p := 76) (v := ?vo_w32) (w1 := (wr.setCell ⟨go28, ((rd t254 x7_2) : Int).toNat, none⟩ (.int .i64 (wrap64 ((rd x3_2 (rd t254 x7_2)) + 1))))) ?hg ?ho ?hn ?hr ?_; (case ho => rfl); (case hg => rfl); (case hn => rfl); (case hr => first | (go_simp; done) | (go_simp; rfl)); intro w32 hw; have hg : wr.grownBy w32 (some go28) := (by rw [hw]; exact HP31.2); have hp_ : Kd.R (Kd.int .i64) 3 w32 w.heap.size (fun k_ => some k_ ≠ (v258 : Value).ownBlock ∧ some k_ ≠ (.slice (some ad260) t254.length co29 : Value).ownBlock) (.slice (some ⟨go28, 0, none⟩) x3_2.length co30) y264 := (by rw [hw, Ny264.out]; exact HP31.1); clear HP31; have n0_ := Aside0.mk (hp_); have n1_ := Aside0.mk (Kd.R_after (v := (.slice (some ⟨go28, 0, none⟩) x3_2.length co30)) (v1 := (.slice (some ⟨go28, 0, none⟩) x3_2.length co30)) (ok := (fun k_ => some k_ ≠ (.slice (some ad260) t254.length co29 : Value).ownBlock)) (by (with_reducible repeat (first | apply Kd.R_alloc | apply Kd.R_drewN | apply Kd.R_drew)); exact Kd.R_mono HO_4.out (fun _ hk => ⟨hk.2, hk.1⟩)) hg (.inl rfl)); have n2_ := Aside0.mk (Kd.R_after (v := (.slice (some ⟨go28, 0, none⟩) x3_2.length co30)) (v1 := (.slice (some ⟨go28, 0, none⟩) x3_2.length co30)) (ok := (fun k_ => some k_ ≠ (v258 : Value).ownBlock)) (by (with_reducible repeat (first | apply Kd.R_alloc | apply Kd.R_drewN | apply Kd.R_drew)); exact Kd.R_mono HO_6.out (fun _ hk => ⟨hk.2, hk.1⟩)) hg (.inl rfl)); have n3_ := Aside0.mk ((by rw [hw]; exact below_set (HB.out) GB28.out : Below w.heap.size w w32)); clear HO_3; clear HO_4; clear HO_6; clear HB; have HO_3 := n0_; have HO_4 := n1_; have HO_6 := n2_; have HB := n3_; clear n0_ n1_ n2_ n3_; clear hg hw hp_))
                                  go_roundg k2
                                  case measure => have := HK1.out; have := HK2.out; omega
                                  case rel => exact ⟨(y264), (wrap64 (x7_2 + 1)), (by first | rfl | (simp; done) | (simp [*]; done)), H', ⟨by have := HK1.out; have := HK2.out; omega⟩, ⟨by (with_reducible repeat (first | apply Kd.R_alloc | apply Kd.R_drewN | apply Kd.R_drew)); exact HO_3.out⟩, ⟨by (with_reducible repeat (first | apply Kd.R_alloc | apply Kd.R_drewN | apply Kd.R_drew)); exact Kd.R_mono HO_4.out (fun _ hk => ⟨hk.2, hk.1⟩)⟩, ⟨by (with_reducible repeat (first | apply Kd.R_alloc | apply Kd.R_drewN | apply Kd.R_drew)); exact Kd.R_mono HO_6.out (fun _ hk => ⟨hk.2, hk.1⟩)⟩, ⟨by repeat (first | (with_reducible first | exact HB.out | apply below_alloc | apply pw_below_drewN | apply below_drew1) | exact HB.out)⟩⟩
                                · rw [if_neg c27] at H
                                  exact absurd H (by simp)
                              · rw [if_neg c26] at H
                                exact absurd H (by simp)
                        · rw [if_neg c20] at H
                          exact absurd H (by simp)
                      · rw [if_neg c19] at H
                        have c19b0 : decide (x7_2 < (t254.length : Int)) = false := decide_eq_false c19
                        clear c19
                        have H' := Aside0.mk H
                        clear H
                        obtain ⟨Ao33, co33, eo33⟩ := Kd.R_slice HO_6.out
                        subst eo33
                        go_wp2
                        go_roundg k2
                        case measure => have := HK1.out; have := HK2.out; omega
                        case rel => exact ⟨(x3_2), (y257), (wrap64 (x5_1 + 1)), (by first | rfl | (simp; done) | (simp [*]; done)), H', ⟨by have := HK1.out; have := HK2.out; omega⟩, ⟨by (with_reducible repeat (first | apply Kd.R_alloc | apply Kd.R_drewN | apply Kd.R_drew)); exact Kd.R_mono HO_3.out (fun _ hk => hk.1)⟩, ⟨by (with_reducible repeat (first | apply Kd.R_alloc | apply Kd.R_drewN | apply Kd.R_drew)); exact Kd.R_mono HO_4.out (fun _ hk => hk.1)⟩, ⟨by repeat (first | (with_reducible first | exact HB.out | apply below_alloc | apply pw_below_drewN | apply below_drew1) | exact HB.out)⟩⟩
                · rw [if_neg c16] at H
                  exact absurd H (by simp)
              · rw [if_neg c14] at H
                have c14b0 : decide (x5_1 < t253) = false := decide_eq_false c14
                clear c14
                have H' := Aside0.mk H
                clear H
                go_wp2_with (first | ((with_reducible refine gate_callee (f := 13) rfl ?_); refine goesL_ (some 37) rfl rfl Try.func13 (by kernel_rfl) rfl #[.int .i64 a0] rfl (by (try simp only [List.map_toArray, List.map_cons, List.map_nil]); first | done | rfl | (simp only [List.length_drop, List.length_take]; rfl)) ?_; (with_reducible refine (tree_Leaves.calls a0 t253 _ A13.out).mono ?_); rintro e w' ⟨rfl, ⟨nd, rfl⟩⟩; refine ⟨_, rfl, ?_⟩))
                go_loopg [8] k1 (fun kq v8 w' => ∃ (x8_2 : Int), v8 = .int .i64 x8_2 ∧ Aside0 (oublaw7_TreeCounts.l2 kq a0 x3_1 x4_1 x8_2 = some r) ∧ Aside0 (kq ≤ k1) ∧ Aside0 (Kd.R (Kd.int .i64) 3 w' w.heap.size (fun k_ => some k_ ≠ (u4 : Value).ownBlock) v251 x3_1) ∧ Aside0 (Kd.R (Kd.int .i64) 3 w' w.heap.size (fun k_ => some k_ ≠ (v251 : Value).ownBlock) u4 x4_1) ∧ Aside0 (Below w.heap.size w w'))
                case atStart => exact ⟨(0), (by first | rfl | (simp; done) | (simp [*]; done)), H', ⟨Nat.le_refl _⟩, ⟨by (with_reducible repeat (first | apply Kd.R_alloc | apply Kd.R_drewN | apply Kd.R_drew)); exact HO_3.out⟩, ⟨by (with_reducible repeat (first | apply Kd.R_alloc | apply Kd.R_drewN | apply Kd.R_drew)); exact HO_4.out⟩, ⟨by repeat (first | (with_reducible first | exact HB.out | apply below_alloc | apply pw_below_drewN | apply below_drew1) | exact HB.out)⟩⟩
                case round =>
                  clear H'
                  try clear c1
                  try clear c2
                  try clear p2
                  try clear q2
                  try clear hx2
                  try clear hf2
                  try clear c3
                  try clear c5
                  try clear p6
                  try clear c7
                  try clear c7b0
                  try clear c7b1
                  try clear c8
                  try clear c8b0
                  try clear c8b1
                  try clear c10
                  try clear c11
                  try clear c13
                  try clear c14
                  try clear c14b0
                  try clear c15
                  try clear c16
                  try clear c19
                  try clear c19b0
                  try clear c20
                  try clear c20b0
                  try clear c21
                  try clear c21b0
                  try clear c23
                  try clear c23b0
                  try clear c26
                  try clear c26b0
                  try clear p26
                  try clear q26
                  try clear hx26
                  try clear c27
                  try clear c27b0
                  try clear p28
                  try clear q28
                  try clear hx28
                  try clear hf28
                  try clear hx260_0
                  try clear hx261_0
                  try clear hx262_0
                  try clear hx263_0
                  try clear hx28_0
                  try clear p2
                  try clear p260
                  try clear p261
                  try clear p262
                  try clear p263
                  try clear p28
                  try clear q260
                  try clear q261
                  try clear q262
                  try clear q263
                  try clear q28
                  obtain ⟨x8_2, rfl, HA, HK2, HO_3, HO_4, HB⟩ := hrel
                  cases gk with
                  | zero => exact absurd HA.out (by simp [oublaw7_TreeCounts.l2])
                  | succ k2 =>
                    have H := HA.out
                    clear HA
                    simp only [oublaw7_TreeCounts.l2] at H
                    by_cases c34 : x8_2 < (x3_1.length : Int)
                    · rw [if_pos c34] at H
                      have c34b0 : decide (x8_2 < (x3_1.length : Int)) = true := decide_eq_true c34
                      clear c34
                      replace H := Option.bind_eq_some_iff.mp H
                      obtain ⟨t265, A350, H⟩ := H
                      replace H : (if t265 < 0 then (some false) else (if t265 > a0 then (some false) else (if 0 ≤ x8_2 then (if 0 ≤ (IntKind.u64.wrap (wrap64 (a0 - t265))) then (if (rd x3_1 x8_2) = (shl .i64 1 (IntKind.u64.wrap (wrap64 (a0 - t265)))) then (oublaw7_TreeCounts.l2 k2 a0 x3_1 x4_1 (wrap64 (x8_2 + 1))) else (some false)) else (none)) else (none)))) = some r := H
                      have A35 := Aside0.mk A350
                      clear A350
                      by_cases c36 : t265 < 0
                      · rw [if_pos c36] at H
                        have c36b0 : decide (t265 < 0) = true := decide_eq_true c36
                        clear c36
                        obtain rfl := Option.some.inj H
                        obtain ⟨Ao37, co37, eo37⟩ := Kd.R_slice HO_3.out
                        subst eo37
                        go_wp2_with (first | ((with_reducible refine gate_callee (f := 17) rfl ?_); refine goesL_ (some 84) rfl rfl Try.func17 (by kernel_rfl) rfl #[.int .i64 x8_2] rfl (by (try simp only [List.map_toArray, List.map_cons, List.map_nil]); first | done | rfl | (simp only [List.length_drop, List.length_take]; rfl)) ?_; (with_reducible refine (tree_Level.calls k2 x8_2 t265 _ A35.out).mono ?_); rintro e w' ⟨rfl, ⟨nd, rfl⟩⟩; refine ⟨_, rfl, ?_⟩))
                        go_ret
                        exact ⟨by first | rfl | (simp [errW_none, errW_some] <;> rfl) | (simp [*, errW_none, errW_some] <;> rfl), by repeat (first | (with_reducible first | exact HB.out | apply below_alloc | apply pw_below_drewN | apply below_drew1) | exact HB.out)⟩
                      · rw [if_neg c36] at H
                        have c36b0 : decide (t265 < 0) = false := decide_eq_false c36
                        clear c36
                        by_cases c38 : t265 > a0
                        · rw [if_pos c38] at H
                          have c38b0 : decide (a0 < t265) = true := decide_eq_true c38
                          clear c38
                          obtain rfl := Option.some.inj H
                          obtain ⟨Ao39, co39, eo39⟩ := Kd.R_slice HO_3.out
                          subst eo39
                          go_wp2_with (first | ((with_reducible refine gate_callee (f := 17) rfl ?_); refine goesL_ (some 84) rfl rfl Try.func17 (by kernel_rfl) rfl #[.int .i64 x8_2] rfl (by (try simp only [List.map_toArray, List.map_cons, List.map_nil]); first | done | rfl | (simp only [List.length_drop, List.length_take]; rfl)) ?_; (with_reducible refine (tree_Level.calls k2 x8_2 t265 _ A35.out).mono ?_); rintro e w' ⟨rfl, ⟨nd, rfl⟩⟩; refine ⟨_, rfl, ?_⟩))
                          go_ret
                          exact ⟨by first | rfl | (simp [errW_none, errW_some] <;> rfl) | (simp [*, errW_none, errW_some] <;> rfl), by repeat (first | (with_reducible first | exact HB.out | apply below_alloc | apply pw_below_drewN | apply below_drew1) | exact HB.out)⟩
                        · rw [if_neg c38] at H
                          have c38b0 : decide (a0 < t265) = false := decide_eq_false c38
                          clear c38
                          by_cases c40 : 0 ≤ x8_2
                          · rw [if_pos c40] at H
                            have c40b0 : decide (0 ≤ x8_2) = true := decide_eq_true c40
                            clear c40
                            obtain ⟨ji41, hji41⟩ : ∃ j_ : Int, (IntKind.u64.wrap (wrap64 (a0 - t265))) = j_ := ⟨_, rfl⟩
                            replace H : (if 0 ≤ (ji41) then (if (rd x3_1 x8_2) = (shl .i64 1 (ji41)) then (oublaw7_TreeCounts.l2 k2 a0 x3_1 x4_1 (wrap64 (x8_2 + 1))) else (some false)) else (none)) = some r := by first | (rw [hji41] at H; exact H) | (simp only [hji41] at H ⊢; exact H)
                            (try rw [hji41] at A35)
                            by_cases c42 : 0 ≤ (ji41)
                            · rw [if_pos c42] at H
                              have c42b0 := eq_true c42
                              have c42b1 : decide (0 ≤ (ji41)) = true := decide_eq_true c42
                              clear c42
                              obtain ⟨ji43, hji43⟩ : ∃ j_ : Int, (shl .i64 1 (ji41)) = j_ := ⟨_, rfl⟩
                              replace H : (if (rd x3_1 x8_2) = (ji43) then (oublaw7_TreeCounts.l2 k2 a0 x3_1 x4_1 (wrap64 (x8_2 + 1))) else (some false)) = some r := by first | (rw [hji43] at H; exact H) | (simp only [hji43] at H ⊢; exact H)
                              (try rw [hji43] at A35)
                              have hji43_ : (IntKind.i64.wrap (1 * 2 ^ min (ji41).toNat 64)) = ji43 := hji43
                              have hji43z : (ji41) ≤ 64 → (IntKind.i64.wrap (1 * 2 ^ (ji41).toNat)) = ji43 := shl_small hji43
                              have hji43u : (IntKind.i64.wrap (2 ^ min (ji41).toNat 64)) = ji43 := by have h_ := hji43_; rw [Int.one_mul] at h_; exact h_
                              have hji43v : (ji41) ≤ 64 → (IntKind.i64.wrap (2 ^ (ji41).toNat)) = ji43 := fun hle_ => by have h_ := hji43z hle_; rw [Int.one_mul] at h_; exact h_
                              have hji43y : (wrap64 (1 * 2 ^ min (ji41).toNat 64)) = ji43 := (i64_w _).symm.trans hji43_
                              have hji43x : (ji41) ≤ 64 → (wrap64 (1 * 2 ^ (ji41).toNat)) = ji43 := fun h_ => (i64_w _).symm.trans (hji43z h_)
                              by_cases c44 : (rd x3_1 x8_2) = (ji43)
                              · rw [if_pos c44] at H
                                have c44b0 : ((rd x3_1 x8_2) == (ji43)) = true := beq_iff_eq.mpr c44
                                have c44b1 : ((rd x3_1 x8_2) != (ji43)) = false := bne_eq_false_iff_eq.mpr c44
                                clear c44
                                have H' := Aside0.mk H
                                clear H
                                obtain ⟨Ao45, co45, eo45⟩ := Kd.R_slice HO_3.out
                                subst eo45
                                go_wp2_with (first | ((with_reducible refine gate_callee (f := 17) rfl ?_); refine goesL_ (some 84) rfl rfl Try.func17 (by kernel_rfl) rfl #[.int .i64 x8_2] rfl (by (try simp only [List.map_toArray, List.map_cons, List.map_nil]); first | done | rfl | (simp only [List.length_drop, List.length_take]; rfl)) ?_; (with_reducible refine (tree_Level.calls k2 x8_2 t265 _ A35.out).mono ?_); rintro e w' ⟨rfl, ⟨nd, rfl⟩⟩; refine ⟨_, rfl, ?_⟩; have p266 : 0 ≤ (x8_2 : Int) := of_decide_eq_true (by first | (with_reducible assumption) | assumption); have q266 : x8_2 < (x3_1.length : Int) := of_decide_eq_true (by first | (with_reducible assumption) | assumption); obtain ⟨ad266, e266, hx266_0⟩ := Kd.at_int (Kd.R_reads' HO_3.out).2.2 x8_2 p266 q266; cases e266; replace p266 := eq_true p266; replace q266 := eq_true q266))
                                go_roundg k2
                                case measure => have := HK1.out; have := HK2.out; omega
                                case rel => exact ⟨(wrap64 (x8_2 + 1)), (by first | rfl | (simp; done) | (simp [*]; done)), H', ⟨by have := HK1.out; have := HK2.out; omega⟩, ⟨by (with_reducible repeat (first | apply Kd.R_alloc | apply Kd.R_drewN | apply Kd.R_drew)); exact HO_3.out⟩, ⟨by (with_reducible repeat (first | apply Kd.R_alloc | apply Kd.R_drewN | apply Kd.R_drew)); exact HO_4.out⟩, ⟨by repeat (first | (with_reducible first | exact HB.out | apply below_alloc | apply pw_below_drewN | apply below_drew1) | exact HB.out)⟩⟩
                              · rw [if_neg c44] at H
                                have c44b0 : ((rd x3_1 x8_2) == (ji43)) = false := beq_eq_false_iff_ne.mpr c44
                                have c44b1 : ((rd x3_1 x8_2) != (ji43)) = true := bne_iff_ne.mpr c44
                                obtain rfl := Option.some.inj H
                                obtain ⟨Ao46, co46, eo46⟩ := Kd.R_slice HO_3.out
                                subst eo46
                                go_wp2_with (first | ((with_reducible refine gate_callee (f := 17) rfl ?_); refine goesL_ (some 84) rfl rfl Try.func17 (by kernel_rfl) rfl #[.int .i64 x8_2] rfl (by (try simp only [List.map_toArray, List.map_cons, List.map_nil]); first | done | rfl | (simp only [List.length_drop, List.length_take]; rfl)) ?_; (with_reducible refine (tree_Level.calls k2 x8_2 t265 _ A35.out).mono ?_); rintro e w' ⟨rfl, ⟨nd, rfl⟩⟩; refine ⟨_, rfl, ?_⟩; have p266 : 0 ≤ (x8_2 : Int) := of_decide_eq_true (by first | (with_reducible assumption) | assumption); have q266 : x8_2 < (x3_1.length : Int) := of_decide_eq_true (by first | (with_reducible assumption) | assumption); obtain ⟨ad266, e266, hx266_0⟩ := Kd.at_int (Kd.R_reads' HO_3.out).2.2 x8_2 p266 q266; cases e266; replace p266 := eq_true p266; replace q266 := eq_true q266))
                                go_ret
                                exact ⟨by first | rfl | (simp [errW_none, errW_some] <;> rfl) | (simp only [← hji41, ← hji43]; first | rfl | (simp [errW_none, errW_some] <;> rfl)) | (simp [*, errW_none, errW_some] <;> rfl), by repeat (first | (with_reducible first | exact HB.out | apply below_alloc | apply pw_below_drewN | apply below_drew1) | exact HB.out)⟩
                            · rw [if_neg c42] at H
                              exact absurd H (by simp)
                          · rw [if_neg c40] at H
                            exact absurd H (by simp)
                    · rw [if_neg c34] at H
                      have c34b0 : decide (x8_2 < (x3_1.length : Int)) = false := decide_eq_false c34
                      clear c34
                      replace H := Option.bind_eq_some_iff.mp H
                      obtain ⟨t267, A470, H⟩ := H
                      replace H : (if t267 = true then ((tree_Union.f k2 a0 x4_1).bind fun t268 => (if (t268.length : Int) = (x3_1.length : Int) then ((tree_Leaves.f a0).bind fun t271 => (some ((x3_1.length : Int) == (wrap64 ((wrap64 (2 * t271)) - 1))))) else (some false))) else (some false)) = some r := H
                      have A47 := Aside0.mk A470
                      clear A470
                      by_cases c48 : t267 = true
                      · subst c48
                        have H1 : ((tree_Union.f k2 a0 x4_1).bind fun t268 => (if (t268.length : Int) = (x3_1.length : Int) then ((tree_Leaves.f a0).bind fun t271 => (some ((x3_1.length : Int) == (wrap64 ((wrap64 (2 * t271)) - 1))))) else (some false))) = some r := by rw [if_pos rfl] at H; exact H
                        clear H
                        have H := H1
                        clear H1
                        replace H := Option.bind_eq_some_iff.mp H
                        obtain ⟨t268, A490, H⟩ := H
                        replace H : (if (t268.length : Int) = (x3_1.length : Int) then ((tree_Leaves.f a0).bind fun t271 => (some ((x3_1.length : Int) == (wrap64 ((wrap64 (2 * t271)) - 1))))) else (some false)) = some r := H
                        have A49 := Aside0.mk A490
                        clear A490
                        by_cases c50 : (t268.length : Int) = (x3_1.length : Int)
                        · rw [if_pos c50] at H
                          have c50b0 : ((t268.length : Int) == (x3_1.length : Int)) = true := beq_iff_eq.mpr c50
                          have c50b1 : ((t268.length : Int) != (x3_1.length : Int)) = false := bne_eq_false_iff_eq.mpr c50
                          have c50b2 : (t268.length == x3_1.length) = true := by first | simpa using c50 | (simp at c50 ⊢; omega)
                          clear c50
                          replace H := Option.bind_eq_some_iff.mp H
                          obtain ⟨t271, A510, H⟩ := H
                          replace H : (some ((x3_1.length : Int) == (wrap64 ((wrap64 (2 * t271)) - 1)))) = some r := H
                          have A51 := Aside0.mk A510
                          clear A510
                          obtain rfl := Option.some.inj H
                          obtain ⟨Ao52, co52, eo52⟩ := Kd.R_slice HO_3.out
                          subst eo52
                          go_wp2_with (first | ((with_reducible refine gate_callee (f := 8) rfl ?_); refine goesL_ (some 104) rfl rfl Try.func8 (by kernel_rfl) rfl #[] rfl (by (try simp only [List.map_toArray, List.map_cons, List.map_nil]); first | done | rfl | (simp only [List.length_drop, List.length_take]; rfl)) ?_; (with_reducible refine (oublaw7_first.calls k2  true _ A47.out).mono ?_); rintro e w53 ⟨rfl, hb⟩; refine ⟨_, rfl, ?_⟩; have n0_ := Aside0.mk (Kd.R_below (by (with_reducible repeat (first | apply Kd.R_alloc | apply Kd.R_drewN | apply Kd.R_drew)); exact HO_3.out) hb); have n1_ := Aside0.mk (Kd.R_below (by (with_reducible repeat (first | apply Kd.R_alloc | apply Kd.R_drewN | apply Kd.R_drew)); exact HO_4.out) hb); have n2_ := Aside0.mk (below_step (by repeat (first | (with_reducible first | exact HB.out | apply below_alloc | apply pw_below_drewN | apply below_drew1) | exact HB.out)) hb); clear HO_3; clear HO_4; clear HB; have HO_3 := n0_; have HO_4 := n1_; have HB := n2_; clear n0_ n1_ n2_; (try clear hb); (try clear hb2); (try clear hk); (try clear hi); obtain ⟨Ao54, co54, eo54⟩ := Kd.R_slice HO_4.out; subst eo54) | (go_at_call 24; (with_reducible refine (tree_Union.calls k2 a0 _ _ x4_1 t268 _ ?side1 ?side2 A49.out).mono ?_); (case side1 => repeat (first | exact (Kd.R_reads' HO_4.out).2.2 | (with_reducible refine Kd.C_alloc ?_ _) | (with_reducible refine Kd.C_drewN ?_ _) | (with_reducible refine Kd.C_drew ?_))); (case side2 => exact (Kd.R_reads' HO_4.out).2.1); rintro e w55 ⟨v269, rfl, ho0, hb⟩; have n0_ := Aside0.mk (Kd.R_elder' (by (with_reducible repeat (first | apply Kd.R_alloc | apply Kd.R_drewN | apply Kd.R_drew)); exact HO_3.out) (Kd.R_base ho0) hb); have n1_ := Aside0.mk (Kd.R_elder' (by (with_reducible repeat (first | apply Kd.R_alloc | apply Kd.R_drewN | apply Kd.R_drew)); exact HO_4.out) (Kd.R_base ho0) hb); have n2_ := Aside0.mk (Kd.R_lower (Kd.R_new' (Kd.R_new' ho0 (Kd.R_lt (by (with_reducible repeat (first | apply Kd.R_alloc | apply Kd.R_drewN | apply Kd.R_drew)); exact HO_3.out))) (Kd.R_lt (by (with_reducible repeat (first | apply Kd.R_alloc | apply Kd.R_drewN | apply Kd.R_drew)); exact HO_4.out))) (below_size (by repeat (first | (with_reducible first | exact HB.out | apply below_alloc | apply pw_below_drewN | apply below_drew1) | exact HB.out)))); have n3_ := Aside0.mk (below_step (by repeat (first | (with_reducible first | exact HB.out | apply below_alloc | apply pw_below_drewN | apply below_drew1) | exact HB.out)) hb); clear HO_3; clear HO_4; clear HB; have HO_3 := n0_; have HO_4 := n1_; have HO270 := n2_; have HB := n3_; clear n0_ n1_ n2_ n3_; (try clear hb); (try clear hb2); (try clear hk); (try clear hi); (try clear ho0); obtain ⟨Ao56, co56, eo56⟩ := Kd.R_slice HO270.out; subst eo56) | (go_at_call 13; (with_reducible refine (tree_Leaves.calls a0 t271 _ A51.out).mono ?_); rintro e w' ⟨rfl, ⟨nd, rfl⟩⟩))
                          go_ret
                          exact ⟨by first | rfl | (simp [errW_none, errW_some] <;> rfl) | (simp [*, errW_none, errW_some] <;> rfl), by repeat (first | (with_reducible first | exact HB.out | apply below_alloc | apply pw_below_drewN | apply below_drew1) | exact HB.out)⟩
                        · rw [if_neg c50] at H
                          have c50b0 : ((t268.length : Int) == (x3_1.length : Int)) = false := beq_eq_false_iff_ne.mpr c50
                          have c50b1 : ((t268.length : Int) != (x3_1.length : Int)) = true := bne_iff_ne.mpr c50
                          have c50b2 : (t268.length == x3_1.length) = false := by first | simpa using c50 | (simp at c50 ⊢; omega)
                          obtain rfl := Option.some.inj H
                          obtain ⟨Ao57, co57, eo57⟩ := Kd.R_slice HO_3.out
                          subst eo57
                          go_wp2_with (first | ((with_reducible refine gate_callee (f := 8) rfl ?_); refine goesL_ (some 104) rfl rfl Try.func8 (by kernel_rfl) rfl #[] rfl (by (try simp only [List.map_toArray, List.map_cons, List.map_nil]); first | done | rfl | (simp only [List.length_drop, List.length_take]; rfl)) ?_; (with_reducible refine (oublaw7_first.calls k2  true _ A47.out).mono ?_); rintro e w58 ⟨rfl, hb⟩; refine ⟨_, rfl, ?_⟩; have n0_ := Aside0.mk (Kd.R_below (by (with_reducible repeat (first | apply Kd.R_alloc | apply Kd.R_drewN | apply Kd.R_drew)); exact HO_3.out) hb); have n1_ := Aside0.mk (Kd.R_below (by (with_reducible repeat (first | apply Kd.R_alloc | apply Kd.R_drewN | apply Kd.R_drew)); exact HO_4.out) hb); have n2_ := Aside0.mk (below_step (by repeat (first | (with_reducible first | exact HB.out | apply below_alloc | apply pw_below_drewN | apply below_drew1) | exact HB.out)) hb); clear HO_3; clear HO_4; clear HB; have HO_3 := n0_; have HO_4 := n1_; have HB := n2_; clear n0_ n1_ n2_; (try clear hb); (try clear hb2); (try clear hk); (try clear hi); obtain ⟨Ao59, co59, eo59⟩ := Kd.R_slice HO_4.out; subst eo59) | (go_at_call 24; (with_reducible refine (tree_Union.calls k2 a0 _ _ x4_1 t268 _ ?side1 ?side2 A49.out).mono ?_); (case side1 => repeat (first | exact (Kd.R_reads' HO_4.out).2.2 | (with_reducible refine Kd.C_alloc ?_ _) | (with_reducible refine Kd.C_drewN ?_ _) | (with_reducible refine Kd.C_drew ?_))); (case side2 => exact (Kd.R_reads' HO_4.out).2.1); rintro e w60 ⟨v269, rfl, ho0, hb⟩; have n0_ := Aside0.mk (Kd.R_elder' (by (with_reducible repeat (first | apply Kd.R_alloc | apply Kd.R_drewN | apply Kd.R_drew)); exact HO_3.out) (Kd.R_base ho0) hb); have n1_ := Aside0.mk (Kd.R_elder' (by (with_reducible repeat (first | apply Kd.R_alloc | apply Kd.R_drewN | apply Kd.R_drew)); exact HO_4.out) (Kd.R_base ho0) hb); have n2_ := Aside0.mk (Kd.R_lower (Kd.R_new' (Kd.R_new' ho0 (Kd.R_lt (by (with_reducible repeat (first | apply Kd.R_alloc | apply Kd.R_drewN | apply Kd.R_drew)); exact HO_3.out))) (Kd.R_lt (by (with_reducible repeat (first | apply Kd.R_alloc | apply Kd.R_drewN | apply Kd.R_drew)); exact HO_4.out))) (below_size (by repeat (first | (with_reducible first | exact HB.out | apply below_alloc | apply pw_below_drewN | apply below_drew1) | exact HB.out)))); have n3_ := Aside0.mk (below_step (by repeat (first | (with_reducible first | exact HB.out | apply below_alloc | apply pw_below_drewN | apply below_drew1) | exact HB.out)) hb); clear HO_3; clear HO_4; clear HB; have HO_3 := n0_; have HO_4 := n1_; have HO270 := n2_; have HB := n3_; clear n0_ n1_ n2_ n3_; (try clear hb); (try clear hb2); (try clear hk); (try clear hi); (try clear ho0); obtain ⟨Ao61, co61, eo61⟩ := Kd.R_slice HO270.out; subst eo61))
                          go_ret
                          exact ⟨by first | rfl | (simp [errW_none, errW_some] <;> rfl) | (simp [*, errW_none, errW_some] <;> rfl), by repeat (first | (with_reducible first | exact HB.out | apply below_alloc | apply pw_below_drewN | apply below_drew1) | exact HB.out)⟩
                      · replace c48 := Bool.eq_false_iff.mpr c48
                        subst c48
                        have H1 : (some false) = some r := by rw [if_neg (show ¬ (false = true) by decide)] at H; exact H
                        clear H
                        have H := H1
                        clear H1
                        obtain rfl := Option.some.inj H
                        obtain ⟨Ao62, co62, eo62⟩ := Kd.R_slice HO_3.out
                        subst eo62
                        go_wp2_with (first | ((with_reducible refine gate_callee (f := 8) rfl ?_); refine goesL_ (some 104) rfl rfl Try.func8 (by kernel_rfl) rfl #[] rfl (by (try simp only [List.map_toArray, List.map_cons, List.map_nil]); first | done | rfl | (simp only [List.length_drop, List.length_take]; rfl)) ?_; (with_reducible refine (oublaw7_first.calls k2  false _ A47.out).mono ?_); rintro e w63 ⟨rfl, hb⟩; refine ⟨_, rfl, ?_⟩; have n0_ := Aside0.mk (Kd.R_below (by (with_reducible repeat (first | apply Kd.R_alloc | apply Kd.R_drewN | apply Kd.R_drew)); exact HO_3.out) hb); have n1_ := Aside0.mk (Kd.R_below (by (with_reducible repeat (first | apply Kd.R_alloc | apply Kd.R_drewN | apply Kd.R_drew)); exact HO_4.out) hb); have n2_ := Aside0.mk (below_step (by repeat (first | (with_reducible first | exact HB.out | apply below_alloc | apply pw_below_drewN | apply below_drew1) | exact HB.out)) hb); clear HO_3; clear HO_4; clear HB; have HO_3 := n0_; have HO_4 := n1_; have HB := n2_; clear n0_ n1_ n2_; (try clear hb); (try clear hb2); (try clear hk); (try clear hi)))
                        go_ret
                        exact ⟨by first | rfl | (simp [errW_none, errW_some] <;> rfl) | (simp [*, errW_none, errW_some] <;> rfl), by repeat (first | (with_reducible first | exact HB.out | apply below_alloc | apply pw_below_drewN | apply below_drew1) | exact HB.out)⟩
        · rw [if_neg c8] at H
          exact absurd H (by simp)
      · rw [if_neg c7] at H
        exact absurd H (by simp)
    · replace c5 := Bool.eq_false_iff.mpr c5
      subst c5
      have H1 : ((oublaw7_first.f k).bind fun t243 => (if t243 = true then ((tree_Buckets.f a0).bind fun t244 => (if t244 = 0 then ((tree_Leaves.f a0).bind fun t245 => (if t245 = 0 then ((tree_Path.f k a0 0).bind fun t246 => (some ((t246.length : Int) == 0))) else (some false))) else (some false))) else (some false))) = some r := by rw [if_neg (show ¬ (false = true) by decide)] at H; exact H
      clear H
      have H := H1
      clear H1
      replace H := Option.bind_eq_some_iff.mp H
      obtain ⟨t243, A640, H⟩ := H
      replace H : (if t243 = true then ((tree_Buckets.f a0).bind fun t244 => (if t244 = 0 then ((tree_Leaves.f a0).bind fun t245 => (if t245 = 0 then ((tree_Path.f k a0 0).bind fun t246 => (some ((t246.length : Int) == 0))) else (some false))) else (some false))) else (some false)) = some r := H
      have A64 := Aside0.mk A640
      clear A640
      by_cases c65 : t243 = true
      · subst c65
        have H1 : ((tree_Buckets.f a0).bind fun t244 => (if t244 = 0 then ((tree_Leaves.f a0).bind fun t245 => (if t245 = 0 then ((tree_Path.f k a0 0).bind fun t246 => (some ((t246.length : Int) == 0))) else (some false))) else (some false))) = some r := by rw [if_pos rfl] at H; exact H
        clear H
        have H := H1
        clear H1
        replace H := Option.bind_eq_some_iff.mp H
        obtain ⟨t244, A660, H⟩ := H
        replace H : (if t244 = 0 then ((tree_Leaves.f a0).bind fun t245 => (if t245 = 0 then ((tree_Path.f k a0 0).bind fun t246 => (some ((t246.length : Int) == 0))) else (some false))) else (some false)) = some r := H
        have A66 := Aside0.mk A660
        clear A660
        by_cases c67 : t244 = 0
        · rw [if_pos c67] at H
          have c67b0 : (t244 == 0) = true := beq_iff_eq.mpr c67
          have c67b1 : (t244 != 0) = false := bne_eq_false_iff_eq.mpr c67
          clear c67
          replace H := Option.bind_eq_some_iff.mp H
          obtain ⟨t245, A680, H⟩ := H
          replace H : (if t245 = 0 then ((tree_Path.f k a0 0).bind fun t246 => (some ((t246.length : Int) == 0))) else (some false)) = some r := H
          have A68 := Aside0.mk A680
          clear A680
          by_cases c69 : t245 = 0
          · rw [if_pos c69] at H
            have c69b0 : (t245 == 0) = true := beq_iff_eq.mpr c69
            have c69b1 : (t245 != 0) = false := bne_eq_false_iff_eq.mpr c69
            clear c69
            replace H := Option.bind_eq_some_iff.mp H
            obtain ⟨t246, A700, H⟩ := H
            replace H : (some ((t246.length : Int) == 0)) = some r := H
            have A70 := Aside0.mk A700
            clear A700
            obtain rfl := Option.some.inj H
            go_enter Try.func7, Try.ntmps7
            go_wp2_with (first | ((with_reducible refine gate_callee (f := 8) rfl ?_); refine goesL_ (some 10) rfl rfl Try.func8 (by kernel_rfl) rfl #[] rfl (by (try simp only [List.map_toArray, List.map_cons, List.map_nil]); first | done | rfl | (simp only [List.length_drop, List.length_take]; rfl)) ?_; (with_reducible refine (oublaw7_first.calls k  true _ A2.out).mono ?_); rintro e w71 ⟨rfl, hb⟩; refine ⟨_, rfl, ?_⟩; have n0_ := Aside0.mk (below_step (by repeat (first | (with_reducible first | exact HB.out | apply below_alloc | apply pw_below_drewN | apply below_drew1) | exact HB.out)) hb); clear HB; have HB := n0_; clear n0_; (try clear hb); (try clear hb2); (try clear hk); (try clear hi)) | ((with_reducible refine gate_callee (f := 10) rfl ?_); refine goesL_ (some 13) rfl rfl Try.func10 (by kernel_rfl) rfl #[.int .i64 a0] rfl (by (try simp only [List.map_toArray, List.map_cons, List.map_nil]); first | done | rfl | (simp only [List.length_drop, List.length_take]; rfl)) ?_; (with_reducible refine (tree_May.calls a0 false _ A4.out).mono ?_); rintro e w' ⟨rfl, ⟨nd, rfl⟩⟩; refine ⟨_, rfl, ?_⟩) | ((with_reducible refine gate_callee (f := 8) rfl ?_); refine goesL_ (some 15) rfl rfl Try.func8 (by kernel_rfl) rfl #[] rfl (by (try simp only [List.map_toArray, List.map_cons, List.map_nil]); first | done | rfl | (simp only [List.length_drop, List.length_take]; rfl)) ?_; (with_reducible refine (oublaw7_first.calls k  true _ A64.out).mono ?_); rintro e w72 ⟨rfl, hb⟩; refine ⟨_, rfl, ?_⟩; have n0_ := Aside0.mk (below_step (by repeat (first | (with_reducible first | exact HB.out | apply below_alloc | apply pw_below_drewN | apply below_drew1) | exact HB.out)) hb); clear HB; have HB := n0_; clear n0_; (try clear hb); (try clear hb2); (try clear hk); (try clear hi)) | (go_at_call 11; (with_reducible refine (tree_Buckets.calls a0 t244 _ A66.out).mono ?_); rintro e w73 ⟨rfl, hb⟩; have n0_ := Aside0.mk (below_step (by repeat (first | (with_reducible first | exact HB.out | apply below_alloc | apply pw_below_drewN | apply below_drew1) | exact HB.out)) hb); clear HB; have HB := n0_; clear n0_; (try clear hb); (try clear hb2); (try clear hk); (try clear hi)) | (go_at_call 13; (with_reducible refine (tree_Leaves.calls a0 t245 _ A68.out).mono ?_); rintro e w' ⟨rfl, ⟨nd, rfl⟩⟩) | (go_at_call 15; (with_reducible refine (tree_Path.calls k a0 0 t246 _ A70.out).mono ?_); rintro e w74 ⟨v247, rfl, ho0, hb⟩; have n0_ := Aside0.mk (Kd.R_lower ho0 (below_size (by repeat (first | (with_reducible first | exact HB.out | apply below_alloc | apply pw_below_drewN | apply below_drew1) | exact HB.out)))); have n1_ := Aside0.mk (below_step (by repeat (first | (with_reducible first | exact HB.out | apply below_alloc | apply pw_below_drewN | apply below_drew1) | exact HB.out)) hb); clear HB; have HO248 := n0_; have HB := n1_; clear n0_ n1_; (try clear hb); (try clear hb2); (try clear hk); (try clear hi); (try clear ho0); obtain ⟨Ao75, co75, eo75⟩ := Kd.R_slice HO248.out; subst eo75))
            go_ret
            exact ⟨by first | rfl | (simp [errW_none, errW_some] <;> rfl) | (simp [*, errW_none, errW_some] <;> rfl), by repeat (first | (with_reducible first | exact HB.out | apply below_alloc | apply pw_below_drewN | apply below_drew1) | exact HB.out)⟩
          · rw [if_neg c69] at H
            have c69b0 : (t245 == 0) = false := beq_eq_false_iff_ne.mpr c69
            have c69b1 : (t245 != 0) = true := bne_iff_ne.mpr c69
            obtain rfl := Option.some.inj H
            go_enter Try.func7, Try.ntmps7
            go_wp2_with (first | ((with_reducible refine gate_callee (f := 8) rfl ?_); refine goesL_ (some 10) rfl rfl Try.func8 (by kernel_rfl) rfl #[] rfl (by (try simp only [List.map_toArray, List.map_cons, List.map_nil]); first | done | rfl | (simp only [List.length_drop, List.length_take]; rfl)) ?_; (with_reducible refine (oublaw7_first.calls k  true _ A2.out).mono ?_); rintro e w76 ⟨rfl, hb⟩; refine ⟨_, rfl, ?_⟩; have n0_ := Aside0.mk (below_step (by repeat (first | (with_reducible first | exact HB.out | apply below_alloc | apply pw_below_drewN | apply below_drew1) | exact HB.out)) hb); clear HB; have HB := n0_; clear n0_; (try clear hb); (try clear hb2); (try clear hk); (try clear hi)) | ((with_reducible refine gate_callee (f := 10) rfl ?_); refine goesL_ (some 13) rfl rfl Try.func10 (by kernel_rfl) rfl #[.int .i64 a0] rfl (by (try simp only [List.map_toArray, List.map_cons, List.map_nil]); first | done | rfl | (simp only [List.length_drop, List.length_take]; rfl)) ?_; (with_reducible refine (tree_May.calls a0 false _ A4.out).mono ?_); rintro e w' ⟨rfl, ⟨nd, rfl⟩⟩; refine ⟨_, rfl, ?_⟩) | ((with_reducible refine gate_callee (f := 8) rfl ?_); refine goesL_ (some 15) rfl rfl Try.func8 (by kernel_rfl) rfl #[] rfl (by (try simp only [List.map_toArray, List.map_cons, List.map_nil]); first | done | rfl | (simp only [List.length_drop, List.length_take]; rfl)) ?_; (with_reducible refine (oublaw7_first.calls k  true _ A64.out).mono ?_); rintro e w77 ⟨rfl, hb⟩; refine ⟨_, rfl, ?_⟩; have n0_ := Aside0.mk (below_step (by repeat (first | (with_reducible first | exact HB.out | apply below_alloc | apply pw_below_drewN | apply below_drew1) | exact HB.out)) hb); clear HB; have HB := n0_; clear n0_; (try clear hb); (try clear hb2); (try clear hk); (try clear hi)) | (go_at_call 11; (with_reducible refine (tree_Buckets.calls a0 t244 _ A66.out).mono ?_); rintro e w78 ⟨rfl, hb⟩; have n0_ := Aside0.mk (below_step (by repeat (first | (with_reducible first | exact HB.out | apply below_alloc | apply pw_below_drewN | apply below_drew1) | exact HB.out)) hb); clear HB; have HB := n0_; clear n0_; (try clear hb); (try clear hb2); (try clear hk); (try clear hi)) | (go_at_call 13; (with_reducible refine (tree_Leaves.calls a0 t245 _ A68.out).mono ?_); rintro e w' ⟨rfl, ⟨nd, rfl⟩⟩))
            go_ret
            exact ⟨by first | rfl | (simp [errW_none, errW_some] <;> rfl) | (simp [*, errW_none, errW_some] <;> rfl), by repeat (first | (with_reducible first | exact HB.out | apply below_alloc | apply pw_below_drewN | apply below_drew1) | exact HB.out)⟩
        · rw [if_neg c67] at H
          have c67b0 : (t244 == 0) = false := beq_eq_false_iff_ne.mpr c67
          have c67b1 : (t244 != 0) = true := bne_iff_ne.mpr c67
          obtain rfl := Option.some.inj H
          go_enter Try.func7, Try.ntmps7
          go_wp2_with (first | ((with_reducible refine gate_callee (f := 8) rfl ?_); refine goesL_ (some 10) rfl rfl Try.func8 (by kernel_rfl) rfl #[] rfl (by (try simp only [List.map_toArray, List.map_cons, List.map_nil]); first | done | rfl | (simp only [List.length_drop, List.length_take]; rfl)) ?_; (with_reducible refine (oublaw7_first.calls k  true _ A2.out).mono ?_); rintro e w79 ⟨rfl, hb⟩; refine ⟨_, rfl, ?_⟩; have n0_ := Aside0.mk (below_step (by repeat (first | (with_reducible first | exact HB.out | apply below_alloc | apply pw_below_drewN | apply below_drew1) | exact HB.out)) hb); clear HB; have HB := n0_; clear n0_; (try clear hb); (try clear hb2); (try clear hk); (try clear hi)) | ((with_reducible refine gate_callee (f := 10) rfl ?_); refine goesL_ (some 13) rfl rfl Try.func10 (by kernel_rfl) rfl #[.int .i64 a0] rfl (by (try simp only [List.map_toArray, List.map_cons, List.map_nil]); first | done | rfl | (simp only [List.length_drop, List.length_take]; rfl)) ?_; (with_reducible refine (tree_May.calls a0 false _ A4.out).mono ?_); rintro e w' ⟨rfl, ⟨nd, rfl⟩⟩; refine ⟨_, rfl, ?_⟩) | ((with_reducible refine gate_callee (f := 8) rfl ?_); refine goesL_ (some 15) rfl rfl Try.func8 (by kernel_rfl) rfl #[] rfl (by (try simp only [List.map_toArray, List.map_cons, List.map_nil]); first | done | rfl | (simp only [List.length_drop, List.length_take]; rfl)) ?_; (with_reducible refine (oublaw7_first.calls k  true _ A64.out).mono ?_); rintro e w80 ⟨rfl, hb⟩; refine ⟨_, rfl, ?_⟩; have n0_ := Aside0.mk (below_step (by repeat (first | (with_reducible first | exact HB.out | apply below_alloc | apply pw_below_drewN | apply below_drew1) | exact HB.out)) hb); clear HB; have HB := n0_; clear n0_; (try clear hb); (try clear hb2); (try clear hk); (try clear hi)) | (go_at_call 11; (with_reducible refine (tree_Buckets.calls a0 t244 _ A66.out).mono ?_); rintro e w81 ⟨rfl, hb⟩; have n0_ := Aside0.mk (below_step (by repeat (first | (with_reducible first | exact HB.out | apply below_alloc | apply pw_below_drewN | apply below_drew1) | exact HB.out)) hb); clear HB; have HB := n0_; clear n0_; (try clear hb); (try clear hb2); (try clear hk); (try clear hi)))
          go_ret
          exact ⟨by first | rfl | (simp [errW_none, errW_some] <;> rfl) | (simp [*, errW_none, errW_some] <;> rfl), by repeat (first | (with_reducible first | exact HB.out | apply below_alloc | apply pw_below_drewN | apply below_drew1) | exact HB.out)⟩
      · replace c65 := Bool.eq_false_iff.mpr c65
        subst c65
        have H1 : (some false) = some r := by rw [if_neg (show ¬ (false = true) by decide)] at H; exact H
        clear H
        have H := H1
        clear H1
        obtain rfl := Option.some.inj H
        go_enter Try.func7, Try.ntmps7
        go_wp2_with (first | ((with_reducible refine gate_callee (f := 8) rfl ?_); refine goesL_ (some 10) rfl rfl Try.func8 (by kernel_rfl) rfl #[] rfl (by (try simp only [List.map_toArray, List.map_cons, List.map_nil]); first | done | rfl | (simp only [List.length_drop, List.length_take]; rfl)) ?_; (with_reducible refine (oublaw7_first.calls k  true _ A2.out).mono ?_); rintro e w82 ⟨rfl, hb⟩; refine ⟨_, rfl, ?_⟩; have n0_ := Aside0.mk (below_step (by repeat (first | (with_reducible first | exact HB.out | apply below_alloc | apply pw_below_drewN | apply below_drew1) | exact HB.out)) hb); clear HB; have HB := n0_; clear n0_; (try clear hb); (try clear hb2); (try clear hk); (try clear hi)) | ((with_reducible refine gate_callee (f := 10) rfl ?_); refine goesL_ (some 13) rfl rfl Try.func10 (by kernel_rfl) rfl #[.int .i64 a0] rfl (by (try simp only [List.map_toArray, List.map_cons, List.map_nil]); first | done | rfl | (simp only [List.length_drop, List.length_take]; rfl)) ?_; (with_reducible refine (tree_May.calls a0 false _ A4.out).mono ?_); rintro e w' ⟨rfl, ⟨nd, rfl⟩⟩; refine ⟨_, rfl, ?_⟩) | ((with_reducible refine gate_callee (f := 8) rfl ?_); refine goesL_ (some 15) rfl rfl Try.func8 (by kernel_rfl) rfl #[] rfl (by (try simp only [List.map_toArray, List.map_cons, List.map_nil]); first | done | rfl | (simp only [List.length_drop, List.length_take]; rfl)) ?_; (with_reducible refine (oublaw7_first.calls k  false _ A64.out).mono ?_); rintro e w83 ⟨rfl, hb⟩; refine ⟨_, rfl, ?_⟩; have n0_ := Aside0.mk (below_step (by repeat (first | (with_reducible first | exact HB.out | apply below_alloc | apply pw_below_drewN | apply below_drew1) | exact HB.out)) hb); clear HB; have HB := n0_; clear n0_; (try clear hb); (try clear hb2); (try clear hk); (try clear hi)))
        go_ret
        exact ⟨by first | rfl | (simp [errW_none, errW_some] <;> rfl) | (simp [*, errW_none, errW_some] <;> rfl), by repeat (first | (with_reducible first | exact HB.out | apply below_alloc | apply pw_below_drewN | apply below_drew1) | exact HB.out)⟩
  · replace c3 := Bool.eq_false_iff.mpr c3
    subst c3
    have H1 : (some false) = some r := by rw [if_neg (show ¬ (false = true) by decide)] at H; exact H
    clear H
    have H := H1
    clear H1
    obtain rfl := Option.some.inj H
    go_enter Try.func7, Try.ntmps7
    go_wp2_with (first | ((with_reducible refine gate_callee (f := 8) rfl ?_); refine goesL_ (some 10) rfl rfl Try.func8 (by kernel_rfl) rfl #[] rfl (by (try simp only [List.map_toArray, List.map_cons, List.map_nil]); first | done | rfl | (simp only [List.length_drop, List.length_take]; rfl)) ?_; (with_reducible refine (oublaw7_first.calls k  false _ A2.out).mono ?_); rintro e w84 ⟨rfl, hb⟩; refine ⟨_, rfl, ?_⟩; have n0_ := Aside0.mk (below_step (by repeat (first | (with_reducible first | exact HB.out | apply below_alloc | apply pw_below_drewN | apply below_drew1) | exact HB.out)) hb); clear HB; have HB := n0_; clear n0_; (try clear hb); (try clear hb2); (try clear hk); (try clear hi)))
    go_ret
    exact ⟨by first | rfl | (simp [errW_none, errW_some] <;> rfl) | (simp [*, errW_none, errW_some] <;> rfl), by repeat (first | (with_reducible first | exact HB.out | apply below_alloc | apply pw_below_drewN | apply below_drew1) | exact HB.out)⟩

/-- THE ONE PURE STATEMENT of oublaw7_TreeCounts: yours. -/
def oublaw7_TreeCounts.Pure : Prop := ∀ (a0 : Int), (Lit.int .i64 a0).wf = true → ∃ k, oublaw7_TreeCounts.f k a0 = some true
theorem oublaw7_TreeCounts.walk (P : oublaw7_TreeCounts.Pure) (a0 : Int) (w : World) (w0 : (Lit.int .i64 a0).wf = true) :
    Calls Try.prog 7 #[.int .i64 a0] w fun e w' => e = .returned (.bool true) ∧ Below w.heap.size w w' := by
  obtain ⟨k, h⟩ := P a0 w0
  refine (oublaw7_TreeCounts.calls k a0 true w h).mono ?_
  rintro e w' ⟨rfl, hd⟩
  exact ⟨rfl, hd⟩

end Go.Proofs.Ytkeinmbommabbaa.Q
