-- PRINTED BY print.sh 35421559b90ae4d0a3588c463048766b98c2df88dd9212a6774a882060cdf62d: not written by this session
import Derived.Test.YtkeinmbommabbaaPTreeTellsx0
import Derived.Test.YtkeinmbommabbaaPTreeTellsx1
import Derived.Test.YtkeinmbommabbaaPTreeTellsx2
namespace Go.Proofs.Ytkeinmbommabbaa.PTreeTells
open Go.RowKit Go.Proofs.YtkeinmbommabbaaW.PrintWords Go.Proofs.YtkeinmbommabbaaW.PrintLast Go.Proofs.YtkeinmbommabbaaW.PrintMore
attribute [local go_sem] max2_int min2_int max_two min_two max_three min_three max_four min_four   -- for this text's walks alone
set_option linter.unusedVariables false
set_option linter.unusedSimpArgs false

/-! ### oublaw7_TreeTells: function 3 -/
def oublaw7_TreeTells.j0 : Nat → Int → Int → Int → Int → Int → Option (Bool)
  | 0, _, _, _, _, _ => none
  | k + 1, x0, x1, x2, x3, x9 => (oublaw7_first.f k).bind fun t157 => (if t157 = true then ((tree_May.f x0).bind fun t158 => ((oubref7_MayHeight.f x0).bind fun t159 => (if (t158 == t159) = true then ((tree_Buckets.f x0).bind fun t160 => ((oubref7_Buckets.f x0).bind fun t161 => (if t160 = t161 then ((tree_Leaves.f x0).bind fun t162 => (if t162 = x9 then ((tree_Path.f k x0 x1).bind fun t163 => ((oubref7_Path.f k x0 x1).bind fun t166 => ((oubref_Ints.f k t163 t166).bind fun t169 => (if t169 = true then ((tree_Level.f k x3).bind fun t170 => ((oubref7_Level.f k x3).bind fun t171 => (if t170 = t171 then ((tree_On.f k x0 x3 x1).bind fun t172 => ((oubref7_On.f k x0 x3 x1).bind fun t173 => (if (t172 == t173) = true then ((tree_Shared.f k x0 x1 x2).bind fun t174 => ((oubref7_Shared.f k x0 x1 x2).bind fun t175 => (some (t174 == t175)))) else (some false)))) else (some false)))) else (some false))))) else (some false))) else (some false)))) else (some false)))) else (some false))
def oublaw7_TreeTells.f (k : Nat) (a0 : Int) (a1 : Int) (a2 : Int) (a3 : Int) : Option (Bool) := (oublaw7_first.f k).bind fun t155 => (if t155 = true then ((oubref7_MayHeight.f a0).bind fun t156 => (if t156 = true then (if 0 ≤ (IntKind.u64.wrap (a0)) then (oublaw7_TreeTells.j0 k a0 a1 a2 a3 (shl .i64 1 (IntKind.u64.wrap (a0)))) else (none)) else (oublaw7_TreeTells.j0 k a0 a1 a2 a3 0))) else (some false))
theorem oublaw7_TreeTells.mono_l : ∀ k, (∀ y0 y1 y2 y3 y4, LeO (oublaw7_TreeTells.j0 k y0 y1 y2 y3 y4) (oublaw7_TreeTells.j0 (k + 1) y0 y1 y2 y3 y4))
  | 0 => fun _ _ _ _ _ r h => by simp [oublaw7_TreeTells.j0] at h
  | k + 1 => by
    have ih0 := oublaw7_TreeTells.mono_l k
    · intro y0 y1 y2 y3 y4
      unfold oublaw7_TreeTells.j0
      repeat' first
      | (with_reducible exact ih0 _ _ _ _ _)
      | (with_reducible exact oublaw7_first.mono _)
      | (with_reducible exact oubref7_Level.mono _ _)
      | (with_reducible exact oubref7_On.mono _ _ _ _)
      | (with_reducible exact oubref7_Path.mono _ _ _)
      | (with_reducible exact oubref7_Shared.mono _ _ _ _)
      | (with_reducible exact oubref_Ints.mono _ _ _)
      | (with_reducible exact tree_Level.mono _ _)
      | (with_reducible exact tree_On.mono _ _ _ _)
      | (with_reducible exact tree_Path.mono _ _ _)
      | (with_reducible exact tree_Shared.mono _ _ _ _)
      | (with_reducible exact LeO.refl _)
      | (with_reducible exact LeO.none _)
      | (with_reducible refine LeO.ite ?_ ?_)
      | (with_reducible refine LeO.bind ?_ (fun _ => ?_))
      | exact ih0 _ _ _ _ _
      | exact oublaw7_first.mono _
      | exact oubref7_Level.mono _ _
      | exact oubref7_On.mono _ _ _ _
      | exact oubref7_Path.mono _ _ _
      | exact oubref7_Shared.mono _ _ _ _
      | exact oubref_Ints.mono _ _ _
      | exact tree_Level.mono _ _
      | exact tree_On.mono _ _ _ _
      | exact tree_Path.mono _ _ _
      | exact tree_Shared.mono _ _ _ _
      | exact LeO.none _
      | refine LeO.ite ?_ ?_
      | refine LeO.bind ?_ (fun _ => ?_)
theorem oublaw7_TreeTells.mono : ∀ a0 a1 a2 a3 k, LeO (oublaw7_TreeTells.f k a0 a1 a2 a3) (oublaw7_TreeTells.f (k + 1) a0 a1 a2 a3) := by
  intro a0 a1 a2 a3 k
  have ih0 := oublaw7_TreeTells.mono_l k
  unfold oublaw7_TreeTells.f
  repeat' first
      | (with_reducible exact ih0 _ _ _ _ _)
      | (with_reducible exact oublaw7_first.mono _)
      | (with_reducible exact oubref7_Level.mono _ _)
      | (with_reducible exact oubref7_On.mono _ _ _ _)
      | (with_reducible exact oubref7_Path.mono _ _ _)
      | (with_reducible exact oubref7_Shared.mono _ _ _ _)
      | (with_reducible exact oubref_Ints.mono _ _ _)
      | (with_reducible exact tree_Level.mono _ _)
      | (with_reducible exact tree_On.mono _ _ _ _)
      | (with_reducible exact tree_Path.mono _ _ _)
      | (with_reducible exact tree_Shared.mono _ _ _ _)
      | (with_reducible exact LeO.refl _)
      | (with_reducible exact LeO.none _)
      | (with_reducible refine LeO.ite ?_ ?_)
      | (with_reducible refine LeO.bind ?_ (fun _ => ?_))
      | exact ih0 _ _ _ _ _
      | exact oublaw7_first.mono _
      | exact oubref7_Level.mono _ _
      | exact oubref7_On.mono _ _ _ _
      | exact oubref7_Path.mono _ _ _
      | exact oubref7_Shared.mono _ _ _ _
      | exact oubref_Ints.mono _ _ _
      | exact tree_Level.mono _ _
      | exact tree_On.mono _ _ _ _
      | exact tree_Path.mono _ _ _
      | exact tree_Shared.mono _ _ _ _
      | exact LeO.none _
      | refine LeO.ite ?_ ?_
      | refine LeO.bind ?_ (fun _ => ?_)
set_option maxHeartbeats 8000000 in
set_option maxRecDepth 100000 in
theorem oublaw7_TreeTells.calls (k : Nat) (a0 : Int) (a1 : Int) (a2 : Int) (a3 : Int) (r : Bool) (w : World) (h : oublaw7_TreeTells.f k a0 a1 a2 a3 = some r) :
    Calls Try.prog 3 #[.int .i64 a0, .int .i64 a1, .int .i64 a2, .int .i64 a3] w fun e w' => e = .returned (.bool r) ∧ Below w.heap.size w w' := by
  have HB := Aside0.mk (Below.refl w.heap.size w)
  have H : ((oublaw7_first.f k).bind fun t155 => (if t155 = true then ((oubref7_MayHeight.f a0).bind fun t156 => (if t156 = true then (if 0 ≤ (IntKind.u64.wrap (a0)) then (oublaw7_TreeTells.j0 k a0 a1 a2 a3 (shl .i64 1 (IntKind.u64.wrap (a0)))) else (none)) else (oublaw7_TreeTells.j0 k a0 a1 a2 a3 0))) else (some false))) = some r := h
  clear h
  replace H := Option.bind_eq_some_iff.mp H
  obtain ⟨t155, A50, H⟩ := H
  replace H : (if t155 = true then ((oubref7_MayHeight.f a0).bind fun t156 => (if t156 = true then (if 0 ≤ (IntKind.u64.wrap (a0)) then (oublaw7_TreeTells.j0 k a0 a1 a2 a3 (shl .i64 1 (IntKind.u64.wrap (a0)))) else (none)) else (oublaw7_TreeTells.j0 k a0 a1 a2 a3 0))) else (some false)) = some r := H
  have A5 := Aside0.mk A50
  clear A50
  by_cases c6 : t155 = true
  · subst c6
    have H1 : ((oubref7_MayHeight.f a0).bind fun t156 => (if t156 = true then (if 0 ≤ (IntKind.u64.wrap (a0)) then (oublaw7_TreeTells.j0 k a0 a1 a2 a3 (shl .i64 1 (IntKind.u64.wrap (a0)))) else (none)) else (oublaw7_TreeTells.j0 k a0 a1 a2 a3 0))) = some r := by rw [if_pos rfl] at H; exact H
    clear H
    have H := H1
    clear H1
    replace H := Option.bind_eq_some_iff.mp H
    obtain ⟨t156, A70, H⟩ := H
    replace H : (if t156 = true then (if 0 ≤ (IntKind.u64.wrap (a0)) then (oublaw7_TreeTells.j0 k a0 a1 a2 a3 (shl .i64 1 (IntKind.u64.wrap (a0)))) else (none)) else (oublaw7_TreeTells.j0 k a0 a1 a2 a3 0)) = some r := H
    have A7 := Aside0.mk A70
    clear A70
    have HC8 := Aside0.mk H
    clear H
    go_enter Try.func3, Try.ntmps3
    go_upto_if 13 with (first | ((with_reducible refine gate_callee (f := 8) rfl ?_); refine goesL_ (some 10) rfl rfl Try.func8 (by kernel_rfl) rfl #[] rfl (by (try simp only [List.map_toArray, List.map_cons, List.map_nil]); first | done | rfl | (simp only [List.length_drop, List.length_take]; rfl)) ?_; (with_reducible refine (oublaw7_first.calls k  true _ A5.out).mono ?_); rintro e w9 ⟨rfl, hb⟩; refine ⟨_, rfl, ?_⟩; have n0_ := Aside0.mk (below_step (by repeat (first | (with_reducible first | exact HB.out | apply below_alloc | apply pw_below_drewN | apply below_drew1) | exact HB.out)) hb); clear HB; have HB := n0_; clear n0_; (try clear hb); (try clear hb2); (try clear hk); (try clear hi)) | ((with_reducible refine gate_callee (f := 9) rfl ?_); refine goesL_ (some 13) rfl rfl Try.func9 (by kernel_rfl) rfl #[.int .i64 a0] rfl (by (try simp only [List.map_toArray, List.map_cons, List.map_nil]); first | done | rfl | (simp only [List.length_drop, List.length_take]; rfl)) ?_; (with_reducible refine (oubref7_MayHeight.calls a0 t156 _ A7.out).mono ?_); rintro e w' ⟨rfl, ⟨nd, rfl⟩⟩; refine ⟨_, rfl, ?_⟩))
    (try simp only [Act.put, List.setIfInBounds_toArray, List.set_cons_zero, List.set_cons_succ])
    go_cut [9] (fun v9 wc => ∃ (kq : Nat) (x9_7 : Int), v9 = .int .i64 x9_7 ∧ Aside0 (oublaw7_TreeTells.j0 kq a0 a1 a2 a3 x9_7 = some r) ∧ Aside0 (kq ≤ k) ∧ Aside0 (Below w.heap.size w wc))
    case first =>
      have H := HC8.out
      clear HC8
      by_cases c10 : t156 = true
      · subst c10
        have H1 : (if 0 ≤ (IntKind.u64.wrap (a0)) then (oublaw7_TreeTells.j0 k a0 a1 a2 a3 (shl .i64 1 (IntKind.u64.wrap (a0)))) else (none)) = some r := by rw [if_pos rfl] at H; exact H
        clear H
        have H := H1
        clear H1
        obtain ⟨ji11, hji11⟩ : ∃ j_ : Int, (IntKind.u64.wrap (a0)) = j_ := ⟨_, rfl⟩
        replace H : (if 0 ≤ (ji11) then (oublaw7_TreeTells.j0 k a0 a1 a2 a3 (shl .i64 1 (ji11))) else (none)) = some r := by first | (rw [hji11] at H; exact H) | (simp only [hji11] at H ⊢; exact H)
        by_cases c12 : 0 ≤ (ji11)
        · rw [if_pos c12] at H
          have c12b0 := eq_true c12
          have c12b1 : decide (0 ≤ (ji11)) = true := decide_eq_true c12
          clear c12
          obtain ⟨ji13, hji13⟩ : ∃ j_ : Int, (shl .i64 1 (ji11)) = j_ := ⟨_, rfl⟩
          replace H : (oublaw7_TreeTells.j0 k a0 a1 a2 a3 ji13) = some r := by first | (rw [hji13] at H; exact H) | (simp only [hji13] at H ⊢; exact H)
          have hji13_ : (IntKind.i64.wrap (1 * 2 ^ min (ji11).toNat 64)) = ji13 := hji13
          have hji13z : (ji11) ≤ 64 → (IntKind.i64.wrap (1 * 2 ^ (ji11).toNat)) = ji13 := shl_small hji13
          have hji13u : (IntKind.i64.wrap (2 ^ min (ji11).toNat 64)) = ji13 := by have h_ := hji13_; rw [Int.one_mul] at h_; exact h_
          have hji13v : (ji11) ≤ 64 → (IntKind.i64.wrap (2 ^ (ji11).toNat)) = ji13 := fun hle_ => by have h_ := hji13z hle_; rw [Int.one_mul] at h_; exact h_
          have hji13y : (wrap64 (1 * 2 ^ min (ji11).toNat 64)) = ji13 := (i64_w _).symm.trans hji13_
          have hji13x : (ji11) ≤ 64 → (wrap64 (1 * 2 ^ (ji11).toNat)) = ji13 := fun h_ => (i64_w _).symm.trans (hji13z h_)
          have H' := Aside0.mk H
          clear H
          go_wp2
          go_meet
          case rel => exact ⟨_, (ji13), (by first | rfl | (simp; done) | (simp only [← hji13] <;> (first | rfl | simp)) | (simp [*]; done)), H', ⟨by first | omega | exact Nat.le_refl _⟩, ⟨by repeat (first | (with_reducible first | exact HB.out | apply below_alloc | apply pw_below_drewN | apply below_drew1) | exact HB.out)⟩⟩
        · rw [if_neg c12] at H
          exact absurd H (by simp)
      · replace c10 := Bool.eq_false_iff.mpr c10
        subst c10
        have H1 : (oublaw7_TreeTells.j0 k a0 a1 a2 a3 0) = some r := by rw [if_neg (show ¬ (false = true) by decide)] at H; exact H
        clear H
        have H := H1
        clear H1
        have H' := Aside0.mk H
        clear H
        go_wp2
        go_meet
        case rel => exact ⟨_, (0), (by first | rfl | (simp; done) | (simp [*]; done)), H', ⟨by first | omega | exact Nat.le_refl _⟩, ⟨by repeat (first | (with_reducible first | exact HB.out | apply below_alloc | apply pw_below_drewN | apply below_drew1) | exact HB.out)⟩⟩
    case rest =>
      clear HC8
      try clear c1
      try clear p2
      try clear c3
      try clear c6
      try clear p6
      try clear c8
      try clear c9
      try clear c10
      try clear c12
      try clear c12b0
      try clear c12b1
      obtain ⟨kq, x9_7, rfl, HA, HJ7, HB⟩ := hcut
      cases kq with
      | zero => exact absurd HA.out (by simp [oublaw7_TreeTells.j0])
      | succ kj7 =>
        have H := HA.out
        clear HA
        simp only [oublaw7_TreeTells.j0] at H
        replace H := Option.bind_eq_some_iff.mp H
        obtain ⟨t157, A140, H⟩ := H
        replace H : (if t157 = true then ((tree_May.f a0).bind fun t158 => ((oubref7_MayHeight.f a0).bind fun t159 => (if (t158 == t159) = true then ((tree_Buckets.f a0).bind fun t160 => ((oubref7_Buckets.f a0).bind fun t161 => (if t160 = t161 then ((tree_Leaves.f a0).bind fun t162 => (if t162 = x9_7 then ((tree_Path.f kj7 a0 a1).bind fun t163 => ((oubref7_Path.f kj7 a0 a1).bind fun t166 => ((oubref_Ints.f kj7 t163 t166).bind fun t169 => (if t169 = true then ((tree_Level.f kj7 a3).bind fun t170 => ((oubref7_Level.f kj7 a3).bind fun t171 => (if t170 = t171 then ((tree_On.f kj7 a0 a3 a1).bind fun t172 => ((oubref7_On.f kj7 a0 a3 a1).bind fun t173 => (if (t172 == t173) = true then ((tree_Shared.f kj7 a0 a1 a2).bind fun t174 => ((oubref7_Shared.f kj7 a0 a1 a2).bind fun t175 => (some (t174 == t175)))) else (some false)))) else (some false)))) else (some false))))) else (some false))) else (some false)))) else (some false)))) else (some false)) = some r := H
        have A14 := Aside0.mk A140
        clear A140
        by_cases c15 : t157 = true
        · subst c15
          have H1 : ((tree_May.f a0).bind fun t158 => ((oubref7_MayHeight.f a0).bind fun t159 => (if (t158 == t159) = true then ((tree_Buckets.f a0).bind fun t160 => ((oubref7_Buckets.f a0).bind fun t161 => (if t160 = t161 then ((tree_Leaves.f a0).bind fun t162 => (if t162 = x9_7 then ((tree_Path.f kj7 a0 a1).bind fun t163 => ((oubref7_Path.f kj7 a0 a1).bind fun t166 => ((oubref_Ints.f kj7 t163 t166).bind fun t169 => (if t169 = true then ((tree_Level.f kj7 a3).bind fun t170 => ((oubref7_Level.f kj7 a3).bind fun t171 => (if t170 = t171 then ((tree_On.f kj7 a0 a3 a1).bind fun t172 => ((oubref7_On.f kj7 a0 a3 a1).bind fun t173 => (if (t172 == t173) = true then ((tree_Shared.f kj7 a0 a1 a2).bind fun t174 => ((oubref7_Shared.f kj7 a0 a1 a2).bind fun t175 => (some (t174 == t175)))) else (some false)))) else (some false)))) else (some false))))) else (some false))) else (some false)))) else (some false)))) = some r := by rw [if_pos rfl] at H; exact H
          clear H
          have H := H1
          clear H1
          replace H := Option.bind_eq_some_iff.mp H
          obtain ⟨t158, A160, H⟩ := H
          replace H : ((oubref7_MayHeight.f a0).bind fun t159 => (if (t158 == t159) = true then ((tree_Buckets.f a0).bind fun t160 => ((oubref7_Buckets.f a0).bind fun t161 => (if t160 = t161 then ((tree_Leaves.f a0).bind fun t162 => (if t162 = x9_7 then ((tree_Path.f kj7 a0 a1).bind fun t163 => ((oubref7_Path.f kj7 a0 a1).bind fun t166 => ((oubref_Ints.f kj7 t163 t166).bind fun t169 => (if t169 = true then ((tree_Level.f kj7 a3).bind fun t170 => ((oubref7_Level.f kj7 a3).bind fun t171 => (if t170 = t171 then ((tree_On.f kj7 a0 a3 a1).bind fun t172 => ((oubref7_On.f kj7 a0 a3 a1).bind fun t173 => (if (t172 == t173) = true then ((tree_Shared.f kj7 a0 a1 a2).bind fun t174 => ((oubref7_Shared.f kj7 a0 a1 a2).bind fun t175 => (some (t174 == t175)))) else (some false)))) else (some false)))) else (some false))))) else (some false))) else (some false)))) else (some false))) = some r := H
          have A16 := Aside0.mk A160
          clear A160
          replace H := Option.bind_eq_some_iff.mp H
          obtain ⟨t159, A170, H⟩ := H
          replace H : (if (t158 == t159) = true then ((tree_Buckets.f a0).bind fun t160 => ((oubref7_Buckets.f a0).bind fun t161 => (if t160 = t161 then ((tree_Leaves.f a0).bind fun t162 => (if t162 = x9_7 then ((tree_Path.f kj7 a0 a1).bind fun t163 => ((oubref7_Path.f kj7 a0 a1).bind fun t166 => ((oubref_Ints.f kj7 t163 t166).bind fun t169 => (if t169 = true then ((tree_Level.f kj7 a3).bind fun t170 => ((oubref7_Level.f kj7 a3).bind fun t171 => (if t170 = t171 then ((tree_On.f kj7 a0 a3 a1).bind fun t172 => ((oubref7_On.f kj7 a0 a3 a1).bind fun t173 => (if (t172 == t173) = true then ((tree_Shared.f kj7 a0 a1 a2).bind fun t174 => ((oubref7_Shared.f kj7 a0 a1 a2).bind fun t175 => (some (t174 == t175)))) else (some false)))) else (some false)))) else (some false))))) else (some false))) else (some false)))) else (some false)) = some r := H
          have A17 := Aside0.mk A170
          clear A170
          by_cases c18 : (t158 == t159) = true
          · rw [if_pos c18] at H
            have c18b0 : (t158 == t159) = true := c18
            (try (have c18b1 : decide (t158 = t159) = true := by simpa using c18))
            (try (have c18b2 : (t158 == t159) = true := by simpa using c18))
            clear c18
            replace H := Option.bind_eq_some_iff.mp H
            obtain ⟨t160, A190, H⟩ := H
            replace H : ((oubref7_Buckets.f a0).bind fun t161 => (if t160 = t161 then ((tree_Leaves.f a0).bind fun t162 => (if t162 = x9_7 then ((tree_Path.f kj7 a0 a1).bind fun t163 => ((oubref7_Path.f kj7 a0 a1).bind fun t166 => ((oubref_Ints.f kj7 t163 t166).bind fun t169 => (if t169 = true then ((tree_Level.f kj7 a3).bind fun t170 => ((oubref7_Level.f kj7 a3).bind fun t171 => (if t170 = t171 then ((tree_On.f kj7 a0 a3 a1).bind fun t172 => ((oubref7_On.f kj7 a0 a3 a1).bind fun t173 => (if (t172 == t173) = true then ((tree_Shared.f kj7 a0 a1 a2).bind fun t174 => ((oubref7_Shared.f kj7 a0 a1 a2).bind fun t175 => (some (t174 == t175)))) else (some false)))) else (some false)))) else (some false))))) else (some false))) else (some false))) = some r := H
            have A19 := Aside0.mk A190
            clear A190
            replace H := Option.bind_eq_some_iff.mp H
            obtain ⟨t161, A200, H⟩ := H
            replace H : (if t160 = t161 then ((tree_Leaves.f a0).bind fun t162 => (if t162 = x9_7 then ((tree_Path.f kj7 a0 a1).bind fun t163 => ((oubref7_Path.f kj7 a0 a1).bind fun t166 => ((oubref_Ints.f kj7 t163 t166).bind fun t169 => (if t169 = true then ((tree_Level.f kj7 a3).bind fun t170 => ((oubref7_Level.f kj7 a3).bind fun t171 => (if t170 = t171 then ((tree_On.f kj7 a0 a3 a1).bind fun t172 => ((oubref7_On.f kj7 a0 a3 a1).bind fun t173 => (if (t172 == t173) = true then ((tree_Shared.f kj7 a0 a1 a2).bind fun t174 => ((oubref7_Shared.f kj7 a0 a1 a2).bind fun t175 => (some (t174 == t175)))) else (some false)))) else (some false)))) else (some false))))) else (some false))) else (some false)) = some r := H
            have A20 := Aside0.mk A200
            clear A200
            by_cases c21 : t160 = t161
            · rw [if_pos c21] at H
              have c21b0 : (t160 == t161) = true := beq_iff_eq.mpr c21
              have c21b1 : (t160 != t161) = false := bne_eq_false_iff_eq.mpr c21
              clear c21
              replace H := Option.bind_eq_some_iff.mp H
              obtain ⟨t162, A220, H⟩ := H
              replace H : (if t162 = x9_7 then ((tree_Path.f kj7 a0 a1).bind fun t163 => ((oubref7_Path.f kj7 a0 a1).bind fun t166 => ((oubref_Ints.f kj7 t163 t166).bind fun t169 => (if t169 = true then ((tree_Level.f kj7 a3).bind fun t170 => ((oubref7_Level.f kj7 a3).bind fun t171 => (if t170 = t171 then ((tree_On.f kj7 a0 a3 a1).bind fun t172 => ((oubref7_On.f kj7 a0 a3 a1).bind fun t173 => (if (t172 == t173) = true then ((tree_Shared.f kj7 a0 a1 a2).bind fun t174 => ((oubref7_Shared.f kj7 a0 a1 a2).bind fun t175 => (some (t174 == t175)))) else (some false)))) else (some false)))) else (some false))))) else (some false)) = some r := H
              have A22 := Aside0.mk A220
              clear A220
              by_cases c23 : t162 = x9_7
              · rw [if_pos c23] at H
                have c23b0 : (t162 == x9_7) = true := beq_iff_eq.mpr c23
                have c23b1 : (t162 != x9_7) = false := bne_eq_false_iff_eq.mpr c23
                clear c23
                replace H := Option.bind_eq_some_iff.mp H
                obtain ⟨t163, A240, H⟩ := H
                replace H : ((oubref7_Path.f kj7 a0 a1).bind fun t166 => ((oubref_Ints.f kj7 t163 t166).bind fun t169 => (if t169 = true then ((tree_Level.f kj7 a3).bind fun t170 => ((oubref7_Level.f kj7 a3).bind fun t171 => (if t170 = t171 then ((tree_On.f kj7 a0 a3 a1).bind fun t172 => ((oubref7_On.f kj7 a0 a3 a1).bind fun t173 => (if (t172 == t173) = true then ((tree_Shared.f kj7 a0 a1 a2).bind fun t174 => ((oubref7_Shared.f kj7 a0 a1 a2).bind fun t175 => (some (t174 == t175)))) else (some false)))) else (some false)))) else (some false)))) = some r := H
                have A24 := Aside0.mk A240
                clear A240
                replace H := Option.bind_eq_some_iff.mp H
                obtain ⟨t166, A250, H⟩ := H
                replace H : ((oubref_Ints.f kj7 t163 t166).bind fun t169 => (if t169 = true then ((tree_Level.f kj7 a3).bind fun t170 => ((oubref7_Level.f kj7 a3).bind fun t171 => (if t170 = t171 then ((tree_On.f kj7 a0 a3 a1).bind fun t172 => ((oubref7_On.f kj7 a0 a3 a1).bind fun t173 => (if (t172 == t173) = true then ((tree_Shared.f kj7 a0 a1 a2).bind fun t174 => ((oubref7_Shared.f kj7 a0 a1 a2).bind fun t175 => (some (t174 == t175)))) else (some false)))) else (some false)))) else (some false))) = some r := H
                have A25 := Aside0.mk A250
                clear A250
                replace H := Option.bind_eq_some_iff.mp H
                obtain ⟨t169, A260, H⟩ := H
                replace H : (if t169 = true then ((tree_Level.f kj7 a3).bind fun t170 => ((oubref7_Level.f kj7 a3).bind fun t171 => (if t170 = t171 then ((tree_On.f kj7 a0 a3 a1).bind fun t172 => ((oubref7_On.f kj7 a0 a3 a1).bind fun t173 => (if (t172 == t173) = true then ((tree_Shared.f kj7 a0 a1 a2).bind fun t174 => ((oubref7_Shared.f kj7 a0 a1 a2).bind fun t175 => (some (t174 == t175)))) else (some false)))) else (some false)))) else (some false)) = some r := H
                have A26 := Aside0.mk A260
                clear A260
                by_cases c27 : t169 = true
                · subst c27
                  have H1 : ((tree_Level.f kj7 a3).bind fun t170 => ((oubref7_Level.f kj7 a3).bind fun t171 => (if t170 = t171 then ((tree_On.f kj7 a0 a3 a1).bind fun t172 => ((oubref7_On.f kj7 a0 a3 a1).bind fun t173 => (if (t172 == t173) = true then ((tree_Shared.f kj7 a0 a1 a2).bind fun t174 => ((oubref7_Shared.f kj7 a0 a1 a2).bind fun t175 => (some (t174 == t175)))) else (some false)))) else (some false)))) = some r := by rw [if_pos rfl] at H; exact H
                  clear H
                  have H := H1
                  clear H1
                  replace H := Option.bind_eq_some_iff.mp H
                  obtain ⟨t170, A280, H⟩ := H
                  replace H : ((oubref7_Level.f kj7 a3).bind fun t171 => (if t170 = t171 then ((tree_On.f kj7 a0 a3 a1).bind fun t172 => ((oubref7_On.f kj7 a0 a3 a1).bind fun t173 => (if (t172 == t173) = true then ((tree_Shared.f kj7 a0 a1 a2).bind fun t174 => ((oubref7_Shared.f kj7 a0 a1 a2).bind fun t175 => (some (t174 == t175)))) else (some false)))) else (some false))) = some r := H
                  have A28 := Aside0.mk A280
                  clear A280
                  replace H := Option.bind_eq_some_iff.mp H
                  obtain ⟨t171, A290, H⟩ := H
                  replace H : (if t170 = t171 then ((tree_On.f kj7 a0 a3 a1).bind fun t172 => ((oubref7_On.f kj7 a0 a3 a1).bind fun t173 => (if (t172 == t173) = true then ((tree_Shared.f kj7 a0 a1 a2).bind fun t174 => ((oubref7_Shared.f kj7 a0 a1 a2).bind fun t175 => (some (t174 == t175)))) else (some false)))) else (some false)) = some r := H
                  have A29 := Aside0.mk A290
                  clear A290
                  by_cases c30 : t170 = t171
                  · rw [if_pos c30] at H
                    have c30b0 : (t170 == t171) = true := beq_iff_eq.mpr c30
                    have c30b1 : (t170 != t171) = false := bne_eq_false_iff_eq.mpr c30
                    clear c30
                    replace H := Option.bind_eq_some_iff.mp H
                    obtain ⟨t172, A310, H⟩ := H
                    replace H : ((oubref7_On.f kj7 a0 a3 a1).bind fun t173 => (if (t172 == t173) = true then ((tree_Shared.f kj7 a0 a1 a2).bind fun t174 => ((oubref7_Shared.f kj7 a0 a1 a2).bind fun t175 => (some (t174 == t175)))) else (some false))) = some r := H
                    have A31 := Aside0.mk A310
                    clear A310
                    replace H := Option.bind_eq_some_iff.mp H
                    obtain ⟨t173, A320, H⟩ := H
                    replace H : (if (t172 == t173) = true then ((tree_Shared.f kj7 a0 a1 a2).bind fun t174 => ((oubref7_Shared.f kj7 a0 a1 a2).bind fun t175 => (some (t174 == t175)))) else (some false)) = some r := H
                    have A32 := Aside0.mk A320
                    clear A320
                    by_cases c33 : (t172 == t173) = true
                    · rw [if_pos c33] at H
                      have c33b0 : (t172 == t173) = true := c33
                      (try (have c33b1 : decide (t172 = t173) = true := by simpa using c33))
                      (try (have c33b2 : (t172 == t173) = true := by simpa using c33))
                      clear c33
                      replace H := Option.bind_eq_some_iff.mp H
                      obtain ⟨t174, A340, H⟩ := H
                      replace H : ((oubref7_Shared.f kj7 a0 a1 a2).bind fun t175 => (some (t174 == t175))) = some r := H
                      have A34 := Aside0.mk A340
                      clear A340
                      replace H := Option.bind_eq_some_iff.mp H
                      obtain ⟨t175, A350, H⟩ := H
                      replace H : (some (t174 == t175)) = some r := H
                      have A35 := Aside0.mk A350
                      clear A350
                      obtain rfl := Option.some.inj H
                      go_wp2_with (first | ((with_reducible refine gate_callee (f := 8) rfl ?_); refine goesL_ (some 17) rfl rfl Try.func8 (by kernel_rfl) rfl #[] rfl (by (try simp only [List.map_toArray, List.map_cons, List.map_nil]); first | done | rfl | (simp only [List.length_drop, List.length_take]; rfl)) ?_; (with_reducible refine (oublaw7_first.calls kj7  true _ A14.out).mono ?_); rintro e w36 ⟨rfl, hb⟩; refine ⟨_, rfl, ?_⟩; have n0_ := Aside0.mk (below_step (by repeat (first | (with_reducible first | exact HB.out | apply below_alloc | apply pw_below_drewN | apply below_drew1) | exact HB.out)) hb); clear HB; have HB := n0_; clear n0_; (try clear hb); (try clear hb2); (try clear hk); (try clear hi)) | (go_at_call 10; (with_reducible refine (tree_May.calls a0 t158 _ A16.out).mono ?_); rintro e w' ⟨rfl, ⟨nd, rfl⟩⟩) | (go_at_call 9; (with_reducible refine (oubref7_MayHeight.calls a0 t159 _ A17.out).mono ?_); rintro e w' ⟨rfl, ⟨nd, rfl⟩⟩) | (go_at_call 11; (with_reducible refine (tree_Buckets.calls a0 t160 _ A19.out).mono ?_); rintro e w37 ⟨rfl, hb⟩; have n0_ := Aside0.mk (below_step (by repeat (first | (with_reducible first | exact HB.out | apply below_alloc | apply pw_below_drewN | apply below_drew1) | exact HB.out)) hb); clear HB; have HB := n0_; clear n0_; (try clear hb); (try clear hb2); (try clear hk); (try clear hi)) | (go_at_call 12; (with_reducible refine (oubref7_Buckets.calls a0 t161 _ A20.out).mono ?_); rintro e w' ⟨rfl, ⟨nd, rfl⟩⟩) | (go_at_call 13; (with_reducible refine (tree_Leaves.calls a0 t162 _ A22.out).mono ?_); rintro e w' ⟨rfl, ⟨nd, rfl⟩⟩) | (go_at_call 15; (with_reducible refine (tree_Path.calls kj7 a0 a1 t163 _ A24.out).mono ?_); rintro e w38 ⟨v164, rfl, ho0, hb⟩; have n0_ := Aside0.mk (Kd.R_lower ho0 (below_size (by repeat (first | (with_reducible first | exact HB.out | apply below_alloc | apply pw_below_drewN | apply below_drew1) | exact HB.out)))); have n1_ := Aside0.mk (below_step (by repeat (first | (with_reducible first | exact HB.out | apply below_alloc | apply pw_below_drewN | apply below_drew1) | exact HB.out)) hb); clear HB; have HO165 := n0_; have HB := n1_; clear n0_ n1_; (try clear hb); (try clear hb2); (try clear hk); (try clear hi); (try clear ho0)) | (go_at_call 16; (with_reducible refine (oubref7_Path.calls kj7 a0 a1 t166 _ A25.out).mono ?_); rintro e w39 ⟨v167, rfl, ho0, hb⟩; have n0_ := Aside0.mk (Kd.R_elder' (by (with_reducible repeat (first | apply Kd.R_alloc | apply Kd.R_drewN | apply Kd.R_drew)); exact HO165.out) (Kd.R_base ho0) hb); have n1_ := Aside0.mk (Kd.R_lower (Kd.R_new' ho0 (Kd.R_lt (by (with_reducible repeat (first | apply Kd.R_alloc | apply Kd.R_drewN | apply Kd.R_drew)); exact HO165.out))) (below_size (by repeat (first | (with_reducible first | exact HB.out | apply below_alloc | apply pw_below_drewN | apply below_drew1) | exact HB.out)))); have n2_ := Aside0.mk (below_step (by repeat (first | (with_reducible first | exact HB.out | apply below_alloc | apply pw_below_drewN | apply below_drew1) | exact HB.out)) hb); clear HO165; clear HB; have HO165 := n0_; have HO168 := n1_; have HB := n2_; clear n0_ n1_ n2_; (try clear hb); (try clear hb2); (try clear hk); (try clear hi); (try clear ho0); obtain ⟨Ao40, co40, eo40⟩ := Kd.R_slice HO165.out; subst eo40; obtain ⟨Ao41, co41, eo41⟩ := Kd.R_slice HO168.out; subst eo41) | (go_at_call 14; (with_reducible refine (oubref_Ints.calls kj7 _ _ t163 _ _ t166 true _ ?side1 ?side2 ?side3 ?side4 A26.out).mono ?_); (case side1 => repeat (first | exact (Kd.R_reads' HO165.out).2.2 | (with_reducible refine Kd.C_alloc ?_ _) | (with_reducible refine Kd.C_drewN ?_ _) | (with_reducible refine Kd.C_drew ?_))); (case side2 => exact (Kd.R_reads' HO165.out).2.1); (case side3 => repeat (first | exact (Kd.R_reads' HO168.out).2.2 | (with_reducible refine Kd.C_alloc ?_ _) | (with_reducible refine Kd.C_drewN ?_ _) | (with_reducible refine Kd.C_drew ?_))); (case side4 => exact (Kd.R_reads' HO168.out).2.1); rintro e w' ⟨rfl, ⟨nd, rfl⟩⟩) | (go_at_call 17; (with_reducible refine (tree_Level.calls kj7 a3 t170 _ A28.out).mono ?_); rintro e w' ⟨rfl, ⟨nd, rfl⟩⟩) | (go_at_call 18; (with_reducible refine (oubref7_Level.calls kj7 a3 t171 _ A29.out).mono ?_); rintro e w' ⟨rfl, ⟨nd, rfl⟩⟩) | (go_at_call 19; (with_reducible refine (tree_On.calls kj7 a0 a3 a1 t172 _ A31.out).mono ?_); rintro e w42 ⟨rfl, hb⟩; have n0_ := Aside0.mk (Kd.R_below (by (with_reducible repeat (first | apply Kd.R_alloc | apply Kd.R_drewN | apply Kd.R_drew)); exact HO165.out) hb); have n1_ := Aside0.mk (Kd.R_below (by (with_reducible repeat (first | apply Kd.R_alloc | apply Kd.R_drewN | apply Kd.R_drew)); exact HO168.out) hb); have n2_ := Aside0.mk (below_step (by repeat (first | (with_reducible first | exact HB.out | apply below_alloc | apply pw_below_drewN | apply below_drew1) | exact HB.out)) hb); clear HO165; clear HO168; clear HB; have HO165 := n0_; have HO168 := n1_; have HB := n2_; clear n0_ n1_ n2_; (try clear hb); (try clear hb2); (try clear hk); (try clear hi)) | (go_at_call 20; (with_reducible refine (oubref7_On.calls kj7 a0 a3 a1 t173 _ A32.out).mono ?_); rintro e w43 ⟨rfl, hb⟩; have n0_ := Aside0.mk (Kd.R_below (by (with_reducible repeat (first | apply Kd.R_alloc | apply Kd.R_drewN | apply Kd.R_drew)); exact HO165.out) hb); have n1_ := Aside0.mk (Kd.R_below (by (with_reducible repeat (first | apply Kd.R_alloc | apply Kd.R_drewN | apply Kd.R_drew)); exact HO168.out) hb); have n2_ := Aside0.mk (below_step (by repeat (first | (with_reducible first | exact HB.out | apply below_alloc | apply pw_below_drewN | apply below_drew1) | exact HB.out)) hb); clear HO165; clear HO168; clear HB; have HO165 := n0_; have HO168 := n1_; have HB := n2_; clear n0_ n1_ n2_; (try clear hb); (try clear hb2); (try clear hk); (try clear hi)) | (go_at_call 21; (with_reducible refine (tree_Shared.calls kj7 a0 a1 a2 t174 _ A34.out).mono ?_); rintro e w' ⟨rfl, ⟨nd, rfl⟩⟩) | (go_at_call 22; (with_reducible refine (oubref7_Shared.calls kj7 a0 a1 a2 t175 _ A35.out).mono ?_); rintro e w44 ⟨rfl, hb⟩; have n0_ := Aside0.mk (Kd.R_below (by (with_reducible repeat (first | apply Kd.R_alloc | apply Kd.R_drewN | apply Kd.R_drew)); exact HO165.out) hb); have n1_ := Aside0.mk (Kd.R_below (by (with_reducible repeat (first | apply Kd.R_alloc | apply Kd.R_drewN | apply Kd.R_drew)); exact HO168.out) hb); have n2_ := Aside0.mk (below_step (by repeat (first | (with_reducible first | exact HB.out | apply below_alloc | apply pw_below_drewN | apply below_drew1) | exact HB.out)) hb); clear HO165; clear HO168; clear HB; have HO165 := n0_; have HO168 := n1_; have HB := n2_; clear n0_ n1_ n2_; (try clear hb); (try clear hb2); (try clear hk); (try clear hi)))
                      go_ret
                      exact ⟨by first | rfl | (simp [errW_none, errW_some] <;> rfl) | (simp [*, errW_none, errW_some] <;> rfl), by repeat (first | (with_reducible first | exact HB.out | apply below_alloc | apply pw_below_drewN | apply below_drew1) | exact HB.out)⟩
                    · rw [if_neg c33] at H
                      have c33b0 : (t172 == t173) = false := by simpa using c33
                      (try (have c33b1 : decide (t172 = t173) = false := by simpa using c33))
                      (try (have c33b2 : (t172 == t173) = false := by simpa using c33))
                      (try (have c33b3 : ¬ (t172 = t173) := by simpa using c33))
                      clear c33
                      obtain rfl := Option.some.inj H
                      go_wp2_with (first | ((with_reducible refine gate_callee (f := 8) rfl ?_); refine goesL_ (some 17) rfl rfl Try.func8 (by kernel_rfl) rfl #[] rfl (by (try simp only [List.map_toArray, List.map_cons, List.map_nil]); first | done | rfl | (simp only [List.length_drop, List.length_take]; rfl)) ?_; (with_reducible refine (oublaw7_first.calls kj7  true _ A14.out).mono ?_); rintro e w45 ⟨rfl, hb⟩; refine ⟨_, rfl, ?_⟩; have n0_ := Aside0.mk (below_step (by repeat (first | (with_reducible first | exact HB.out | apply below_alloc | apply pw_below_drewN | apply below_drew1) | exact HB.out)) hb); clear HB; have HB := n0_; clear n0_; (try clear hb); (try clear hb2); (try clear hk); (try clear hi)) | (go_at_call 10; (with_reducible refine (tree_May.calls a0 t158 _ A16.out).mono ?_); rintro e w' ⟨rfl, ⟨nd, rfl⟩⟩) | (go_at_call 9; (with_reducible refine (oubref7_MayHeight.calls a0 t159 _ A17.out).mono ?_); rintro e w' ⟨rfl, ⟨nd, rfl⟩⟩) | (go_at_call 11; (with_reducible refine (tree_Buckets.calls a0 t160 _ A19.out).mono ?_); rintro e w46 ⟨rfl, hb⟩; have n0_ := Aside0.mk (below_step (by repeat (first | (with_reducible first | exact HB.out | apply below_alloc | apply pw_below_drewN | apply below_drew1) | exact HB.out)) hb); clear HB; have HB := n0_; clear n0_; (try clear hb); (try clear hb2); (try clear hk); (try clear hi)) | (go_at_call 12; (with_reducible refine (oubref7_Buckets.calls a0 t161 _ A20.out).mono ?_); rintro e w' ⟨rfl, ⟨nd, rfl⟩⟩) | (go_at_call 13; (with_reducible refine (tree_Leaves.calls a0 t162 _ A22.out).mono ?_); rintro e w' ⟨rfl, ⟨nd, rfl⟩⟩) | (go_at_call 15; (with_reducible refine (tree_Path.calls kj7 a0 a1 t163 _ A24.out).mono ?_); rintro e w47 ⟨v164, rfl, ho0, hb⟩; have n0_ := Aside0.mk (Kd.R_lower ho0 (below_size (by repeat (first | (with_reducible first | exact HB.out | apply below_alloc | apply pw_below_drewN | apply below_drew1) | exact HB.out)))); have n1_ := Aside0.mk (below_step (by repeat (first | (with_reducible first | exact HB.out | apply below_alloc | apply pw_below_drewN | apply below_drew1) | exact HB.out)) hb); clear HB; have HO165 := n0_; have HB := n1_; clear n0_ n1_; (try clear hb); (try clear hb2); (try clear hk); (try clear hi); (try clear ho0)) | (go_at_call 16; (with_reducible refine (oubref7_Path.calls kj7 a0 a1 t166 _ A25.out).mono ?_); rintro e w48 ⟨v167, rfl, ho0, hb⟩; have n0_ := Aside0.mk (Kd.R_elder' (by (with_reducible repeat (first | apply Kd.R_alloc | apply Kd.R_drewN | apply Kd.R_drew)); exact HO165.out) (Kd.R_base ho0) hb); have n1_ := Aside0.mk (Kd.R_lower (Kd.R_new' ho0 (Kd.R_lt (by (with_reducible repeat (first | apply Kd.R_alloc | apply Kd.R_drewN | apply Kd.R_drew)); exact HO165.out))) (below_size (by repeat (first | (with_reducible first | exact HB.out | apply below_alloc | apply pw_below_drewN | apply below_drew1) | exact HB.out)))); have n2_ := Aside0.mk (below_step (by repeat (first | (with_reducible first | exact HB.out | apply below_alloc | apply pw_below_drewN | apply below_drew1) | exact HB.out)) hb); clear HO165; clear HB; have HO165 := n0_; have HO168 := n1_; have HB := n2_; clear n0_ n1_ n2_; (try clear hb); (try clear hb2); (try clear hk); (try clear hi); (try clear ho0); obtain ⟨Ao49, co49, eo49⟩ := Kd.R_slice HO165.out; subst eo49; obtain ⟨Ao50, co50, eo50⟩ := Kd.R_slice HO168.out; subst eo50) | (go_at_call 14; (with_reducible refine (oubref_Ints.calls kj7 _ _ t163 _ _ t166 true _ ?side1 ?side2 ?side3 ?side4 A26.out).mono ?_); (case side1 => repeat (first | exact (Kd.R_reads' HO165.out).2.2 | (with_reducible refine Kd.C_alloc ?_ _) | (with_reducible refine Kd.C_drewN ?_ _) | (with_reducible refine Kd.C_drew ?_))); (case side2 => exact (Kd.R_reads' HO165.out).2.1); (case side3 => repeat (first | exact (Kd.R_reads' HO168.out).2.2 | (with_reducible refine Kd.C_alloc ?_ _) | (with_reducible refine Kd.C_drewN ?_ _) | (with_reducible refine Kd.C_drew ?_))); (case side4 => exact (Kd.R_reads' HO168.out).2.1); rintro e w' ⟨rfl, ⟨nd, rfl⟩⟩) | (go_at_call 17; (with_reducible refine (tree_Level.calls kj7 a3 t170 _ A28.out).mono ?_); rintro e w' ⟨rfl, ⟨nd, rfl⟩⟩) | (go_at_call 18; (with_reducible refine (oubref7_Level.calls kj7 a3 t171 _ A29.out).mono ?_); rintro e w' ⟨rfl, ⟨nd, rfl⟩⟩) | (go_at_call 19; (with_reducible refine (tree_On.calls kj7 a0 a3 a1 t172 _ A31.out).mono ?_); rintro e w51 ⟨rfl, hb⟩; have n0_ := Aside0.mk (Kd.R_below (by (with_reducible repeat (first | apply Kd.R_alloc | apply Kd.R_drewN | apply Kd.R_drew)); exact HO165.out) hb); have n1_ := Aside0.mk (Kd.R_below (by (with_reducible repeat (first | apply Kd.R_alloc | apply Kd.R_drewN | apply Kd.R_drew)); exact HO168.out) hb); have n2_ := Aside0.mk (below_step (by repeat (first | (with_reducible first | exact HB.out | apply below_alloc | apply pw_below_drewN | apply below_drew1) | exact HB.out)) hb); clear HO165; clear HO168; clear HB; have HO165 := n0_; have HO168 := n1_; have HB := n2_; clear n0_ n1_ n2_; (try clear hb); (try clear hb2); (try clear hk); (try clear hi)) | (go_at_call 20; (with_reducible refine (oubref7_On.calls kj7 a0 a3 a1 t173 _ A32.out).mono ?_); rintro e w52 ⟨rfl, hb⟩; have n0_ := Aside0.mk (Kd.R_below (by (with_reducible repeat (first | apply Kd.R_alloc | apply Kd.R_drewN | apply Kd.R_drew)); exact HO165.out) hb); have n1_ := Aside0.mk (Kd.R_below (by (with_reducible repeat (first | apply Kd.R_alloc | apply Kd.R_drewN | apply Kd.R_drew)); exact HO168.out) hb); have n2_ := Aside0.mk (below_step (by repeat (first | (with_reducible first | exact HB.out | apply below_alloc | apply pw_below_drewN | apply below_drew1) | exact HB.out)) hb); clear HO165; clear HO168; clear HB; have HO165 := n0_; have HO168 := n1_; have HB := n2_; clear n0_ n1_ n2_; (try clear hb); (try clear hb2); (try clear hk); (try clear hi)))
                      go_ret
                      exact ⟨by first | rfl | (simp [errW_none, errW_some] <;> rfl) | (simp [*, errW_none, errW_some] <;> rfl), by repeat (first | (with_reducible first | exact HB.out | apply below_alloc | apply pw_below_drewN | apply below_drew1) | exact HB.out)⟩
                  · rw [if_neg c30] at H
                    have c30b0 : (t170 == t171) = false := beq_eq_false_iff_ne.mpr c30
                    have c30b1 : (t170 != t171) = true := bne_iff_ne.mpr c30
                    obtain rfl := Option.some.inj H
                    go_wp2_with (first | ((with_reducible refine gate_callee (f := 8) rfl ?_); refine goesL_ (some 17) rfl rfl Try.func8 (by kernel_rfl) rfl #[] rfl (by (try simp only [List.map_toArray, List.map_cons, List.map_nil]); first | done | rfl | (simp only [List.length_drop, List.length_take]; rfl)) ?_; (with_reducible refine (oublaw7_first.calls kj7  true _ A14.out).mono ?_); rintro e w53 ⟨rfl, hb⟩; refine ⟨_, rfl, ?_⟩; have n0_ := Aside0.mk (below_step (by repeat (first | (with_reducible first | exact HB.out | apply below_alloc | apply pw_below_drewN | apply below_drew1) | exact HB.out)) hb); clear HB; have HB := n0_; clear n0_; (try clear hb); (try clear hb2); (try clear hk); (try clear hi)) | (go_at_call 10; (with_reducible refine (tree_May.calls a0 t158 _ A16.out).mono ?_); rintro e w' ⟨rfl, ⟨nd, rfl⟩⟩) | (go_at_call 9; (with_reducible refine (oubref7_MayHeight.calls a0 t159 _ A17.out).mono ?_); rintro e w' ⟨rfl, ⟨nd, rfl⟩⟩) | (go_at_call 11; (with_reducible refine (tree_Buckets.calls a0 t160 _ A19.out).mono ?_); rintro e w54 ⟨rfl, hb⟩; have n0_ := Aside0.mk (below_step (by repeat (first | (with_reducible first | exact HB.out | apply below_alloc | apply pw_below_drewN | apply below_drew1) | exact HB.out)) hb); clear HB; have HB := n0_; clear n0_; (try clear hb); (try clear hb2); (try clear hk); (try clear hi)) | (go_at_call 12; (with_reducible refine (oubref7_Buckets.calls a0 t161 _ A20.out).mono ?_); rintro e w' ⟨rfl, ⟨nd, rfl⟩⟩) | (go_at_call 13; (with_reducible refine (tree_Leaves.calls a0 t162 _ A22.out).mono ?_); rintro e w' ⟨rfl, ⟨nd, rfl⟩⟩) | (go_at_call 15; (with_reducible refine (tree_Path.calls kj7 a0 a1 t163 _ A24.out).mono ?_); rintro e w55 ⟨v164, rfl, ho0, hb⟩; have n0_ := Aside0.mk (Kd.R_lower ho0 (below_size (by repeat (first | (with_reducible first | exact HB.out | apply below_alloc | apply pw_below_drewN | apply below_drew1) | exact HB.out)))); have n1_ := Aside0.mk (below_step (by repeat (first | (with_reducible first | exact HB.out | apply below_alloc | apply pw_below_drewN | apply below_drew1) | exact HB.out)) hb); clear HB; have HO165 := n0_; have HB := n1_; clear n0_ n1_; (try clear hb); (try clear hb2); (try clear hk); (try clear hi); (try clear ho0)) | (go_at_call 16; (with_reducible refine (oubref7_Path.calls kj7 a0 a1 t166 _ A25.out).mono ?_); rintro e w56 ⟨v167, rfl, ho0, hb⟩; have n0_ := Aside0.mk (Kd.R_elder' (by (with_reducible repeat (first | apply Kd.R_alloc | apply Kd.R_drewN | apply Kd.R_drew)); exact HO165.out) (Kd.R_base ho0) hb); have n1_ := Aside0.mk (Kd.R_lower (Kd.R_new' ho0 (Kd.R_lt (by (with_reducible repeat (first | apply Kd.R_alloc | apply Kd.R_drewN | apply Kd.R_drew)); exact HO165.out))) (below_size (by repeat (first | (with_reducible first | exact HB.out | apply below_alloc | apply pw_below_drewN | apply below_drew1) | exact HB.out)))); have n2_ := Aside0.mk (below_step (by repeat (first | (with_reducible first | exact HB.out | apply below_alloc | apply pw_below_drewN | apply below_drew1) | exact HB.out)) hb); clear HO165; clear HB; have HO165 := n0_; have HO168 := n1_; have HB := n2_; clear n0_ n1_ n2_; (try clear hb); (try clear hb2); (try clear hk); (try clear hi); (try clear ho0); obtain ⟨Ao57, co57, eo57⟩ := Kd.R_slice HO165.out; subst eo57; obtain ⟨Ao58, co58, eo58⟩ := Kd.R_slice HO168.out; subst eo58) | (go_at_call 14; (with_reducible refine (oubref_Ints.calls kj7 _ _ t163 _ _ t166 true _ ?side1 ?side2 ?side3 ?side4 A26.out).mono ?_); (case side1 => repeat (first | exact (Kd.R_reads' HO165.out).2.2 | (with_reducible refine Kd.C_alloc ?_ _) | (with_reducible refine Kd.C_drewN ?_ _) | (with_reducible refine Kd.C_drew ?_))); (case side2 => exact (Kd.R_reads' HO165.out).2.1); (case side3 => repeat (first | exact (Kd.R_reads' HO168.out).2.2 | (with_reducible refine Kd.C_alloc ?_ _) | (with_reducible refine Kd.C_drewN ?_ _) | (with_reducible refine Kd.C_drew ?_))); (case side4 => exact (Kd.R_reads' HO168.out).2.1); rintro e w' ⟨rfl, ⟨nd, rfl⟩⟩) | (go_at_call 17; (with_reducible refine (tree_Level.calls kj7 a3 t170 _ A28.out).mono ?_); rintro e w' ⟨rfl, ⟨nd, rfl⟩⟩) | (go_at_call 18; (with_reducible refine (oubref7_Level.calls kj7 a3 t171 _ A29.out).mono ?_); rintro e w' ⟨rfl, ⟨nd, rfl⟩⟩))
                    go_ret
                    exact ⟨by first | rfl | (simp [errW_none, errW_some] <;> rfl) | (simp [*, errW_none, errW_some] <;> rfl), by repeat (first | (with_reducible first | exact HB.out | apply below_alloc | apply pw_below_drewN | apply below_drew1) | exact HB.out)⟩
                · replace c27 := Bool.eq_false_iff.mpr c27
                  subst c27
                  have H1 : (some false) = some r := by rw [if_neg (show ¬ (false = true) by decide)] at H; exact H
                  clear H
                  have H := H1
                  clear H1
                  obtain rfl := Option.some.inj H
                  go_wp2_with (first | ((with_reducible refine gate_callee (f := 8) rfl ?_); refine goesL_ (some 17) rfl rfl Try.func8 (by kernel_rfl) rfl #[] rfl (by (try simp only [List.map_toArray, List.map_cons, List.map_nil]); first | done | rfl | (simp only [List.length_drop, List.length_take]; rfl)) ?_; (with_reducible refine (oublaw7_first.calls kj7  true _ A14.out).mono ?_); rintro e w59 ⟨rfl, hb⟩; refine ⟨_, rfl, ?_⟩; have n0_ := Aside0.mk (below_step (by repeat (first | (with_reducible first | exact HB.out | apply below_alloc | apply pw_below_drewN | apply below_drew1) | exact HB.out)) hb); clear HB; have HB := n0_; clear n0_; (try clear hb); (try clear hb2); (try clear hk); (try clear hi)) | (go_at_call 10; (with_reducible refine (tree_May.calls a0 t158 _ A16.out).mono ?_); rintro e w' ⟨rfl, ⟨nd, rfl⟩⟩) | (go_at_call 9; (with_reducible refine (oubref7_MayHeight.calls a0 t159 _ A17.out).mono ?_); rintro e w' ⟨rfl, ⟨nd, rfl⟩⟩) | (go_at_call 11; (with_reducible refine (tree_Buckets.calls a0 t160 _ A19.out).mono ?_); rintro e w60 ⟨rfl, hb⟩; have n0_ := Aside0.mk (below_step (by repeat (first | (with_reducible first | exact HB.out | apply below_alloc | apply pw_below_drewN | apply below_drew1) | exact HB.out)) hb); clear HB; have HB := n0_; clear n0_; (try clear hb); (try clear hb2); (try clear hk); (try clear hi)) | (go_at_call 12; (with_reducible refine (oubref7_Buckets.calls a0 t161 _ A20.out).mono ?_); rintro e w' ⟨rfl, ⟨nd, rfl⟩⟩) | (go_at_call 13; (with_reducible refine (tree_Leaves.calls a0 t162 _ A22.out).mono ?_); rintro e w' ⟨rfl, ⟨nd, rfl⟩⟩) | (go_at_call 15; (with_reducible refine (tree_Path.calls kj7 a0 a1 t163 _ A24.out).mono ?_); rintro e w61 ⟨v164, rfl, ho0, hb⟩; have n0_ := Aside0.mk (Kd.R_lower ho0 (below_size (by repeat (first | (with_reducible first | exact HB.out | apply below_alloc | apply pw_below_drewN | apply below_drew1) | exact HB.out)))); have n1_ := Aside0.mk (below_step (by repeat (first | (with_reducible first | exact HB.out | apply below_alloc | apply pw_below_drewN | apply below_drew1) | exact HB.out)) hb); clear HB; have HO165 := n0_; have HB := n1_; clear n0_ n1_; (try clear hb); (try clear hb2); (try clear hk); (try clear hi); (try clear ho0)) | (go_at_call 16; (with_reducible refine (oubref7_Path.calls kj7 a0 a1 t166 _ A25.out).mono ?_); rintro e w62 ⟨v167, rfl, ho0, hb⟩; have n0_ := Aside0.mk (Kd.R_elder' (by (with_reducible repeat (first | apply Kd.R_alloc | apply Kd.R_drewN | apply Kd.R_drew)); exact HO165.out) (Kd.R_base ho0) hb); have n1_ := Aside0.mk (Kd.R_lower (Kd.R_new' ho0 (Kd.R_lt (by (with_reducible repeat (first | apply Kd.R_alloc | apply Kd.R_drewN | apply Kd.R_drew)); exact HO165.out))) (below_size (by repeat (first | (with_reducible first | exact HB.out | apply below_alloc | apply pw_below_drewN | apply below_drew1) | exact HB.out)))); have n2_ := Aside0.mk (below_step (by repeat (first | (with_reducible first | exact HB.out | apply below_alloc | apply pw_below_drewN | apply below_drew1) | exact HB.out)) hb); clear HO165; clear HB; have HO165 := n0_; have HO168 := n1_; have HB := n2_; clear n0_ n1_ n2_; (try clear hb); (try clear hb2); (try clear hk); (try clear hi); (try clear ho0); obtain ⟨Ao63, co63, eo63⟩ := Kd.R_slice HO165.out; subst eo63; obtain ⟨Ao64, co64, eo64⟩ := Kd.R_slice HO168.out; subst eo64) | (go_at_call 14; (with_reducible refine (oubref_Ints.calls kj7 _ _ t163 _ _ t166 false _ ?side1 ?side2 ?side3 ?side4 A26.out).mono ?_); (case side1 => repeat (first | exact (Kd.R_reads' HO165.out).2.2 | (with_reducible refine Kd.C_alloc ?_ _) | (with_reducible refine Kd.C_drewN ?_ _) | (with_reducible refine Kd.C_drew ?_))); (case side2 => exact (Kd.R_reads' HO165.out).2.1); (case side3 => repeat (first | exact (Kd.R_reads' HO168.out).2.2 | (with_reducible refine Kd.C_alloc ?_ _) | (with_reducible refine Kd.C_drewN ?_ _) | (with_reducible refine Kd.C_drew ?_))); (case side4 => exact (Kd.R_reads' HO168.out).2.1); rintro e w' ⟨rfl, ⟨nd, rfl⟩⟩))
                  go_ret
                  exact ⟨by first | rfl | (simp [errW_none, errW_some] <;> rfl) | (simp [*, errW_none, errW_some] <;> rfl), by repeat (first | (with_reducible first | exact HB.out | apply below_alloc | apply pw_below_drewN | apply below_drew1) | exact HB.out)⟩
              · rw [if_neg c23] at H
                have c23b0 : (t162 == x9_7) = false := beq_eq_false_iff_ne.mpr c23
                have c23b1 : (t162 != x9_7) = true := bne_iff_ne.mpr c23
                obtain rfl := Option.some.inj H
                go_wp2_with (first | ((with_reducible refine gate_callee (f := 8) rfl ?_); refine goesL_ (some 17) rfl rfl Try.func8 (by kernel_rfl) rfl #[] rfl (by (try simp only [List.map_toArray, List.map_cons, List.map_nil]); first | done | rfl | (simp only [List.length_drop, List.length_take]; rfl)) ?_; (with_reducible refine (oublaw7_first.calls kj7  true _ A14.out).mono ?_); rintro e w65 ⟨rfl, hb⟩; refine ⟨_, rfl, ?_⟩; have n0_ := Aside0.mk (below_step (by repeat (first | (with_reducible first | exact HB.out | apply below_alloc | apply pw_below_drewN | apply below_drew1) | exact HB.out)) hb); clear HB; have HB := n0_; clear n0_; (try clear hb); (try clear hb2); (try clear hk); (try clear hi)) | (go_at_call 10; (with_reducible refine (tree_May.calls a0 t158 _ A16.out).mono ?_); rintro e w' ⟨rfl, ⟨nd, rfl⟩⟩) | (go_at_call 9; (with_reducible refine (oubref7_MayHeight.calls a0 t159 _ A17.out).mono ?_); rintro e w' ⟨rfl, ⟨nd, rfl⟩⟩) | (go_at_call 11; (with_reducible refine (tree_Buckets.calls a0 t160 _ A19.out).mono ?_); rintro e w66 ⟨rfl, hb⟩; have n0_ := Aside0.mk (below_step (by repeat (first | (with_reducible first | exact HB.out | apply below_alloc | apply pw_below_drewN | apply below_drew1) | exact HB.out)) hb); clear HB; have HB := n0_; clear n0_; (try clear hb); (try clear hb2); (try clear hk); (try clear hi)) | (go_at_call 12; (with_reducible refine (oubref7_Buckets.calls a0 t161 _ A20.out).mono ?_); rintro e w' ⟨rfl, ⟨nd, rfl⟩⟩) | (go_at_call 13; (with_reducible refine (tree_Leaves.calls a0 t162 _ A22.out).mono ?_); rintro e w' ⟨rfl, ⟨nd, rfl⟩⟩))
                go_ret
                exact ⟨by first | rfl | (simp [errW_none, errW_some] <;> rfl) | (simp [*, errW_none, errW_some] <;> rfl), by repeat (first | (with_reducible first | exact HB.out | apply below_alloc | apply pw_below_drewN | apply below_drew1) | exact HB.out)⟩
            · rw [if_neg c21] at H
              have c21b0 : (t160 == t161) = false := beq_eq_false_iff_ne.mpr c21
              have c21b1 : (t160 != t161) = true := bne_iff_ne.mpr c21
              obtain rfl := Option.some.inj H
              go_wp2_with (first | ((with_reducible refine gate_callee (f := 8) rfl ?_); refine goesL_ (some 17) rfl rfl Try.func8 (by kernel_rfl) rfl #[] rfl (by (try simp only [List.map_toArray, List.map_cons, List.map_nil]); first | done | rfl | (simp only [List.length_drop, List.length_take]; rfl)) ?_; (with_reducible refine (oublaw7_first.calls kj7  true _ A14.out).mono ?_); rintro e w67 ⟨rfl, hb⟩; refine ⟨_, rfl, ?_⟩; have n0_ := Aside0.mk (below_step (by repeat (first | (with_reducible first | exact HB.out | apply below_alloc | apply pw_below_drewN | apply below_drew1) | exact HB.out)) hb); clear HB; have HB := n0_; clear n0_; (try clear hb); (try clear hb2); (try clear hk); (try clear hi)) | (go_at_call 10; (with_reducible refine (tree_May.calls a0 t158 _ A16.out).mono ?_); rintro e w' ⟨rfl, ⟨nd, rfl⟩⟩) | (go_at_call 9; (with_reducible refine (oubref7_MayHeight.calls a0 t159 _ A17.out).mono ?_); rintro e w' ⟨rfl, ⟨nd, rfl⟩⟩) | (go_at_call 11; (with_reducible refine (tree_Buckets.calls a0 t160 _ A19.out).mono ?_); rintro e w68 ⟨rfl, hb⟩; have n0_ := Aside0.mk (below_step (by repeat (first | (with_reducible first | exact HB.out | apply below_alloc | apply pw_below_drewN | apply below_drew1) | exact HB.out)) hb); clear HB; have HB := n0_; clear n0_; (try clear hb); (try clear hb2); (try clear hk); (try clear hi)) | (go_at_call 12; (with_reducible refine (oubref7_Buckets.calls a0 t161 _ A20.out).mono ?_); rintro e w' ⟨rfl, ⟨nd, rfl⟩⟩))
              go_ret
              exact ⟨by first | rfl | (simp [errW_none, errW_some] <;> rfl) | (simp [*, errW_none, errW_some] <;> rfl), by repeat (first | (with_reducible first | exact HB.out | apply below_alloc | apply pw_below_drewN | apply below_drew1) | exact HB.out)⟩
          · rw [if_neg c18] at H
            have c18b0 : (t158 == t159) = false := by simpa using c18
            (try (have c18b1 : decide (t158 = t159) = false := by simpa using c18))
            (try (have c18b2 : (t158 == t159) = false := by simpa using c18))
            (try (have c18b3 : ¬ (t158 = t159) := by simpa using c18))
            clear c18
            obtain rfl := Option.some.inj H
            go_wp2_with (first | ((with_reducible refine gate_callee (f := 8) rfl ?_); refine goesL_ (some 17) rfl rfl Try.func8 (by kernel_rfl) rfl #[] rfl (by (try simp only [List.map_toArray, List.map_cons, List.map_nil]); first | done | rfl | (simp only [List.length_drop, List.length_take]; rfl)) ?_; (with_reducible refine (oublaw7_first.calls kj7  true _ A14.out).mono ?_); rintro e w69 ⟨rfl, hb⟩; refine ⟨_, rfl, ?_⟩; have n0_ := Aside0.mk (below_step (by repeat (first | (with_reducible first | exact HB.out | apply below_alloc | apply pw_below_drewN | apply below_drew1) | exact HB.out)) hb); clear HB; have HB := n0_; clear n0_; (try clear hb); (try clear hb2); (try clear hk); (try clear hi)) | (go_at_call 10; (with_reducible refine (tree_May.calls a0 t158 _ A16.out).mono ?_); rintro e w' ⟨rfl, ⟨nd, rfl⟩⟩) | (go_at_call 9; (with_reducible refine (oubref7_MayHeight.calls a0 t159 _ A17.out).mono ?_); rintro e w' ⟨rfl, ⟨nd, rfl⟩⟩))
            go_ret
            exact ⟨by first | rfl | (simp [errW_none, errW_some] <;> rfl) | (simp [*, errW_none, errW_some] <;> rfl), by repeat (first | (with_reducible first | exact HB.out | apply below_alloc | apply pw_below_drewN | apply below_drew1) | exact HB.out)⟩
        · replace c15 := Bool.eq_false_iff.mpr c15
          subst c15
          have H1 : (some false) = some r := by rw [if_neg (show ¬ (false = true) by decide)] at H; exact H
          clear H
          have H := H1
          clear H1
          obtain rfl := Option.some.inj H
          go_wp2_with (first | ((with_reducible refine gate_callee (f := 8) rfl ?_); refine goesL_ (some 17) rfl rfl Try.func8 (by kernel_rfl) rfl #[] rfl (by (try simp only [List.map_toArray, List.map_cons, List.map_nil]); first | done | rfl | (simp only [List.length_drop, List.length_take]; rfl)) ?_; (with_reducible refine (oublaw7_first.calls kj7  false _ A14.out).mono ?_); rintro e w70 ⟨rfl, hb⟩; refine ⟨_, rfl, ?_⟩; have n0_ := Aside0.mk (below_step (by repeat (first | (with_reducible first | exact HB.out | apply below_alloc | apply pw_below_drewN | apply below_drew1) | exact HB.out)) hb); clear HB; have HB := n0_; clear n0_; (try clear hb); (try clear hb2); (try clear hk); (try clear hi)))
          go_ret
          exact ⟨by first | rfl | (simp [errW_none, errW_some] <;> rfl) | (simp [*, errW_none, errW_some] <;> rfl), by repeat (first | (with_reducible first | exact HB.out | apply below_alloc | apply pw_below_drewN | apply below_drew1) | exact HB.out)⟩
  · replace c6 := Bool.eq_false_iff.mpr c6
    subst c6
    have H1 : (some false) = some r := by rw [if_neg (show ¬ (false = true) by decide)] at H; exact H
    clear H
    have H := H1
    clear H1
    obtain rfl := Option.some.inj H
    go_enter Try.func3, Try.ntmps3
    go_wp2_with (first | ((with_reducible refine gate_callee (f := 8) rfl ?_); refine goesL_ (some 10) rfl rfl Try.func8 (by kernel_rfl) rfl #[] rfl (by (try simp only [List.map_toArray, List.map_cons, List.map_nil]); first | done | rfl | (simp only [List.length_drop, List.length_take]; rfl)) ?_; (with_reducible refine (oublaw7_first.calls k  false _ A5.out).mono ?_); rintro e w71 ⟨rfl, hb⟩; refine ⟨_, rfl, ?_⟩; have n0_ := Aside0.mk (below_step (by repeat (first | (with_reducible first | exact HB.out | apply below_alloc | apply pw_below_drewN | apply below_drew1) | exact HB.out)) hb); clear HB; have HB := n0_; clear n0_; (try clear hb); (try clear hb2); (try clear hk); (try clear hi)))
    go_ret
    exact ⟨by first | rfl | (simp [errW_none, errW_some] <;> rfl) | (simp [*, errW_none, errW_some] <;> rfl), by repeat (first | (with_reducible first | exact HB.out | apply below_alloc | apply pw_below_drewN | apply below_drew1) | exact HB.out)⟩

/-- THE ONE PURE STATEMENT of oublaw7_TreeTells: yours. -/
def oublaw7_TreeTells.Pure : Prop := ∀ (a0 : Int) (a1 : Int) (a2 : Int) (a3 : Int), (Lit.int .i64 a0).wf = true → (Lit.int .i64 a1).wf = true → (Lit.int .i64 a2).wf = true → (Lit.int .i64 a3).wf = true → ∃ k, oublaw7_TreeTells.f k a0 a1 a2 a3 = some true
theorem oublaw7_TreeTells.walk (P : oublaw7_TreeTells.Pure) (a0 : Int) (a1 : Int) (a2 : Int) (a3 : Int) (w : World) (w0 : (Lit.int .i64 a0).wf = true) (w1 : (Lit.int .i64 a1).wf = true) (w2 : (Lit.int .i64 a2).wf = true) (w3 : (Lit.int .i64 a3).wf = true) :
    Calls Try.prog 3 #[.int .i64 a0, .int .i64 a1, .int .i64 a2, .int .i64 a3] w fun e w' => e = .returned (.bool true) ∧ Below w.heap.size w w' := by
  obtain ⟨k, h⟩ := P a0 a1 a2 a3 w0 w1 w2 w3
  refine (oublaw7_TreeTells.calls k a0 a1 a2 a3 true w h).mono ?_
  rintro e w' ⟨rfl, hd⟩
  exact ⟨rfl, hd⟩

end Go.Proofs.Ytkeinmbommabbaa.PTreeTells
