-- Written by gprint.py (wip/tools), which runs the kit's printer with some contracts given. Lean checks it.
import Derived.Test.YtfliapankgdeeaaGreatProg
import Derived.Below
import Derived.Deep.Draws
import Derived.Deep.AppendLies
import Derived.Maps.AppendAt
import Derived.OwnWalk
import Derived.Laws.BytesArg
import Derived.Laws.MakeOwn
import Derived.Laws.OwnMore
import Derived.Deep.OwnRows
import Derived.Tactics
import Derived.Lib.ConvBytes
import Derived.Laws.Slices
import Derived.WalkKit
import Derived.KernelRfl
import Derived.RowKit3
import Derived.Deep.LoopGhost
import Derived.Deep.QuietTactic
import Derived.BigQuiet
import Derived.WideLaws
import Derived.Deep.DeepCutAuto
import Derived.Deep.CutBlock
import Derived.Deep.RegionHeld3
import Derived.Laws.Rows
import Derived.Lib.AppendStr
import Derived.ArgAppend
import Derived.Laws.IdiomCopy
import Derived.OrdersHeld
import Derived.Laws.BitsLemmas
import Derived.RowKit
import Derived.Test.YtfliapankgdeeaaGreatGSort
import Derived.Test.YtfliapankgdeeaaGreatGx
import Derived.Test.YtfliapankgdeeaaGreatEvM
import Derived.Test.YtfliapankgdeeaaGreatWWords
import Derived.Test.YtfliapankgdeeaaGreatWLast
import Derived.Test.YtfliapankgdeeaaGreatWTab
import Derived.Test.YtfliapankgdeeaaGreatWQPut
import Derived.Test.YtfliapankgdeeaaGreatWApart
import Derived.Test.YtfliapankgdeeaaGreatWArr
import Derived.Test.YtfliapankgdeeaaGreatWZeros
import Derived.Test.YtfliapankgdeeaaGreatWFoot
import Derived.Test.YtfliapankgdeeaaGreatWKept
import Derived.Test.YtfliapankgdeeaaGreatWShare
import Derived.Test.YtfliapankgdeeaaGreatWN
import Derived.Test.YtfliapankgdeeaaGreatWEqStruct
import Derived.Test.YtfliapankgdeeaaGreatWRepsOne
import Derived.Test.YtfliapankgdeeaaGreatWGuard
import Derived.Test.YtfliapankgdeeaaGreatWNEv
import Derived.Test.YtfliapankgdeeaaGreatWMore
namespace Go.Proofs.YtfliapankgdeeaaGreat.F
open Go.RowKit Go.Proofs.YtfliapankgdeeaaGreat.G Go.Proofs.YtfliapankgdeeaaGreatW.PrintWords Go.Proofs.YtfliapankgdeeaaGreatW.PrintLast Go.Proofs.YtfliapankgdeeaaGreatW.PrintMore
attribute [local go_sem] max2_int min2_int max_two min_two max_three min_three max_four min_four   -- for this text's walks alone
set_option linter.unusedVariables false
set_option linter.unusedSimpArgs false



def errW : Option Int → Value
 | none => .nilIface
 | some c => .iface 0 (.int .i64 c)
theorem errW_none : errW none = .nilIface := rfl
theorem errW_some (c : Int) : errW (some c) = .iface 0 (.int .i64 c) := rfl

theorem info3 : (Tryz.prog.info? 3).map (fun i => (i.zero, i.size, i.bytes)) = some (some (.int .i64 0), 1, 8) := by kernel_rfl
theorem info35 : (Tryz.prog.info? 35).map (fun i => (i.zero, i.size, i.bytes)) = some (some (.agg #[(.int .i64 0), (.int .i64 0)]), 2, 16) := by kernel_rfl
-- the values' own types
def rd_L1 (xs : List (List Int)) (i : Int) : (List Int) := xs.getD i.toNat ([] : List Int)
theorem at_L1 {w : World} {A : Option Addr} {n : Nat} {xs : List (List Int)} (h : Kd.C (Kd.slice 3 (Kd.int .i64)) w A n xs) (i : Int) (h0 : 0 ≤ i) (h1 : i < n) : ∃ ad A0 c0, A = some ad ∧ w.cell? (ad.add i.toNat) = some (.slice A0 (rd_L1 xs i).length c0) ∧ (rd_L1 xs i).length ≤ c0 ∧ (Kd.int .i64).C w A0 (rd_L1 xs i).length (rd_L1 xs i) := by
 obtain ⟨ad, c, e, _, hK, hc0⟩ := Kd.C_get h ([] : List Int) i h0 h1
 have hc : ∀ j u, c[j]? = some u → w.cell? (ad.add (i.toNat * 1 + j)) = some u := hc0
 obtain ⟨A0, c0, rfl, l0, g0⟩ := hK
 exact ⟨ad, A0, c0, e, by have hq := hc 0 _ rfl; rwa [Nat.mul_one, Nat.add_zero] at hq, l0, g0⟩


end Go.Proofs.YtfliapankgdeeaaGreat.F

namespace Go.Proofs.YtfliapankgdeeaaGreat.F
open Go.RowKit Go.Proofs.YtfliapankgdeeaaGreat.G Go.Proofs.YtfliapankgdeeaaGreatW.PrintWords Go.Proofs.YtfliapankgdeeaaGreatW.PrintLast Go.Proofs.YtfliapankgdeeaaGreatW.PrintMore
attribute [local go_sem] max2_int min2_int max_two min_two max_three min_three max_four min_four   -- for this text's walks alone
set_option linter.unusedVariables false
set_option linter.unusedSimpArgs false

/-! ### oublaw11_first: function 4 -/
def oublaw11_first.f (k : Nat)  : Option (Bool) := (evict_Plan.f 1 1 (([0] : List Int)) (([(⟨3, 0⟩ : S35), (⟨5, 1⟩ : S35)] : List (S35)))).bind fun bt107 => (if (bt107.2.length : Int) = 0 then (if (bt107.1.length : Int) = 2 then (if 0 < (bt107.1.length : Int) then (if ((rd_T42 bt107.1 0).f0) = 0 then ((oubref_Ints.f k ((rd_T42 bt107.1 0).f1) (([5] : List Int))).bind fun t118 => (if t118 = true then (if 1 < (bt107.1.length : Int) then (if ((rd_T42 bt107.1 1).f0) = 1 then ((oubref_Ints.f k ((rd_T42 bt107.1 1).f1) (([3] : List Int))).bind fun t124 => (if t124 = true then ((evict_Held.f k bt107.1).bind fun t125 => (some (t125 == 2))) else (some false))) else (some false)) else (none)) else (some false))) else (some false)) else (none)) else (some false)) else (some false))
theorem oublaw11_first.mono : ∀ k, LeO (oublaw11_first.f k ) (oublaw11_first.f (k + 1) ) := by
 intro  k
 unfold oublaw11_first.f
 repeat' first
   | (with_reducible exact evict_Held.mono _ _)
   | (with_reducible exact oubref_Ints.mono _ _ _)
   | (with_reducible exact LeO.refl _)
   | (with_reducible exact LeO.none _)
   | (with_reducible refine LeO.ite ?_ ?_)
   | (with_reducible refine LeO.bind ?_ (fun _ => ?_))
   | exact evict_Held.mono _ _
   | exact oubref_Ints.mono _ _ _
   | exact LeO.none _
   | refine LeO.ite ?_ ?_
   | refine LeO.bind ?_ (fun _ => ?_)
set_option maxHeartbeats 8000000 in
set_option maxRecDepth 100000 in
theorem oublaw11_first.calls (k : Nat)  (r : Bool) (w : World) (HT : Aside0 (r = true)) (h : oublaw11_first.f k  = some r) :
  Calls Tryz.prog 4 #[] w fun e w' => e = .returned (.bool r) ∧ Below w.heap.size w w' := by
 have hu35 := Tryz.underlying35
 have HB := Aside0.mk (Below.refl w.heap.size w)
 have H : ((evict_Plan.f 1 1 (([0] : List Int)) (([(⟨3, 0⟩ : S35), (⟨5, 1⟩ : S35)] : List (S35)))).bind fun bt107 => (if (bt107.2.length : Int) = 0 then (if (bt107.1.length : Int) = 2 then (if 0 < (bt107.1.length : Int) then (if ((rd_T42 bt107.1 0).f0) = 0 then ((oubref_Ints.f k ((rd_T42 bt107.1 0).f1) (([5] : List Int))).bind fun t118 => (if t118 = true then (if 1 < (bt107.1.length : Int) then (if ((rd_T42 bt107.1 1).f0) = 1 then ((oubref_Ints.f k ((rd_T42 bt107.1 1).f1) (([3] : List Int))).bind fun t124 => (if t124 = true then ((evict_Held.f k bt107.1).bind fun t125 => (some (t125 == 2))) else (some false))) else (some false)) else (none)) else (some false))) else (some false)) else (none)) else (some false)) else (some false))) = some r := h
 clear h
 obtain ⟨y101, hy101⟩ : ∃ y_ : List Int, y_ = (([0] : List Int)) := ⟨_, rfl⟩
 replace H : ((evict_Plan.f 1 1 y101 (([(⟨3, 0⟩ : S35), (⟨5, 1⟩ : S35)] : List (S35)))).bind fun bt107 => (if (bt107.2.length : Int) = 0 then (if (bt107.1.length : Int) = 2 then (if 0 < (bt107.1.length : Int) then (if ((rd_T42 bt107.1 0).f0) = 0 then ((oubref_Ints.f k ((rd_T42 bt107.1 0).f1) (([5] : List Int))).bind fun t118 => (if t118 = true then (if 1 < (bt107.1.length : Int) then (if ((rd_T42 bt107.1 1).f0) = 1 then ((oubref_Ints.f k ((rd_T42 bt107.1 1).f1) (([3] : List Int))).bind fun t124 => (if t124 = true then ((evict_Held.f k bt107.1).bind fun t125 => (some (t125 == 2))) else (some false))) else (some false)) else (none)) else (some false))) else (some false)) else (none)) else (some false)) else (some false))) = some r := by first | (rw [hy101]; with_reducible exact H) | (have H2_ := (Option.bind_some _ _).symm.trans H; rw [hy101]; with_reducible exact H2_) | (have H2_ := (Option.bind_some _ _).symm.trans H; with_reducible exact H2_) | with_reducible exact H | (rw [hy101]; exact H) | exact H
 have Ny101 := Aside0.mk hy101
 clear hy101
 obtain ⟨y104, hy104⟩ : ∃ y_ : List (S35), y_ = (([(⟨3, 0⟩ : S35), (⟨5, 1⟩ : S35)] : List (S35))) := ⟨_, rfl⟩
 replace H : ((evict_Plan.f 1 1 y101 y104).bind fun bt107 => (if (bt107.2.length : Int) = 0 then (if (bt107.1.length : Int) = 2 then (if 0 < (bt107.1.length : Int) then (if ((rd_T42 bt107.1 0).f0) = 0 then ((oubref_Ints.f k ((rd_T42 bt107.1 0).f1) (([5] : List Int))).bind fun t118 => (if t118 = true then (if 1 < (bt107.1.length : Int) then (if ((rd_T42 bt107.1 1).f0) = 1 then ((oubref_Ints.f k ((rd_T42 bt107.1 1).f1) (([3] : List Int))).bind fun t124 => (if t124 = true then ((evict_Held.f k bt107.1).bind fun t125 => (some (t125 == 2))) else (some false))) else (some false)) else (none)) else (some false))) else (some false)) else (none)) else (some false)) else (some false))) = some r := by first | (rw [hy104]; with_reducible exact H) | (have H2_ := (Option.bind_some _ _).symm.trans H; rw [hy104]; with_reducible exact H2_) | (have H2_ := (Option.bind_some _ _).symm.trans H; with_reducible exact H2_) | with_reducible exact H | (rw [hy104]; exact H) | exact H
 have Ny104 := Aside0.mk hy104
 clear hy104
 replace H := Option.bind_eq_some_iff.mp H
 obtain ⟨⟨t107, t108⟩, A10, H⟩ := H
 replace H : (if (t108.length : Int) = 0 then (if (t107.length : Int) = 2 then (if 0 < (t107.length : Int) then (if ((rd_T42 t107 0).f0) = 0 then ((oubref_Ints.f k ((rd_T42 t107 0).f1) (([5] : List Int))).bind fun t118 => (if t118 = true then (if 1 < (t107.length : Int) then (if ((rd_T42 t107 1).f0) = 1 then ((oubref_Ints.f k ((rd_T42 t107 1).f1) (([3] : List Int))).bind fun t124 => (if t124 = true then ((evict_Held.f k t107).bind fun t125 => (some (t125 == 2))) else (some false))) else (some false)) else (none)) else (some false))) else (some false)) else (none)) else (some false)) else (some false)) = some r := H
 have A1 := Aside0.mk A10
 clear A10
 by_cases c2 : (t108.length : Int) = 0
 ·rw [if_pos c2] at H
  have c2b0 : ((t108.length : Int) == 0) = true := beq_iff_eq.mpr c2
  have c2b1 : ((t108.length : Int) != 0) = false := bne_eq_false_iff_eq.mpr c2
  clear c2
  by_cases c3 : (t107.length : Int) = 2
  ·rw [if_pos c3] at H
   have c3b0 : ((t107.length : Int) == 2) = true := beq_iff_eq.mpr c3
   have c3b1 : ((t107.length : Int) != 2) = false := bne_eq_false_iff_eq.mpr c3
   clear c3
   by_cases c4 : 0 < (t107.length : Int)
   ·rw [if_pos c4] at H
    have c4b0 : decide (0 < (t107.length : Int)) = true := decide_eq_true c4
    have c4b1 : decide (0 < t107.length) = true := decide_eq_true (by omega)
    clear c4
    by_cases c5 : ((rd_T42 t107 0).f0) = 0
    ·rw [if_pos c5] at H
     have c5b0 : (((rd_T42 t107 0).f0) == 0) = true := beq_iff_eq.mpr c5
     have c5b1 : (((rd_T42 t107 0).f0) != 0) = false := bne_eq_false_iff_eq.mpr c5
     clear c5
     obtain ⟨y115, hy115⟩ : ∃ y_ : List Int, y_ = (([5] : List Int)) := ⟨_, rfl⟩
     replace H : ((oubref_Ints.f k ((rd_T42 t107 0).f1) y115).bind fun t118 => (if t118 = true then (if 1 < (t107.length : Int) then (if ((rd_T42 t107 1).f0) = 1 then ((oubref_Ints.f k ((rd_T42 t107 1).f1) (([3] : List Int))).bind fun t124 => (if t124 = true then ((evict_Held.f k t107).bind fun t125 => (some (t125 == 2))) else (some false))) else (some false)) else (none)) else (some false))) = some r := by first | (rw [hy115]; with_reducible exact H) | (have H2_ := (Option.bind_some _ _).symm.trans H; rw [hy115]; with_reducible exact H2_) | (have H2_ := (Option.bind_some _ _).symm.trans H; with_reducible exact H2_) | with_reducible exact H | (rw [hy115]; exact H) | exact H
     have Ny115 := Aside0.mk hy115
     clear hy115
     replace H := Option.bind_eq_some_iff.mp H
     obtain ⟨t118, A60, H⟩ := H
     replace H : (if t118 = true then (if 1 < (t107.length : Int) then (if ((rd_T42 t107 1).f0) = 1 then ((oubref_Ints.f k ((rd_T42 t107 1).f1) (([3] : List Int))).bind fun t124 => (if t124 = true then ((evict_Held.f k t107).bind fun t125 => (some (t125 == 2))) else (some false))) else (some false)) else (none)) else (some false)) = some r := H
     have A6 := Aside0.mk A60
     clear A60
     by_cases c7 : t118 = true
     ·subst c7
      have H1 : (if 1 < (t107.length : Int) then (if ((rd_T42 t107 1).f0) = 1 then ((oubref_Ints.f k ((rd_T42 t107 1).f1) (([3] : List Int))).bind fun t124 => (if t124 = true then ((evict_Held.f k t107).bind fun t125 => (some (t125 == 2))) else (some false))) else (some false)) else (none)) = some r := by rw [if_pos rfl] at H; exact H
      clear H
      have H := H1
      clear H1
      by_cases c8 : 1 < (t107.length : Int)
      ·rw [if_pos c8] at H
       have c8b0 : decide (1 < (t107.length : Int)) = true := decide_eq_true c8
       have c8b1 : decide (1 < t107.length) = true := decide_eq_true (by omega)
       clear c8
       by_cases c9 : ((rd_T42 t107 1).f0) = 1
       ·rw [if_pos c9] at H
        have c9b0 : (((rd_T42 t107 1).f0) == 1) = true := beq_iff_eq.mpr c9
        have c9b1 : (((rd_T42 t107 1).f0) != 1) = false := bne_eq_false_iff_eq.mpr c9
        clear c9
        obtain ⟨y121, hy121⟩ : ∃ y_ : List Int, y_ = (([3] : List Int)) := ⟨_, rfl⟩
        replace H : ((oubref_Ints.f k ((rd_T42 t107 1).f1) y121).bind fun t124 => (if t124 = true then ((evict_Held.f k t107).bind fun t125 => (some (t125 == 2))) else (some false))) = some r := by first | (rw [hy121]; with_reducible exact H) | (have H2_ := (Option.bind_some _ _).symm.trans H; rw [hy121]; with_reducible exact H2_) | (have H2_ := (Option.bind_some _ _).symm.trans H; with_reducible exact H2_) | with_reducible exact H | (rw [hy121]; exact H) | exact H
        have Ny121 := Aside0.mk hy121
        clear hy121
        replace H := Option.bind_eq_some_iff.mp H
        obtain ⟨t124, A100, H⟩ := H
        replace H : (if t124 = true then ((evict_Held.f k t107).bind fun t125 => (some (t125 == 2))) else (some false)) = some r := H
        have A10 := Aside0.mk A100
        clear A100
        by_cases c11 : t124 = true
        ·subst c11
         have H1 : ((evict_Held.f k t107).bind fun t125 => (some (t125 == 2))) = some r := by rw [if_pos rfl] at H; exact H
         clear H
         have H := H1
         clear H1
         replace H := Option.bind_eq_some_iff.mp H
         obtain ⟨t125, A120, H⟩ := H
         replace H : (some (t125 == 2)) = some r := H
         have A12 := Aside0.mk A120
         clear A120
         obtain rfl := Option.some.inj H
         go_enter Tryz.func4, Tryz.ntmps4
         go_wp2_with (first | ((with_reducible refine gate_dst (N := 4) rfl ?_); (try (refine gate_guard (by rfl) ?_; dsimp only)); refine Kd.R_lit (Kd.int .i64) _ 3 ?hg (N := 4) ?hd (xs := ([0] : List Int)) (inner := [.int .i64 0]) (ok := fun _ => True) (okp := fun _ => True) ?hr ?hp (fun _ hk => hk) trivial (Below.refl _ _) (Nat.le_refl _) (by simp) ?_; (case hd => rfl); (case hg => rfl); (case hr => first | (go_simp; done) | (go_simp; rfl)); (case hp => exact (Reps.one (show Kd.M (Kd.int .i64) _ _ _ 0 [.int .i64 0] from rfl) (Reps.none _ _))); intro v102 w13 ho14 hb hg_ hnew_; clear hg_ hnew_; (first | rw [← Ny101.out] at ho14 | (simp only [Int.reduceToNat] at ho14; rw [← Ny101.out] at ho14)); have n0_ := Aside0.mk (Kd.R_lower ho14 (below_size (by repeat (first | (with_reducible first | exact HB.out | apply below_alloc | apply pw_below_drewN | apply below_drew1) | exact HB.out)))); have n1_ := Aside0.mk (below_step (by repeat (first | (with_reducible first | exact HB.out | apply below_alloc | apply pw_below_drewN | apply below_drew1) | exact HB.out)) hb); clear HB; have HO103 := n0_; have HB := n1_; clear n0_ n1_; clear hb ho14) | ((with_reducible refine gate_dst (N := 7) rfl ?_); (try (refine gate_guard (by rfl) ?_; dsimp only)); refine Kd.R_lit k35 _ 35 ?hg (N := 7) ?hd (xs := ([(⟨3, 0⟩ : S35), (⟨5, 1⟩ : S35)] : List (S35))) (inner := [.int .i64 3, .int .i64 0, .int .i64 5, .int .i64 1]) (ok := fun _ => True) (okp := fun _ => True) ?hr ?hp (fun _ hk => hk) trivial (Below.refl _ _) (Nat.le_refl _) (by simp) ?_; (case hd => rfl); (case hg => rfl); (case hr => first | (go_simp; done) | (go_simp; rfl)); (case hp => exact (Reps.c2 (show Kd.M k35 _ _ _ (⟨3, 0⟩ : S35) [.int .i64 3, .int .i64 0] from (k35_mkM _ _ _ (⟨3, 0⟩ : S35) )) (Reps.c2 (show Kd.M k35 _ _ _ (⟨5, 1⟩ : S35) [.int .i64 5, .int .i64 1] from (k35_mkM _ _ _ (⟨5, 1⟩ : S35) )) (Reps.none _ _)))); intro v105 w15 ho16 hb hg_ hnew_; clear hg_ hnew_; (first | rw [← Ny104.out] at ho16 | (simp only [Int.reduceToNat] at ho16; rw [← Ny104.out] at ho16)); have n0_ := Aside0.mk (Kd.R_below (by (with_reducible repeat (first | apply Kd.R_alloc | apply Kd.R_drewN | apply Kd.R_drew)); exact HO103.out) hb); have n1_ := Aside0.mk (Kd.R_lower ho16 (below_size (by repeat (first | (with_reducible first | exact HB.out | apply below_alloc | apply pw_below_drewN | apply below_drew1) | exact HB.out)))); have n2_ := Aside0.mk (below_step (by repeat (first | (with_reducible first | exact HB.out | apply below_alloc | apply pw_below_drewN | apply below_drew1) | exact HB.out)) hb); clear HO103; clear HB; have HO103 := n0_; have HO106 := n1_; have HB := n2_; clear n0_ n1_ n2_; clear hb ho16; obtain ⟨Ao17, co17, eo17⟩ := Kd.R_slice HO103.out; subst eo17; obtain ⟨Ao18, co18, eo18⟩ := Kd.R_slice HO106.out; subst eo18) | ((with_reducible refine gate_callee (f := 6) rfl ?_); refine goesL_ (some 8) rfl rfl Tryz.func6 (by kernel_rfl) rfl #[.int .i64 1, .int .i64 1, .slice Ao17 y101.length co17, .slice Ao18 y104.length co18] rfl (by (try simp only [List.map_toArray, List.map_cons, List.map_nil]); first | done | rfl | (simp only [List.length_drop, List.length_take]; rfl)) ?_; (with_reducible refine (evict_Plan.calls 1 1 _ _ y101 _ _ y104 t107 t108 _ ?side1 ?side2 ?side3 ?side4 A1.out).mono ?_); (case side1 => repeat (first | exact (Kd.R_reads' HO103.out).2.2 | (with_reducible refine Kd.C_alloc ?_ _) | (with_reducible refine Kd.C_drewN ?_ _) | (with_reducible refine Kd.C_drew ?_))); (case side2 => exact (Kd.R_reads' HO103.out).2.1); (case side3 => repeat (first | exact (Kd.R_reads' HO106.out).2.2 | (with_reducible refine Kd.C_alloc ?_ _) | (with_reducible refine Kd.C_drewN ?_ _) | (with_reducible refine Kd.C_drew ?_))); (case side4 => exact (Kd.R_reads' HO106.out).2.1); rintro e w19 ⟨v109, v111, rfl, ho0, ho1, hb⟩; refine ⟨_, rfl, ?_⟩; have n0_ := Aside0.mk (Kd.R_elder' (by (with_reducible repeat (first | apply Kd.R_alloc | apply Kd.R_drewN | apply Kd.R_drew)); exact HO103.out) (Kd.R_base ho1) hb); have n1_ := Aside0.mk (Kd.R_below (by (with_reducible repeat (first | apply Kd.R_alloc | apply Kd.R_drewN | apply Kd.R_drew)); exact HO106.out) hb); have n2_ := Aside0.mk (Kd.S_lower (Kd.S_new' ho0 (Kd.R_lt (by (with_reducible repeat (first | apply Kd.R_alloc | apply Kd.R_drewN | apply Kd.R_drew)); exact HO103.out))) (below_size (by repeat (first | (with_reducible first | exact HB.out | apply below_alloc | apply pw_below_drewN | apply below_drew1) | exact HB.out)))); have n3_ := Aside0.mk (Kd.R_lower (Kd.R_new' ho1 (Kd.R_lt (by (with_reducible repeat (first | apply Kd.R_alloc | apply Kd.R_drewN | apply Kd.R_drew)); exact HO103.out))) (below_size (by repeat (first | (with_reducible first | exact HB.out | apply below_alloc | apply pw_below_drewN | apply below_drew1) | exact HB.out)))); have n4_ := Aside0.mk (below_step (by repeat (first | (with_reducible first | exact HB.out | apply below_alloc | apply pw_below_drewN | apply below_drew1) | exact HB.out)) hb); clear HO103; clear HO106; clear HB; have HO103 := n0_; have HO106 := n1_; have HO110 := n2_; have HO112 := n3_; have HB := n4_; clear n0_ n1_ n2_ n3_ n4_; (try clear hb); (try clear hb2); (try clear hk); (try clear hi); (try clear ho0); (try clear ho1); obtain ⟨Ao20, co20, eo20⟩ := Kd.R_slice HO112.out; subst eo20; obtain ⟨Ao21, co21, eo21⟩ := Kd.S_slice HO110.out; subst eo21; have p113 : 0 ≤ (0 : Int) := (by omega); have q113 : 0 < (t107.length : Int) := of_decide_eq_true (by first | (with_reducible assumption) | assumption); obtain ⟨ad113, A113_1, c113_1, e113, hx113_0, hx113_1, hl113_1, hi113_1⟩ := at_T42 (Kd.S_reads' HO110.out).2.2 0 p113 q113; cases e113; obtain ⟨ce113, hce113, hMe113, hcc113⟩ := Kd.S_get HO110.out z42 0 p113 (by first | exact q113 | exact of_decide_eq_true (by first | (with_reducible assumption) | assumption) | (have e_ := (Kd.S_reads' HO110.out).1; omega)); obtain ⟨ve113_1, rfl, ge113_1⟩ := k42_openM hMe113; have hv113_1 := hcc113 1 _ rfl; rw [add_field _ _ 1 (by omega)] at hv113_1; replace hv113_1 := Option.some.inj (hv113_1.symm.trans hx113_1); rw [hv113_1] at ge113_1; have HL113_1 := Aside0.mk (show Kd.R (Kd.int .i64) 3 _ _ _ _ ((rd_T42 t107 0).f1) from ge113_1); clear hv113_1 ge113_1; clear hcc113 hce113; have qi113 : (0 < t107.length) = True := eq_true (by omega); (try rw [show ((0 : Int)).toNat = 0 from rfl] at hx113_0); (try rw [show 0 * 2 = 0 from rfl] at hx113_0); (try rw [Addr.add_zero'] at hx113_0); (try rw [show ((0 : Int)).toNat = 0 from rfl] at hx113_1); (try rw [show 0 * 2 = 0 from rfl] at hx113_1); (try rw [Addr.add_zero'] at hx113_1); have HR113_1 := Aside0.mk hi113_1; have HC113_1 := Aside0.mk hl113_1; clear hi113_1 hl113_1; replace p113 := eq_true p113; replace q113 := eq_true q113; have p114 : 0 ≤ (0 : Int) := (by omega); have q114 : 0 < (t107.length : Int) := of_decide_eq_true (by first | (with_reducible assumption) | assumption); obtain ⟨ad114, A114_1, c114_1, e114, hx114_0, hx114_1, hl114_1, hi114_1⟩ := at_T42 (Kd.S_reads' HO110.out).2.2 0 p114 q114; obtain rfl : ad113 = ad114 := (by injection e114); obtain ⟨ce114, hce114, hMe114, hcc114⟩ := Kd.S_get HO110.out z42 0 p114 (by first | exact q114 | exact of_decide_eq_true (by first | (with_reducible assumption) | assumption) | (have e_ := (Kd.S_reads' HO110.out).1; omega)); obtain ⟨ve114_1, rfl, ge114_1⟩ := k42_openM hMe114; have hv114_1 := hcc114 1 _ rfl; rw [add_field _ _ 1 (by omega)] at hv114_1; replace hv114_1 := Option.some.inj (hv114_1.symm.trans hx114_1); rw [hv114_1] at ge114_1; have HL114_1 := Aside0.mk (show Kd.R (Kd.int .i64) 3 _ _ _ _ ((rd_T42 t107 0).f1) from ge114_1); clear hv114_1 ge114_1; clear hcc114 hce114; have qi114 : (0 < t107.length) = True := eq_true (by omega); (try rw [show ((0 : Int)).toNat = 0 from rfl] at hx114_0); (try rw [show 0 * 2 = 0 from rfl] at hx114_0); (try rw [Addr.add_zero'] at hx114_0); (try rw [show ((0 : Int)).toNat = 0 from rfl] at hx114_1); (try rw [show 0 * 2 = 0 from rfl] at hx114_1); (try rw [Addr.add_zero'] at hx114_1); have HR114_1 := Aside0.mk hi114_1; have HC114_1 := Aside0.mk hl114_1; clear hi114_1 hl114_1; replace p114 := eq_true p114; replace q114 := eq_true q114; have ea_ := Option.some.inj (hx113_1.symm.trans hx114_1); injection ea_ with ea_ en_ ec_; subst ea_; subst ec_; clear en_) | ((with_reducible refine gate_dst (N := 31) rfl ?_); (try (refine gate_guard (by rfl) ?_; dsimp only)); refine Kd.R_lit (Kd.int .i64) _ 3 ?hg (N := 31) ?hd (xs := ([5] : List Int)) (inner := [.int .i64 5]) (ok := fun _ => True) (okp := fun _ => True) ?hr ?hp (fun _ hk => hk) trivial (Below.refl _ _) (Nat.le_refl _) (by simp) ?_; (case hd => rfl); (case hg => rfl); (case hr => first | (go_simp; done) | (go_simp; rfl)); (case hp => exact (Reps.one (show Kd.M (Kd.int .i64) _ _ _ 5 [.int .i64 5] from rfl) (Reps.none _ _))); intro v116 w22 ho23 hb hg_ hnew_; clear hg_ hnew_; (first | rw [← Ny115.out] at ho23 | (simp only [Int.reduceToNat] at ho23; rw [← Ny115.out] at ho23)); have n0_ := Aside0.mk (Kd.R_elder' (by (with_reducible repeat (first | apply Kd.R_alloc | apply Kd.R_drewN | apply Kd.R_drew)); exact HO103.out) (Kd.R_base ho23) hb); have n1_ := Aside0.mk (Kd.R_below (by (with_reducible repeat (first | apply Kd.R_alloc | apply Kd.R_drewN | apply Kd.R_drew)); exact HO106.out) hb); have n2_ := Aside0.mk (Kd.S_elder' (by (with_reducible repeat (first | apply Kd.S_alloc | apply Kd.S_drewN | apply Kd.S_drew)); exact HO110.out) (Kd.R_base ho23) hb); have n3_ := Aside0.mk (Kd.R_elder' (by (with_reducible repeat (first | apply Kd.R_alloc | apply Kd.R_drewN | apply Kd.R_drew)); exact HO112.out) (Kd.R_base ho23) hb); have n4_ := Aside0.mk (Kd.R_elder' (by (with_reducible repeat (first | apply Kd.R_alloc | apply Kd.R_drewN | apply Kd.R_drew)); exact HL113_1.out) (Kd.R_base ho23) hb); have n5_ := Aside0.mk (Kd.R_elder' (by (with_reducible repeat (first | apply Kd.R_alloc | apply Kd.R_drewN | apply Kd.R_drew)); exact HL114_1.out) (Kd.R_base ho23) hb); have n6_ := Aside0.mk (Kd.R_lower (Kd.R_new' (Kd.R_new' (Kd.R_new' (Kd.R_new' ho23 (Kd.R_lt (by (with_reducible repeat (first | apply Kd.R_alloc | apply Kd.R_drewN | apply Kd.R_drew)); exact HO103.out))) (Kd.R_lt (by (with_reducible repeat (first | apply Kd.R_alloc | apply Kd.R_drewN | apply Kd.R_drew)); exact HO112.out))) (Kd.R_lt (by (with_reducible repeat (first | apply Kd.R_alloc | apply Kd.R_drewN | apply Kd.R_drew)); exact HL113_1.out))) (Kd.R_lt (by (with_reducible repeat (first | apply Kd.R_alloc | apply Kd.R_drewN | apply Kd.R_drew)); exact HL114_1.out))) (below_size (by repeat (first | (with_reducible first | exact HB.out | apply below_alloc | apply pw_below_drewN | apply below_drew1) | exact HB.out)))); have n7_ := Aside0.mk (Kd.C_below (by repeat (first | (with_reducible exact HR113_1.out) | (with_reducible refine Kd.C_alloc ?_ _) | (with_reducible refine Kd.C_drewN ?_ _) | (with_reducible refine Kd.C_drew ?_) | exact HR113_1.out)) hb); have n8_ := Aside0.mk (Kd.C_below (by repeat (first | (with_reducible exact HR114_1.out) | (with_reducible refine Kd.C_alloc ?_ _) | (with_reducible refine Kd.C_drewN ?_ _) | (with_reducible refine Kd.C_drew ?_) | exact HR114_1.out)) hb); have n9_ := Aside0.mk (below_step (by repeat (first | (with_reducible first | exact HB.out | apply below_alloc | apply pw_below_drewN | apply below_drew1) | exact HB.out)) hb); clear HO103; clear HO106; clear HO110; clear HO112; clear HL113_1; clear HL114_1; clear HR113_1; clear HR114_1; clear HB; have HO103 := n0_; have HO106 := n1_; have HO110 := n2_; have HO112 := n3_; have HL113_1 := n4_; have HL114_1 := n5_; have HO117 := n6_; have HR113_1 := n7_; have HR114_1 := n8_; have HB := n9_; clear n0_ n1_ n2_ n3_ n4_ n5_ n6_ n7_ n8_ n9_; clear hb ho23; obtain ⟨Ao24, co24, eo24⟩ := Kd.R_slice HO117.out; subst eo24) | (go_at_call 11; (with_reducible refine (oubref_Ints.calls k _ _ ((rd_T42 t107 0).f1) _ _ y115 true _ ?side1 ?side2 ?side3 ?side4 A6.out).mono ?_); clear A6; (case side1 => repeat (first | exact (by repeat (first | (with_reducible exact HR114_1.out) | (with_reducible refine Kd.C_alloc ?_ _) | (with_reducible refine Kd.C_drewN ?_ _) | (with_reducible refine Kd.C_drew ?_) | exact HR114_1.out)) | (with_reducible refine Kd.C_alloc ?_ _) | (with_reducible refine Kd.C_drewN ?_ _) | (with_reducible refine Kd.C_drew ?_))); (case side2 => exact HC114_1.out); (case side3 => repeat (first | exact (Kd.R_reads' HO117.out).2.2 | (with_reducible refine Kd.C_alloc ?_ _) | (with_reducible refine Kd.C_drewN ?_ _) | (with_reducible refine Kd.C_drew ?_))); (case side4 => exact (Kd.R_reads' HO117.out).2.1); rintro e w' ⟨rfl, ⟨nd, rfl⟩⟩; have p119 : 0 ≤ (1 : Int) := (by omega); have q119 : 1 < (t107.length : Int) := of_decide_eq_true (by first | (with_reducible assumption) | assumption); obtain ⟨ad119, A119_1, c119_1, e119, hx119_0, hx119_1, hl119_1, hi119_1⟩ := at_T42 (Kd.S_reads' HO110.out).2.2 1 p119 q119; obtain rfl : ad113 = ad119 := (by injection e119); obtain ⟨ce119, hce119, hMe119, hcc119⟩ := Kd.S_get HO110.out z42 1 p119 (by first | exact q119 | exact of_decide_eq_true (by first | (with_reducible assumption) | assumption) | (have e_ := (Kd.S_reads' HO110.out).1; omega)); obtain ⟨ve119_1, rfl, ge119_1⟩ := k42_openM hMe119; have hv119_1 := hcc119 1 _ rfl; rw [add_field _ _ 1 (by omega)] at hv119_1; replace hv119_1 := Option.some.inj (hv119_1.symm.trans hx119_1); rw [hv119_1] at ge119_1; have HL119_1 := Aside0.mk (show Kd.R (Kd.int .i64) 3 _ _ _ _ ((rd_T42 t107 1).f1) from ge119_1); clear hv119_1 ge119_1; clear hcc119 hce119; (try simp only [show (1 : Int).toNat = 1 from rfl, Nat.reduceMul, Nat.reduceEqDiff, Go.Addr.add, ↓reduceIte] at hx119_0); (try simp only [show (1 : Int).toNat = 1 from rfl, Nat.reduceMul, Nat.reduceEqDiff, Go.Addr.add, ↓reduceIte] at hx119_1); have qi119 : (1 < t107.length) = True := eq_true (by omega); (try rw [show ((1 : Int)).toNat = 1 from rfl] at hx119_0); (try rw [show 1 * 2 = 2 from rfl] at hx119_0); (try rw [show ((1 : Int)).toNat = 1 from rfl] at hx119_1); (try rw [show 1 * 2 = 2 from rfl] at hx119_1); have HR119_1 := Aside0.mk hi119_1; have HC119_1 := Aside0.mk hl119_1; clear hi119_1 hl119_1; replace p119 := eq_true p119; replace q119 := eq_true q119; have p120 : 0 ≤ (1 : Int) := (by omega); have q120 : 1 < (t107.length : Int) := of_decide_eq_true (by first | (with_reducible assumption) | assumption); obtain ⟨ad120, A120_1, c120_1, e120, hx120_0, hx120_1, hl120_1, hi120_1⟩ := at_T42 (Kd.S_reads' HO110.out).2.2 1 p120 q120; obtain rfl : ad113 = ad120 := (by injection e120); obtain ⟨ce120, hce120, hMe120, hcc120⟩ := Kd.S_get HO110.out z42 1 p120 (by first | exact q120 | exact of_decide_eq_true (by first | (with_reducible assumption) | assumption) | (have e_ := (Kd.S_reads' HO110.out).1; omega)); obtain ⟨ve120_1, rfl, ge120_1⟩ := k42_openM hMe120; have hv120_1 := hcc120 1 _ rfl; rw [add_field _ _ 1 (by omega)] at hv120_1; replace hv120_1 := Option.some.inj (hv120_1.symm.trans hx120_1); rw [hv120_1] at ge120_1; have HL120_1 := Aside0.mk (show Kd.R (Kd.int .i64) 3 _ _ _ _ ((rd_T42 t107 1).f1) from ge120_1); clear hv120_1 ge120_1; clear hcc120 hce120; (try simp only [show (1 : Int).toNat = 1 from rfl, Nat.reduceMul, Nat.reduceEqDiff, Go.Addr.add, ↓reduceIte] at hx120_0); (try simp only [show (1 : Int).toNat = 1 from rfl, Nat.reduceMul, Nat.reduceEqDiff, Go.Addr.add, ↓reduceIte] at hx120_1); have qi120 : (1 < t107.length) = True := eq_true (by omega); (try rw [show ((1 : Int)).toNat = 1 from rfl] at hx120_0); (try rw [show 1 * 2 = 2 from rfl] at hx120_0); (try rw [show ((1 : Int)).toNat = 1 from rfl] at hx120_1); (try rw [show 1 * 2 = 2 from rfl] at hx120_1); have HR120_1 := Aside0.mk hi120_1; have HC120_1 := Aside0.mk hl120_1; clear hi120_1 hl120_1; replace p120 := eq_true p120; replace q120 := eq_true q120; have ea_ := Option.some.inj (hx119_1.symm.trans hx120_1); injection ea_ with ea_ en_ ec_; subst ea_; subst ec_; clear en_) | ((with_reducible refine gate_dst (N := 46) rfl ?_); (try (refine gate_guard (by rfl) ?_; dsimp only)); refine Kd.R_lit (Kd.int .i64) _ 3 ?hg (N := 46) ?hd (xs := ([3] : List Int)) (inner := [.int .i64 3]) (ok := fun _ => True) (okp := fun _ => True) ?hr ?hp (fun _ hk => hk) trivial (Below.refl _ _) (Nat.le_refl _) (by simp) ?_; (case hd => rfl); (case hg => rfl); (case hr => first | (go_simp; done) | (go_simp; rfl)); (case hp => exact (Reps.one (show Kd.M (Kd.int .i64) _ _ _ 3 [.int .i64 3] from rfl) (Reps.none _ _))); intro v122 w25 ho26 hb hg_ hnew_; clear hg_ hnew_; (first | rw [← Ny121.out] at ho26 | (simp only [Int.reduceToNat] at ho26; rw [← Ny121.out] at ho26)); have n0_ := Aside0.mk (Kd.R_elder' (by (with_reducible repeat (first | apply Kd.R_alloc | apply Kd.R_drewN | apply Kd.R_drew)); exact HO103.out) (Kd.R_base ho26) hb); have n1_ := Aside0.mk (Kd.R_below (by (with_reducible repeat (first | apply Kd.R_alloc | apply Kd.R_drewN | apply Kd.R_drew)); exact HO106.out) hb); have n2_ := Aside0.mk (Kd.S_elder' (by (with_reducible repeat (first | apply Kd.S_alloc | apply Kd.S_drewN | apply Kd.S_drew)); exact HO110.out) (Kd.R_base ho26) hb); have n3_ := Aside0.mk (Kd.R_elder' (by (with_reducible repeat (first | apply Kd.R_alloc | apply Kd.R_drewN | apply Kd.R_drew)); exact HO112.out) (Kd.R_base ho26) hb); have n4_ := Aside0.mk (Kd.R_elder' (by (with_reducible repeat (first | apply Kd.R_alloc | apply Kd.R_drewN | apply Kd.R_drew)); exact HL113_1.out) (Kd.R_base ho26) hb); have n5_ := Aside0.mk (Kd.R_elder' (by (with_reducible repeat (first | apply Kd.R_alloc | apply Kd.R_drewN | apply Kd.R_drew)); exact HL114_1.out) (Kd.R_base ho26) hb); have n6_ := Aside0.mk (Kd.R_elder' (by (with_reducible repeat (first | apply Kd.R_alloc | apply Kd.R_drewN | apply Kd.R_drew)); exact HO117.out) (Kd.R_base ho26) hb); have n7_ := Aside0.mk (Kd.R_elder' (by (with_reducible repeat (first | apply Kd.R_alloc | apply Kd.R_drewN | apply Kd.R_drew)); exact HL119_1.out) (Kd.R_base ho26) hb); have n8_ := Aside0.mk (Kd.R_elder' (by (with_reducible repeat (first | apply Kd.R_alloc | apply Kd.R_drewN | apply Kd.R_drew)); exact HL120_1.out) (Kd.R_base ho26) hb); have n9_ := Aside0.mk (Kd.R_lower (Kd.R_new' (Kd.R_new' (Kd.R_new' (Kd.R_new' (Kd.R_new' (Kd.R_new' (Kd.R_new' ho26 (Kd.R_lt (by (with_reducible repeat (first | apply Kd.R_alloc | apply Kd.R_drewN | apply Kd.R_drew)); exact HO103.out))) (Kd.R_lt (by (with_reducible repeat (first | apply Kd.R_alloc | apply Kd.R_drewN | apply Kd.R_drew)); exact HO112.out))) (Kd.R_lt (by (with_reducible repeat (first | apply Kd.R_alloc | apply Kd.R_drewN | apply Kd.R_drew)); exact HL113_1.out))) (Kd.R_lt (by (with_reducible repeat (first | apply Kd.R_alloc | apply Kd.R_drewN | apply Kd.R_drew)); exact HL114_1.out))) (Kd.R_lt (by (with_reducible repeat (first | apply Kd.R_alloc | apply Kd.R_drewN | apply Kd.R_drew)); exact HO117.out))) (Kd.R_lt (by (with_reducible repeat (first | apply Kd.R_alloc | apply Kd.R_drewN | apply Kd.R_drew)); exact HL119_1.out))) (Kd.R_lt (by (with_reducible repeat (first | apply Kd.R_alloc | apply Kd.R_drewN | apply Kd.R_drew)); exact HL120_1.out))) (below_size (by repeat (first | (with_reducible first | exact HB.out | apply below_alloc | apply pw_below_drewN | apply below_drew1) | exact HB.out)))); have n10_ := Aside0.mk (Kd.C_below (by repeat (first | (with_reducible exact HR113_1.out) | (with_reducible refine Kd.C_alloc ?_ _) | (with_reducible refine Kd.C_drewN ?_ _) | (with_reducible refine Kd.C_drew ?_) | exact HR113_1.out)) hb); have n11_ := Aside0.mk (Kd.C_below (by repeat (first | (with_reducible exact HR114_1.out) | (with_reducible refine Kd.C_alloc ?_ _) | (with_reducible refine Kd.C_drewN ?_ _) | (with_reducible refine Kd.C_drew ?_) | exact HR114_1.out)) hb); have n12_ := Aside0.mk (Kd.C_below (by repeat (first | (with_reducible exact HR119_1.out) | (with_reducible refine Kd.C_alloc ?_ _) | (with_reducible refine Kd.C_drewN ?_ _) | (with_reducible refine Kd.C_drew ?_) | exact HR119_1.out)) hb); have n13_ := Aside0.mk (Kd.C_below (by repeat (first | (with_reducible exact HR120_1.out) | (with_reducible refine Kd.C_alloc ?_ _) | (with_reducible refine Kd.C_drewN ?_ _) | (with_reducible refine Kd.C_drew ?_) | exact HR120_1.out)) hb); have n14_ := Aside0.mk (below_step (by repeat (first | (with_reducible first | exact HB.out | apply below_alloc | apply pw_below_drewN | apply below_drew1) | exact HB.out)) hb); clear HO103; clear HO106; clear HO110; clear HO112; clear HL113_1; clear HL114_1; clear HO117; clear HL119_1; clear HL120_1; clear HR113_1; clear HR114_1; clear HR119_1; clear HR120_1; clear HB; have HO103 := n0_; have HO106 := n1_; have HO110 := n2_; have HO112 := n3_; have HL113_1 := n4_; have HL114_1 := n5_; have HO117 := n6_; have HL119_1 := n7_; have HL120_1 := n8_; have HO123 := n9_; have HR113_1 := n10_; have HR114_1 := n11_; have HR119_1 := n12_; have HR120_1 := n13_; have HB := n14_; clear n0_ n1_ n2_ n3_ n4_ n5_ n6_ n7_ n8_ n9_ n10_ n11_ n12_ n13_ n14_; clear hb ho26; obtain ⟨Ao27, co27, eo27⟩ := Kd.R_slice HO123.out; subst eo27) | (go_at_call 11; (with_reducible refine (oubref_Ints.calls k _ _ ((rd_T42 t107 1).f1) _ _ y121 true _ ?side1 ?side2 ?side3 ?side4 A10.out).mono ?_); clear A10; (case side1 => repeat (first | exact (by repeat (first | (with_reducible exact HR120_1.out) | (with_reducible refine Kd.C_alloc ?_ _) | (with_reducible refine Kd.C_drewN ?_ _) | (with_reducible refine Kd.C_drew ?_) | exact HR120_1.out)) | (with_reducible refine Kd.C_alloc ?_ _) | (with_reducible refine Kd.C_drewN ?_ _) | (with_reducible refine Kd.C_drew ?_))); (case side2 => exact HC120_1.out); (case side3 => repeat (first | exact (Kd.R_reads' HO123.out).2.2 | (with_reducible refine Kd.C_alloc ?_ _) | (with_reducible refine Kd.C_drewN ?_ _) | (with_reducible refine Kd.C_drew ?_))); (case side4 => exact (Kd.R_reads' HO123.out).2.1); rintro e w' ⟨rfl, ⟨nd, rfl⟩⟩) | (go_at_call 14; (with_reducible refine (evict_Held.calls k _ _ t107 t125 _ ?side1 ?side2 A12.out).mono ?_); (case side1 => repeat (first | exact (Kd.S_reads' HO110.out).2.2 | (with_reducible refine Kd.C_alloc ?_ _) | (with_reducible refine Kd.C_drewN ?_ _) | (with_reducible refine Kd.C_drew ?_))); (case side2 => exact (Kd.S_reads' HO110.out).2.1); rintro e w28 ⟨rfl, hb⟩; have n0_ := Aside0.mk (Kd.R_below (by (with_reducible repeat (first | apply Kd.R_alloc | apply Kd.R_drewN | apply Kd.R_drew)); exact HO103.out) hb); have n1_ := Aside0.mk (Kd.R_below (by (with_reducible repeat (first | apply Kd.R_alloc | apply Kd.R_drewN | apply Kd.R_drew)); exact HO106.out) hb); have n2_ := Aside0.mk (Kd.S_below (by (with_reducible repeat (first | apply Kd.S_alloc | apply Kd.S_drewN | apply Kd.S_drew)); exact HO110.out) hb); have n3_ := Aside0.mk (Kd.R_below (by (with_reducible repeat (first | apply Kd.R_alloc | apply Kd.R_drewN | apply Kd.R_drew)); exact HO112.out) hb); have n4_ := Aside0.mk (Kd.R_below (by (with_reducible repeat (first | apply Kd.R_alloc | apply Kd.R_drewN | apply Kd.R_drew)); exact HL113_1.out) hb); have n5_ := Aside0.mk (Kd.R_below (by (with_reducible repeat (first | apply Kd.R_alloc | apply Kd.R_drewN | apply Kd.R_drew)); exact HL114_1.out) hb); have n6_ := Aside0.mk (Kd.R_below (by (with_reducible repeat (first | apply Kd.R_alloc | apply Kd.R_drewN | apply Kd.R_drew)); exact HO117.out) hb); have n7_ := Aside0.mk (Kd.R_below (by (with_reducible repeat (first | apply Kd.R_alloc | apply Kd.R_drewN | apply Kd.R_drew)); exact HL119_1.out) hb); have n8_ := Aside0.mk (Kd.R_below (by (with_reducible repeat (first | apply Kd.R_alloc | apply Kd.R_drewN | apply Kd.R_drew)); exact HL120_1.out) hb); have n9_ := Aside0.mk (Kd.R_below (by (with_reducible repeat (first | apply Kd.R_alloc | apply Kd.R_drewN | apply Kd.R_drew)); exact HO123.out) hb); have n10_ := Aside0.mk (Kd.C_below (by repeat (first | (with_reducible exact HR113_1.out) | (with_reducible refine Kd.C_alloc ?_ _) | (with_reducible refine Kd.C_drewN ?_ _) | (with_reducible refine Kd.C_drew ?_) | exact HR113_1.out)) hb); have n11_ := Aside0.mk (Kd.C_below (by repeat (first | (with_reducible exact HR114_1.out) | (with_reducible refine Kd.C_alloc ?_ _) | (with_reducible refine Kd.C_drewN ?_ _) | (with_reducible refine Kd.C_drew ?_) | exact HR114_1.out)) hb); have n12_ := Aside0.mk (Kd.C_below (by repeat (first | (with_reducible exact HR119_1.out) | (with_reducible refine Kd.C_alloc ?_ _) | (with_reducible refine Kd.C_drewN ?_ _) | (with_reducible refine Kd.C_drew ?_) | exact HR119_1.out)) hb); have n13_ := Aside0.mk (Kd.C_below (by repeat (first | (with_reducible exact HR120_1.out) | (with_reducible refine Kd.C_alloc ?_ _) | (with_reducible refine Kd.C_drewN ?_ _) | (with_reducible refine Kd.C_drew ?_) | exact HR120_1.out)) hb); have n14_ := Aside0.mk (below_step (by repeat (first | (with_reducible first | exact HB.out | apply below_alloc | apply pw_below_drewN | apply below_drew1) | exact HB.out)) hb); clear HO103; clear HO106; clear HO110; clear HO112; clear HL113_1; clear HL114_1; clear HO117; clear HL119_1; clear HL120_1; clear HO123; clear HR113_1; clear HR114_1; clear HR119_1; clear HR120_1; clear HB; have HO103 := n0_; have HO106 := n1_; have HO110 := n2_; have HO112 := n3_; have HL113_1 := n4_; have HL114_1 := n5_; have HO117 := n6_; have HL119_1 := n7_; have HL120_1 := n8_; have HO123 := n9_; have HR113_1 := n10_; have HR114_1 := n11_; have HR119_1 := n12_; have HR120_1 := n13_; have HB := n14_; clear n0_ n1_ n2_ n3_ n4_ n5_ n6_ n7_ n8_ n9_ n10_ n11_ n12_ n13_ n14_; (try clear hb); (try clear hb2); (try clear hk); (try clear hi)))
         go_ret
         exact ⟨by first | rfl | (simp [errW_none, errW_some] <;> rfl) | (simp [*, errW_none, errW_some] <;> rfl), by repeat (first | (with_reducible first | exact HB.out | apply below_alloc | apply pw_below_drewN | apply below_drew1) | exact HB.out)⟩
        ·replace c11 := Bool.eq_false_iff.mpr c11
         subst c11
         have H1 : (some false) = some r := by rw [if_neg (show ¬ (false = true) by decide)] at H; exact H
         clear H
         have H := H1
         clear H1
         exact absurd (Option.some.inj H) (by rw [HT.out]; decide)
       ·rw [if_neg c9] at H
        have c9b0 : (((rd_T42 t107 1).f0) == 1) = false := beq_eq_false_iff_ne.mpr c9
        have c9b1 : (((rd_T42 t107 1).f0) != 1) = true := bne_iff_ne.mpr c9
        exact absurd (Option.some.inj H) (by rw [HT.out]; decide)
      ·rw [if_neg c8] at H
       exact absurd H (by simp)
     ·replace c7 := Bool.eq_false_iff.mpr c7
      subst c7
      have H1 : (some false) = some r := by rw [if_neg (show ¬ (false = true) by decide)] at H; exact H
      clear H
      have H := H1
      clear H1
      exact absurd (Option.some.inj H) (by rw [HT.out]; decide)
    ·rw [if_neg c5] at H
     have c5b0 : (((rd_T42 t107 0).f0) == 0) = false := beq_eq_false_iff_ne.mpr c5
     have c5b1 : (((rd_T42 t107 0).f0) != 0) = true := bne_iff_ne.mpr c5
     exact absurd (Option.some.inj H) (by rw [HT.out]; decide)
   ·rw [if_neg c4] at H
    exact absurd H (by simp)
  ·rw [if_neg c3] at H
   have c3b0 : ((t107.length : Int) == 2) = false := beq_eq_false_iff_ne.mpr c3
   have c3b1 : ((t107.length : Int) != 2) = true := bne_iff_ne.mpr c3
   exact absurd (Option.some.inj H) (by rw [HT.out]; decide)
 ·rw [if_neg c2] at H
  have c2b0 : ((t108.length : Int) == 0) = false := beq_eq_false_iff_ne.mpr c2
  have c2b1 : ((t108.length : Int) != 0) = true := bne_iff_ne.mpr c2
  have c2b2 : ¬ (t108 = []) := fun h_ => c2 (by rw [h_]; rfl)
  exact absurd (Option.some.inj H) (by rw [HT.out]; decide)

/-- THE ONE PURE STATEMENT of oublaw11_first: yours. -/
def oublaw11_first.Pure : Prop := ∃ k, oublaw11_first.f k  = some true
theorem oublaw11_first.walk (P : oublaw11_first.Pure)  (w : World)  :
  Calls Tryz.prog 4 #[] w fun e w' => e = .returned (.bool true) ∧ Below w.heap.size w w' := by
 obtain ⟨k, h⟩ := P  
 refine (oublaw11_first.calls k  true w ⟨rfl⟩ h).mono ?_
 rintro e w' ⟨rfl, hd⟩
 exact ⟨rfl, hd⟩

end Go.Proofs.YtfliapankgdeeaaGreat.F
