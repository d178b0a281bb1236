/- Part of the proof of LawCkptWrites. -/
import Derived.Test.YtmbnomlkhmcmaaaGreatZ0
import Derived.Test.YtmbnomlkhmcmaaaGreatZ1
import Derived.Test.YtmbnomlkhmcmaaaGreatZ3
import Derived.ArgAppend
import Derived.Below
import Derived.BigQuiet
import Derived.Deep.AppendLies
import Derived.Deep.CutBlock
import Derived.Deep.DeepCutAuto
import Derived.Deep.Draws
import Derived.Deep.LoopGhost
import Derived.Deep.OwnRows
import Derived.Deep.QuietTactic
import Derived.Deep.RegionHeld3
import Derived.KernelRfl
import Derived.Laws.BitsLemmas
import Derived.Laws.BytesArg
import Derived.Laws.IdiomCopy
import Derived.Laws.MakeOwn
import Derived.Laws.OwnMore
import Derived.Laws.Rows
import Derived.Laws.Slices
import Derived.Lib.AppendStr
import Derived.Lib.ConvBytes
import Derived.Maps.AppendAt
import Derived.OrdersHeld
import Derived.OwnWalk
import Derived.RowKit
import Derived.RowKit3
import Derived.Tactics
import Derived.Test.YtmbnomlkhmcmaaaGreatProg
import Derived.WalkKit
import Derived.WideLaws
section
namespace Go.Proofs.YtmbnomlkhmcmaaaGreat.C
open Go.RowKit Go.Proofs.YtmbnomlkhmcmaaaGreatW.PrintWords Go.Proofs.YtmbnomlkhmcmaaaGreatW.PrintLast Go.Proofs.YtmbnomlkhmcmaaaGreatW.PrintMore Go.Proofs.YtmbnomlkhmcmaaaGreat.Z
attribute [local go_sem] max2_int min2_int max_two min_two max_three min_three max_four min_four
set_option linter.unusedVariables false
set_option linter.unusedSimpArgs false
def oublaw8_Place.f (a0_0 : Int) (a0_1 : Int) : Option (Int × Int) := some (a0_0, a0_1)
set_option maxHeartbeats 8000000 in
set_option maxRecDepth 100000 in
theorem oublaw8_Place.calls (a0_0 : Int) (a0_1 : Int) (r1 : Int) (r2 : Int) (w : World) (h : oublaw8_Place.f a0_0 a0_1 = some (r1, r2)) :
  Calls Tryz.prog 144 #[.agg #[.int .i64 a0_0, .int .i64 a0_1]] w fun e w' => e = .returned (.agg #[.int .i64 r1, .int .i64 r2]) ∧ Below w.heap.size w w' := by
 have hu39 := Tryz.underlying39
 have hu72 := Tryz.underlying72
 have HB := Aside0.mk (Below.refl w.heap.size w)
 have H : (some (a0_0, a0_1)) = some (r1, r2) := h
 clear h
 simp only [Option.some.injEq, Prod.mk.injEq] at H
 obtain ⟨rfl, rfl⟩ := H
 go_enter Tryz.func144, Tryz.ntmps144
 go_wp2_with (first | ((with_reducible refine gate_dst (N := 1) rfl ?_); refine box_event ?hg (N := 1) ?hd (cs := #[.int .i64 a0_0, .int .i64 a0_1]) (t := 39) ?hr ?_; (case hd => rfl); (case hg => rfl); (case hr => first | (go_simp; done) | (go_simp; rfl)); intro gb101 hg w2 hbox hb; have n0_ := Aside0.mk (below_step (by repeat (first | (with_reducible first | exact HB.out | apply below_alloc | apply pw_below_drewN | apply below_drew1) | exact HB.out)) hb); have n1_ := Aside0.mk (hbox); have n2_ := Aside0.mk ((by rw [hg]; exact (below_size (by repeat (first | (with_reducible first | exact HB.out | apply below_alloc | apply pw_below_drewN | apply below_drew1) | exact HB.out))) : w.heap.size ≤ gb101)); have n3_ := Aside0.mk ((by rw [hg]; exact (below_size (by repeat (first | (with_reducible first | exact HB.out | apply below_alloc | apply pw_below_drewN | apply below_drew1) | exact HB.out))) : w.heap.size ≤ gb101)); clear HB; have HB := n0_; have BK101 := n1_; have GW101 := n2_; have GE101 := n3_; clear n0_ n1_ n2_ n3_; clear hb hbox hg) | ((with_reducible refine gate_dst (N := 2) rfl ?_); refine box_event ?hg (N := 2) ?hd (cs := #[.int .i64 0, .int .i64 0]) (t := 72) ?hr ?_; (case hd => rfl); (case hg => rfl); (case hr => first | (go_simp; done) | (go_simp; rfl)); intro gb102 hg w3 hbox hb; have n0_ := Aside0.mk (blk_below (g := gb101) (o := .cells #[.int .i64 a0_0, .int .i64 a0_1] 39 (0, 0)) (by (with_reducible repeat (first | refine blk_drewN ?_ _ | refine blk_drew ?_ | refine blk_alloc ?_ _)); exact BK101.out) hb); have n1_ := Aside0.mk (below_step (by repeat (first | (with_reducible first | exact HB.out | apply below_alloc | apply pw_below_drewN | apply below_drew1 | refine below_set ?_ GE101.out) | exact HB.out)) hb); have n2_ := Aside0.mk (hbox); have n3_ := Aside0.mk ((by rw [hg]; exact (below_size (by repeat (first | (with_reducible first | exact HB.out | apply below_alloc | apply pw_below_drewN | apply below_drew1 | refine below_set ?_ GE101.out) | exact HB.out))) : w.heap.size ≤ gb102)); have n4_ := Aside0.mk ((by rw [hg]; exact (below_size (by repeat (first | (with_reducible first | exact HB.out | apply below_alloc | apply pw_below_drewN | apply below_drew1 | refine below_set ?_ GE101.out) | exact HB.out))) : w.heap.size ≤ gb102)); have n5_ := Aside0.mk ((by rw [hg]; exact Nat.ne_of_lt (blk_lt (g := gb101) (o := .cells #[.int .i64 a0_0, .int .i64 a0_1] 39 (0, 0)) (by (with_reducible repeat (first | refine blk_drewN ?_ _ | refine blk_drew ?_ | refine blk_alloc ?_ _)); exact BK101.out)) : gb101 ≠ gb102)); have n6_ := Aside0.mk ((by rw [hg]; exact Nat.ne_of_gt (blk_lt (g := gb101) (o := .cells #[.int .i64 a0_0, .int .i64 a0_1] 39 (0, 0)) (by (with_reducible repeat (first | refine blk_drewN ?_ _ | refine blk_drew ?_ | refine blk_alloc ?_ _)); exact BK101.out)) : gb102 ≠ gb101)); clear BK101; clear HB; have BK101 := n0_; have HB := n1_; have BK102 := n2_; have GW102 := n3_; have GE102 := n4_; have NB101_102 := n5_; have NB102_101 := n6_; clear n0_ n1_ n2_ n3_ n4_ n5_ n6_; clear hb hbox hg; have hnb4 := NB101_102.out; have hnc4 := NB102_101.out; have hcz5_0 : w3.cell? ⟨gb101, 0, none⟩ = some (.int .i64 a0_0) := (blk_cell BK101.out 0).trans rfl; have hcz5_1 : w3.cell? ⟨gb101, 1, none⟩ = some (.int .i64 a0_1) := (blk_cell BK101.out 1).trans rfl; have hfz5_0 := blk_frozen BK101.out 0; have hfz5_1 := blk_frozen BK101.out 1; have hcz6_0 : w3.cell? ⟨gb102, 0, none⟩ = some (.int .i64 0) := (blk_cell BK102.out 0).trans rfl; have hcz6_1 : w3.cell? ⟨gb102, 1, none⟩ = some (.int .i64 0) := (blk_cell BK102.out 1).trans rfl; have hfz6_0 := blk_frozen BK102.out 0; have hfz6_1 := blk_frozen BK102.out 1))
 refine bodyPost_ret (results_cell_row rfl _ _ gb102 72 #[.int .i64 a0_0, .int .i64 a0_1] (0, 0) _ rfl (by (with_reducible repeat (first | refine blk_drewN ?_ _ | refine blk_drew ?_ | refine blk_alloc ?_ _)); refine blk_put (cs := #[.int .i64 a0_0, .int .i64 0]) ?_ 1 _ rfl; (with_reducible repeat (first | refine blk_drewN ?_ _ | refine blk_drew ?_ | refine blk_alloc ?_ _)); refine blk_put (cs := #[.int .i64 0, .int .i64 0]) ?_ 0 _ rfl; (with_reducible repeat (first | refine blk_drewN ?_ _ | refine blk_drew ?_ | refine blk_alloc ?_ _)); exact BK102.out) Tryz.underlying72 rfl (by kernel_rfl)) rfl ?_
 exact ⟨by first | rfl | (simp [errW_none, errW_some] <;> rfl) | (simp [*, errW_none, errW_some] <;> rfl), by repeat (first | (with_reducible first | exact HB.out | apply below_alloc | apply pw_below_drewN | apply below_drew1 | refine below_set ?_ GE101.out | refine below_set ?_ GE102.out) | exact HB.out)⟩
def oublaw8_Places.l0 : Nat → List (S39) → List (S72) → Int → Option ((List (S72)))
 | 0, _, _, _ => none
 | k + 1, x0, x3, x4 => if x4 < (x0.length : Int) then (if 0 ≤ x4 then ((oublaw8_Place.f ((rd_T39 x0 x4).f0) ((rd_T39 x0 x4).f1)).bind fun bt104 => (if x3.length < 8796093022208 then (oublaw8_Places.l0 k x0 (x3 ++ [(⟨bt104.1, bt104.2⟩ : S72)]) (wrap64 (x4 + 1))) else (none))) else (none)) else (some x3)
def oublaw8_Places.f (k : Nat) (l0 : List (S39)) : Option ((List (S72))) := oublaw8_Places.l0 k l0 ([] : List (S72)) 0
theorem oublaw8_Places.mono_l : ∀ k, (∀ y0 y1 y2, LeO (oublaw8_Places.l0 k y0 y1 y2) (oublaw8_Places.l0 (k + 1) y0 y1 y2))
 | 0 => fun _ _ _ r h => by simp [oublaw8_Places.l0] at h
 | k + 1 => by
  have ih0 := oublaw8_Places.mono_l k
  ·intro y0 y1 y2
   unfold oublaw8_Places.l0
   repeat' first
   | (with_reducible exact ih0 _ _ _)
   | (with_reducible exact LeO.refl _)
   | (with_reducible exact LeO.none _)
   | (with_reducible refine LeO.ite ?_ ?_)
   | (with_reducible refine LeO.bind ?_ (fun _ => ?_))
   | exact ih0 _ _ _
   | exact LeO.none _
   | refine LeO.ite ?_ ?_
   | refine LeO.bind ?_ (fun _ => ?_)
theorem oublaw8_Places.mono : ∀ a0 k, LeO (oublaw8_Places.f k a0) (oublaw8_Places.f (k + 1) a0) := by
 intro a0 k
 have ih0 := oublaw8_Places.mono_l k
 unfold oublaw8_Places.f
 repeat' first
   | (with_reducible exact ih0 _ _ _)
   | (with_reducible exact LeO.refl _)
   | (with_reducible exact LeO.none _)
   | (with_reducible refine LeO.ite ?_ ?_)
   | (with_reducible refine LeO.bind ?_ (fun _ => ?_))
   | exact ih0 _ _ _
   | exact LeO.none _
   | refine LeO.ite ?_ ?_
   | refine LeO.bind ?_ (fun _ => ?_)
set_option maxHeartbeats 8000000 in
set_option maxRecDepth 100000 in
theorem oublaw8_Places.calls (k : Nat) (A0 : Option Addr) (c0 : Nat) (l0 : List (S39)) (r : List (S72)) (w : World) (hr0 : Kd.C k39 w A0 l0.length l0) (hc0 : l0.length ≤ c0) (h : oublaw8_Places.f k l0 = some r) :
  Calls Tryz.prog 58 #[.slice A0 l0.length c0] w fun e w' => ∃ v0_ : Value, e = .returned (v0_) ∧ Kd.R k72 72 w' w.heap.size (fun _ => True) v0_ r ∧ Below w.heap.size w w' := by
 have hu39 := Tryz.underlying39
 have HR0 := Aside0.mk hr0
 have HC0 := Aside0.mk hc0
 clear hr0 hc0
 have HB := Aside0.mk (Below.refl w.heap.size w)
 have H : (oublaw8_Places.l0 k l0 ([] : List (S72)) 0) = some r := h
 clear h
 have H' := Aside0.mk H
 clear H
 go_enter Tryz.func58, Tryz.ntmps58
 go_wp2
 go_loopg [3, 4] k (fun kq v3 v4 w' => ∃ (x3_1 : List (S72)) (x4_1 : Int), v4 = .int .i64 x4_1 ∧ Aside0 (oublaw8_Places.l0 kq l0 x3_1 x4_1 = some r) ∧ Aside0 (kq ≤ k) ∧ Aside0 (Kd.R k72 72 w' w.heap.size (fun _ => True) v3 x3_1) ∧ Aside0 (Below w.heap.size w w'))
 case atStart => exact ⟨(([] : List (S72))), (0), (by first | rfl | (simp; done) | (simp [*]; done)), H', ⟨Nat.le_refl _⟩, ⟨by first | exact Kd.R_nil _ _ _ _ _ | exact Kd.N_nil _ _ _ _ _ | exact Kd.V_nil _ _ _ _ _ | exact Kd.Q_nil _ _ _ _ _ | exact Kd.S_nil _ _ _ _ _⟩, ⟨by repeat (first | (with_reducible first | exact HB.out | apply below_alloc | apply pw_below_drewN | apply below_drew1) | exact HB.out)⟩⟩
 case round =>
  clear H'
  obtain ⟨x3_1, x4_1, rfl, HA, HK1, HO_3, HB⟩ := hrel
  cases gk with
  | zero => exact absurd HA.out (by simp [oublaw8_Places.l0])
  | succ k1 =>
   have H := HA.out
   clear HA
   simp only [oublaw8_Places.l0] at H
   by_cases c2 : x4_1 < (l0.length : Int)
   ·rw [if_pos c2] at H
    have c2b0 : decide (x4_1 < (l0.length : Int)) = true := decide_eq_true c2
    clear c2
    by_cases c3 : 0 ≤ x4_1
    ·rw [if_pos c3] at H
     have c3b0 : decide (0 ≤ x4_1) = true := decide_eq_true c3
     clear c3
     replace H := Option.bind_eq_some_iff.mp H
     obtain ⟨⟨t104, t105⟩, A40, H⟩ := H
     replace H : (if x3_1.length < 8796093022208 then (oublaw8_Places.l0 k1 l0 (x3_1 ++ [(⟨t104, t105⟩ : S72)]) (wrap64 (x4_1 + 1))) else (none)) = some r := H
     have A4 := Aside0.mk A40
     clear A40
     by_cases c5 : x3_1.length < 8796093022208
     ·rw [if_pos c5] at H
      have LMc5 := Aside0.mk c5
      clear c5
      obtain ⟨y106, hy106⟩ : ∃ y_ : List (S72), y_ = (x3_1 ++ [(⟨t104, t105⟩ : S72)]) := ⟨_, rfl⟩
      replace H : (oublaw8_Places.l0 k1 l0 y106 (wrap64 (x4_1 + 1))) = some r := by first | (rw [hy106]; with_reducible exact H) | (have H2_ := (Option.bind_some _ _).symm.trans H; rw [hy106]; with_reducible exact H2_) | (have H2_ := (Option.bind_some _ _).symm.trans H; with_reducible exact H2_) | with_reducible exact H | (rw [hy106]; exact H) | exact H
      have Ny106 := Aside0.mk hy106
      clear hy106
      have H' := Aside0.mk H
      clear H
      have p103 : 0 ≤ (x4_1 : Int) := of_decide_eq_true (by first | (with_reducible assumption) | assumption)
      have q103 : x4_1 < (l0.length : Int) := of_decide_eq_true (by first | (with_reducible assumption) | assumption)
      obtain ⟨ad103, e103, hx103_0, hx103_1⟩ := at_T39 HR0.out x4_1 p103 q103
      cases e103
      replace hx103_0 := (HB.out.cell (World.block_lt_of_cell? w _ hx103_0)).trans hx103_0
      replace hx103_1 := (HB.out.cell (World.block_lt_of_cell? w _ hx103_1)).trans hx103_1
      replace p103 := eq_true p103
      replace q103 := eq_true q103
      go_wp2_with (first | ((with_reducible refine gate_callee (f := 144) rfl ?_); refine goesL_ (some 16) rfl rfl Tryz.func144 (by kernel_rfl) rfl #[.agg #[.int .i64 ((rd_T39 l0 x4_1).f0), .int .i64 ((rd_T39 l0 x4_1).f1)]] rfl (by (try simp only [List.map_toArray, List.map_cons, List.map_nil]); first | done | rfl | (simp only [List.length_drop, List.length_take]; rfl)) ?_; (with_reducible refine (oublaw8_Place.calls ((rd_T39 l0 x4_1).f0) ((rd_T39 l0 x4_1).f1) t104 t105 _ A4.out).mono ?_); rintro e w6 ⟨rfl, hb⟩; refine ⟨_, rfl, ?_⟩; have n0_ := Aside0.mk (Kd.R_below (by (with_reducible repeat (first | apply Kd.R_alloc | apply Kd.R_drewN | apply Kd.R_drew)); exact HO_3.out) hb); have n1_ := Aside0.mk (below_step (by repeat (first | (with_reducible first | exact HB.out | apply below_alloc | apply pw_below_drewN | apply below_drew1) | exact HB.out)) hb); clear HO_3; clear HB; have HO_3 := n0_; have HB := n1_; clear n0_ n1_; (try clear hb); (try clear hb2); (try clear hk); (try clear hi)) | ((with_reducible refine gate_builtin (b := .append) (xs := #[.tmp 11, .tmp 17]) rfl ?_); at_builtin; refine Kd.R_append k72 (w0 := w) w.heap.size rfl (.tmp 11) (.tmp 17) 56 72 (.agg #[(.int .i64 0), (.int .i64 0)]) 16 rfl Tryz.underlying56 info72 rfl (by decide) (by omega) u3 x3_1 (⟨t104, t105⟩ : S72) [.int .i64 t104, .int .i64 t105] (fun _ => True) (fun _ => False) rfl rfl ?aP (fun _ hk => hk.elim) ?aF ?aO ?aB ?aS ?aL ?_; (case aP => exact k72_mkM _ _ _ (⟨t104, t105⟩ : S72)); (case aB => exact (by repeat (first | (with_reducible first | exact HB.out | apply below_alloc | apply pw_below_drewN | apply below_drew1) | exact HB.out))); (case aF => exact (fun _ _ => trivial)); (case aO => exact (by (with_reducible repeat (first | apply Kd.R_alloc | apply Kd.R_drewN | apply Kd.R_drew)); exact HO_3.out)); (case aS => exact (below_size (by repeat (first | (with_reducible first | exact HB.out | apply below_alloc | apply pw_below_drewN | apply below_drew1) | exact HB.out)))); (case aL => have := LMc5.out; omega); intro v107 w7 ho hb hg hat; rw [← Ny106.out] at ho; have n0_ := Aside0.mk (hb); have n1_ := Aside0.mk (ho); clear HB; clear HO_3; have HB := n0_; have HO108 := n1_; clear n0_ n1_; clear ho hb hg hat))
      go_roundg k1
      case measure => have := HK1.out; omega
      case rel => exact ⟨(y106), (wrap64 (x4_1 + 1)), (by first | rfl | (simp; done) | (simp [*]; done)), H', ⟨by have := HK1.out; omega⟩, ⟨by (with_reducible repeat (first | apply Kd.R_alloc | apply Kd.R_drewN | apply Kd.R_drew)); exact HO108.out⟩, ⟨by repeat (first | (with_reducible first | exact HB.out | apply below_alloc | apply pw_below_drewN | apply below_drew1) | exact HB.out)⟩⟩
     ·rw [if_neg c5] at H
      exact absurd H (by simp)
    ·rw [if_neg c3] at H
     exact absurd H (by simp)
   ·rw [if_neg c2] at H
    have c2b0 : decide (x4_1 < (l0.length : Int)) = false := decide_eq_false c2
    clear c2
    obtain rfl := Option.some.inj H
    go_wp2
    go_ret
    exact ⟨_, by first | rfl | (simp [errW_none, errW_some] <;> rfl) | (simp [*, errW_none, errW_some] <;> rfl), by (with_reducible repeat (first | apply Kd.R_alloc | apply Kd.R_drewN | apply Kd.R_drew)); exact HO_3.out, by repeat (first | (with_reducible first | exact HB.out | apply below_alloc | apply pw_below_drewN | apply below_drew1) | exact HB.out)⟩
def oublaw9_Plain.l0 : Nat → List (S170) → List (S214) → Int → Option ((List (S214)))
 | 0, _, _, _ => none
 | k + 1, x0, x3, x4 => if x4 < (x0.length : Int) then (if 0 ≤ x4 then (if x3.length < 4398046511104 then (oublaw9_Plain.l0 k x0 (x3 ++ [(⟨(rd_T170 x0 x4).f0, (rd_T170 x0 x4).f1⟩ : S214)]) (wrap64 (x4 + 1))) else (none)) else (none)) else (some x3)
def oublaw9_Plain.f (k : Nat) (l0 : List (S170)) : Option ((List (S214))) := oublaw9_Plain.l0 k l0 ([] : List (S214)) 0
theorem oublaw9_Plain.mono_l : ∀ k, (∀ y0 y1 y2, LeO (oublaw9_Plain.l0 k y0 y1 y2) (oublaw9_Plain.l0 (k + 1) y0 y1 y2))
 | 0 => fun _ _ _ r h => by simp [oublaw9_Plain.l0] at h
 | k + 1 => by
  have ih0 := oublaw9_Plain.mono_l k
  ·intro y0 y1 y2
   unfold oublaw9_Plain.l0
   repeat' first
   | (with_reducible exact ih0 _ _ _)
   | (with_reducible exact LeO.refl _)
   | (with_reducible exact LeO.none _)
   | (with_reducible refine LeO.ite ?_ ?_)
   | (with_reducible refine LeO.bind ?_ (fun _ => ?_))
   | exact ih0 _ _ _
   | exact LeO.none _
   | refine LeO.ite ?_ ?_
   | refine LeO.bind ?_ (fun _ => ?_)
theorem oublaw9_Plain.mono : ∀ a0 k, LeO (oublaw9_Plain.f k a0) (oublaw9_Plain.f (k + 1) a0) := by
 intro a0 k
 have ih0 := oublaw9_Plain.mono_l k
 unfold oublaw9_Plain.f
 repeat' first
   | (with_reducible exact ih0 _ _ _)
   | (with_reducible exact LeO.refl _)
   | (with_reducible exact LeO.none _)
   | (with_reducible refine LeO.ite ?_ ?_)
   | (with_reducible refine LeO.bind ?_ (fun _ => ?_))
   | exact ih0 _ _ _
   | exact LeO.none _
   | refine LeO.ite ?_ ?_
   | refine LeO.bind ?_ (fun _ => ?_)
def oublaw9_Plain.T5 : Bool × List (List Nat × List Nat) := (true, [([], []), ([], []), ([], []), ([1, 2], [1, 2]), ([3], [3]), ([4], [4]), ([], []), ([], []), ([6, 7], [6, 7]), ([8], [8]), ([9], [9]), ([5, 10], [5, 10]), ([11], [11]), ([0, 12], [0, 12]), ([13, 13, 0, 1, 2, 3, 4, 5, 6, 7, 8, 9, 10, 11, 12, 13], [0, 13])])
def oublaw9_Plain.B5 : List Nat := [0, 0, 0, 6, 14, 30, 0, 0, 192, 448, 960, 2046, 4094, 8191, 16383]
theorem oublaw9_Plain.tab5 : rtab .any (opsOf Tryz.f60 5) = oublaw9_Plain.T5 := by kernel_rfl
theorem oublaw9_Plain.bits5 : waitsOk oublaw9_Plain.T5.2 oublaw9_Plain.B5 = true := by kernel_rfl
set_option maxHeartbeats 8000000 in
set_option maxRecDepth 100000 in
theorem oublaw9_Plain.calls (k : Nat) (P0_ : Nat → Prop) (A0 : Option Addr) (c0 : Nat) (l0 : List (S170)) (r : List (S214)) (w : World) (hs0 : Kd.V k170 170 w w.heap.size (fun k_ => P0_ k_) (.slice A0 l0.length c0) l0) (h : oublaw9_Plain.f k l0 = some r) :
  Calls Tryz.prog 60 #[.slice A0 l0.length c0] w fun e w' => ∃ v0_ : Value, e = .returned (v0_) ∧ Kd.N k214 214 w' w.heap.size (fun k_ => (P0_ k_ ∨ w.heap.size ≤ k_)) v0_ r ∧ Below w.heap.size w w' := by
 have hu214 := Tryz.underlying214
 have HO0 := Aside0.mk (show Kd.V k170 170 w w.heap.size (fun k_ => (P0_ k_ ∨ w.heap.size ≤ k_)) (.slice A0 l0.length c0) l0 from Kd.V_mono hs0 (fun k_ hk => .inl hk))
 have HB := Aside0.mk (Below.refl w.heap.size w)
 have H : (oublaw9_Plain.l0 k l0 ([] : List (S214)) 0) = some r := h
 clear h
 have H' := Aside0.mk H
 clear H
 go_enter Tryz.func60, Tryz.ntmps60
 go_wp2
 go_loopg [3, 4] k (fun kq v3 v4 w' => ∃ (x3_1 : List (S214)) (x4_1 : Int), v4 = .int .i64 x4_1 ∧ Aside0 (oublaw9_Plain.l0 kq l0 x3_1 x4_1 = some r) ∧ Aside0 (kq ≤ k) ∧ Aside0 (Kd.V k170 170 w' w.heap.size (fun k_ => (P0_ k_ ∨ w.heap.size ≤ k_) ∧ some k_ ≠ (v3 : Value).ownBlock) (.slice A0 l0.length c0) l0) ∧ Aside0 (Kd.N k214 214 w' w.heap.size (fun k_ => (P0_ k_ ∨ w.heap.size ≤ k_)) v3 x3_1) ∧ Aside0 (Below w.heap.size w w'))
 case atStart => exact ⟨(([] : List (S214))), (0), (by first | rfl | (simp; done) | (simp [*]; done)), H', ⟨Nat.le_refl _⟩, ⟨by (with_reducible repeat (first | apply Kd.V_alloc | apply Kd.V_drewN | apply Kd.V_drew)); exact Kd.V_mono HO0.out (fun _ hk => ⟨hk, (by simp [Value.ownBlock])⟩)⟩, ⟨by first | exact Kd.S_nil _ _ _ _ _ | exact Kd.N_nil _ _ _ _ _ | exact Kd.V_nil _ _ _ _ _ | exact Kd.Q_nil _ _ _ _ _ | exact Kd.R_nil _ _ _ _ _⟩, ⟨by repeat (first | (with_reducible first | exact HB.out | apply below_alloc | apply pw_below_drewN | apply below_drew1) | exact HB.out)⟩⟩
 case round =>
  clear H'
  obtain ⟨x3_1, x4_1, rfl, HA, HK1, HO_0, HO_3, HB⟩ := hrel
  cases gk with
  | zero => exact absurd HA.out (by simp [oublaw9_Plain.l0])
  | succ k1 =>
   have H := HA.out
   clear HA
   simp only [oublaw9_Plain.l0] at H
   by_cases c2 : x4_1 < (l0.length : Int)
   ·rw [if_pos c2] at H
    have c2b0 : decide (x4_1 < (l0.length : Int)) = true := decide_eq_true c2
    clear c2
    by_cases c3 : 0 ≤ x4_1
    ·rw [if_pos c3] at H
     have c3b0 : decide (0 ≤ x4_1) = true := decide_eq_true c3
     clear c3
     by_cases c4 : x3_1.length < 4398046511104
     ·rw [if_pos c4] at H
      have LMc4 := Aside0.mk c4
      clear c4
      obtain ⟨y116, hy116⟩ : ∃ y_ : List (S214), y_ = (x3_1 ++ [(⟨(rd_T170 l0 x4_1).f0, (rd_T170 l0 x4_1).f1⟩ : S214)]) := ⟨_, rfl⟩
      replace H : (oublaw9_Plain.l0 k1 l0 y116 (wrap64 (x4_1 + 1))) = some r := by first | (rw [hy116]; with_reducible exact H) | (have H2_ := (Option.bind_some _ _).symm.trans H; rw [hy116]; with_reducible exact H2_) | (have H2_ := (Option.bind_some _ _).symm.trans H; with_reducible exact H2_) | with_reducible exact H | (rw [hy116]; exact H) | exact H
      have Ny116 := Aside0.mk hy116
      clear hy116
      have H' := Aside0.mk H
      clear H
      try go_wp2
      have n0_ := Aside0.mk (Kd.V_drew HO_0.out)
      have n1_ := Aside0.mk (Kd.N_drew HO_3.out)
      have n2_ := Aside0.mk (below_drew1 HB.out)
      clear HO_0
      clear HO_3
      clear HB
      have HO_0 := n0_
      have HO_3 := n1_
      have HB := n2_
      clear n0_ n1_ n2_
      have p114 : 0 ≤ (x4_1 : Int) := of_decide_eq_true (by first | (with_reducible assumption) | assumption)
      have q114 : x4_1 < (l0.length : Int) := of_decide_eq_true (by first | (with_reducible assumption) | assumption)
      obtain ⟨ad114, A114_1, c114_1, e114, hx114_0, hx114_1, hl114_1, hi114_1⟩ := at_T170 (Kd.V_reads' HO_0.out).2.2 x4_1 p114 q114
      cases e114
      obtain ⟨ce114, hce114, hMe114, hcc114⟩ := Kd.V_get HO_0.out z170 x4_1 p114 (by first | exact q114 | exact of_decide_eq_true (by first | (with_reducible assumption) | assumption) | (have e_ := (Kd.V_reads' HO_0.out).1; omega))
      obtain ⟨ua114_1, uc114_1, rfl, ul114_1, ge114_1⟩ := k170_openF hMe114
      have hv114_1 := hcc114 1 _ rfl
      rw [add_field _ _ 1 (by omega)] at hv114_1
      replace hv114_1 := Option.some.inj (hv114_1.symm.trans hx114_1)
      injection hv114_1 with hva_ hvn_ hvc_
      rw [hva_] at ge114_1
      rw [hvc_] at ul114_1
      have HL114_1 := Aside0.mk (show Kd.V (Kd.int .u8) 5 _ w.heap.size _ _ ((rd_T170 l0 x4_1).f1) from Kd.V_mk ul114_1 ge114_1)
      clear hva_ hvn_ hvc_ ge114_1 ul114_1
      clear hcc114 hce114
      have HR114_1 := Aside0.mk hi114_1
      have HC114_1 := Aside0.mk hl114_1
      clear hi114_1 hl114_1
      replace p114 := eq_true p114
      replace q114 := eq_true q114
      have p115 : 0 ≤ (x4_1 : Int) := of_decide_eq_true (by first | (with_reducible assumption) | assumption)
      have q115 : x4_1 < (l0.length : Int) := of_decide_eq_true (by first | (with_reducible assumption) | assumption)
      obtain ⟨ad115, A115_1, c115_1, e115, hx115_0, hx115_1, hl115_1, hi115_1⟩ := at_T170 (Kd.V_reads' HO_0.out).2.2 x4_1 p115 q115
      obtain rfl : ad114 = ad115 := (by injection e115)
      obtain ⟨ce115, hce115, hMe115, hcc115⟩ := Kd.V_get HO_0.out z170 x4_1 p115 (by first | exact q115 | exact of_decide_eq_true (by first | (with_reducible assumption) | assumption) | (have e_ := (Kd.V_reads' HO_0.out).1; omega))
      obtain ⟨ua115_1, uc115_1, rfl, ul115_1, ge115_1⟩ := k170_openF hMe115
      have hv115_1 := hcc115 1 _ rfl
      rw [add_field _ _ 1 (by omega)] at hv115_1
      replace hv115_1 := Option.some.inj (hv115_1.symm.trans hx115_1)
      injection hv115_1 with hva_ hvn_ hvc_
      rw [hva_] at ge115_1
      rw [hvc_] at ul115_1
      have HL115_1 := Aside0.mk (show Kd.V (Kd.int .u8) 5 _ w.heap.size _ _ ((rd_T170 l0 x4_1).f1) from Kd.V_mk ul115_1 ge115_1)
      clear hva_ hvn_ hvc_ ge115_1 ul115_1
      clear hcc115 hce115
      have HR115_1 := Aside0.mk hi115_1
      have HC115_1 := Aside0.mk hl115_1
      clear hi115_1 hl115_1
      replace p115 := eq_true p115
      replace q115 := eq_true q115
      have ea_ := Option.some.inj (hx114_1.symm.trans hx115_1)
      injection ea_ with ea_ en_ ec_
      subst ea_
      subst ec_
      clear en_
      refine start_ (n := 15) (S := fun w' => w'.cell? (ad114.add ((x4_1).toNat * 2)) = some (.int .i64 ((rd_T170 l0 x4_1).f0)) ∧ w'.cell? ⟨(ad114.add ((x4_1).toNat * 2)).block, (ad114.add ((x4_1).toNat * 2)).off + 1, none⟩ = some (.slice A114_1 ((rd_T170 l0 x4_1).f1).length c114_1) ∧ w'.cell? (ad114.add ((x4_1).toNat * 2)) = some (.int .i64 ((rd_T170 l0 x4_1).f0)) ∧ w'.cell? ⟨(ad114.add ((x4_1).toNat * 2)).block, (ad114.add ((x4_1).toNat * 2)).off + 1, none⟩ = some (.slice A114_1 ((rd_T170 l0 x4_1).f1).length c114_1)) (ds := [12, 13]) (bm 15 0) (by kernel_rfl) rfl rfl ⟨hx114_0, hx114_1, hx115_0, hx115_1⟩ (fun hHeld => ?_); refine with_tabW oublaw9_Plain.tab5 oublaw9_Plain.bits5 (fun HT_ HW_ => ?_)
      generalize wr.drew = w5 at HO_0 HO_3 HB HL114_1 HL115_1 HR114_1 HR115_1 hx114_0 hx114_1 hx115_0 hx115_1 hHeld ⊢
      refine pure_ (i := 0) (N := some 11) (v := ?_) (a' := ?_) (bm 15 1) rfl rfl (any_of HT_.out (by kernel_rfl)) (fun _ _ _ h => h) (Or.inl ⟨by rfl, ?_⟩) ?_ ?_
      rotate_left
      ·intro w'
       go_simp
       with_reducible rfl
      rotate_left
      ·simp only [Act.put, List.setIfInBounds_toArray, List.set_cons_zero, List.set_cons_succ, i64_w, i32_w]
       rfl
      refine pure_ (i := 1) (N := some 12) (v := ?_) (a' := ?_) (bm 15 3) rfl rfl (any_of HT_.out (by kernel_rfl)) (fun _ _ _ h => h) (Or.inl ⟨by rfl, ?_⟩) ?_ ?_
      rotate_left
      ·intro w'
       go_simp
       with_reducible rfl
      rotate_left
      ·simp only [Act.put, List.setIfInBounds_toArray, List.set_cons_zero, List.set_cons_succ, i64_w, i32_w]
       rfl
      refine pure_ (i := 2) (N := some 13) (v := ?_) (a' := ?_) (bm 15 7) rfl rfl (any_of HT_.out (by kernel_rfl)) (fun _ _ _ h => h) (Or.inl ⟨by rfl, ?_⟩) ?_ ?_
      rotate_left
      ·intro w'
       go_simp
       with_reducible rfl
      rotate_left
      ·simp only [Act.put, List.setIfInBounds_toArray, List.set_cons_zero, List.set_cons_succ, i64_w, i32_w]
       rfl
      refine pure_ (i := 3) (N := some 14) (v := ?_) (a' := ?_) (bm 15 15) rfl rfl (any_of HT_.out (by kernel_rfl)) (fun _ _ _ h => h) (Or.inl ⟨by rfl, ?_⟩) ?_ ?_
      rotate_left
      ·intro w'
       go_simp
       with_reducible rfl
      rotate_left
      ·simp only [Act.put, List.setIfInBounds_toArray, List.set_cons_zero, List.set_cons_succ, i64_w, i32_w]
       rfl
      refine pure_ (i := 4) (N := some 15) (v := ?_) (a' := ?_) (bm 15 31) rfl rfl (any_of HT_.out (by kernel_rfl)) (fun _ _ _ h => h) (Or.inl ⟨by rfl, ?_⟩) ?_ ?_
      rotate_left
      ·intro w'
       go_simp
       with_reducible rfl
      rotate_left
      ·simp only [Act.put, List.setIfInBounds_toArray, List.set_cons_zero, List.set_cons_succ, i64_w, i32_w]
       rfl
      refine pure_ (i := 6) (N := some 17) (v := ?_) (a' := ?_) (bm 15 95) rfl rfl (any_of HT_.out (by kernel_rfl)) (fun _ _ _ h => h) (Or.inl ⟨by rfl, ?_⟩) ?_ ?_
      rotate_left
      ·intro w'
       go_simp
       with_reducible rfl
      rotate_left
      ·simp only [Act.put, List.setIfInBounds_toArray, List.set_cons_zero, List.set_cons_succ, i64_w, i32_w]
       rfl
      refine pure_ (i := 7) (N := some 18) (v := ?_) (a' := ?_) (bm 15 223) rfl rfl (any_of HT_.out (by kernel_rfl)) (fun _ _ _ h => h) (Or.inl ⟨by rfl, ?_⟩) ?_ ?_
      rotate_left
      ·intro w'
       go_simp
       with_reducible rfl
      rotate_left
      ·simp only [Act.put, List.setIfInBounds_toArray, List.set_cons_zero, List.set_cons_succ, i64_w, i32_w]
       rfl
      refine pure_ (i := 8) (N := some 19) (v := ?_) (a' := ?_) (bm 15 479) rfl rfl (any_of HT_.out (by kernel_rfl)) (fun _ _ _ h => h) (Or.inl ⟨by rfl, ?_⟩) ?_ ?_
      rotate_left
      ·intro w'
       go_simp
       with_reducible rfl
      rotate_left
      ·simp only [Act.put, List.setIfInBounds_toArray, List.set_cons_zero, List.set_cons_succ, i64_w, i32_w]
       rfl
      refine pure_ (i := 9) (N := some 20) (v := ?_) (a' := ?_) (bm 15 991) rfl rfl (any_of HT_.out (by kernel_rfl)) (fun _ _ _ h => h) (Or.inl ⟨by rfl, ?_⟩) ?_ ?_
      rotate_left
      ·intro w'
       go_simp
       with_reducible rfl
      rotate_left
      ·simp only [Act.put, List.setIfInBounds_toArray, List.set_cons_zero, List.set_cons_succ, i64_w, i32_w]
       rfl
      refine take_ (i := 5) (N := some 16) (v := ?_) (a' := ?_) (bm 15 1023) rfl rfl (take_ofW HT_.out HW_.out (by kernel_rfl)) (fun _ _ _ h => h) (Or.inl ⟨by rfl, ?_⟩) hHeld ?_ ?_
      rotate_left
      ·rintro w' ⟨s0, s1, s2, s3⟩
       go_simp
       with_reducible rfl
      rotate_left
      ·simp only [Act.put, List.setIfInBounds_toArray, List.set_cons_zero, List.set_cons_succ, i64_w, i32_w]
       rfl
      refine take_ (i := 10) (N := some 21) (v := ?_) (a' := ?_) (bm 15 2047) rfl rfl (take_ofW HT_.out HW_.out (by kernel_rfl)) (fun _ _ _ h => h) (Or.inl ⟨by rfl, ?_⟩) hHeld ?_ ?_
      rotate_left
      ·rintro w' ⟨s0, s1, s2, s3⟩
       go_simp
       with_reducible rfl
      rotate_left
      ·simp only [Act.put, List.setIfInBounds_toArray, List.set_cons_zero, List.set_cons_succ, i64_w, i32_w]
       rfl
      refine pure_ (i := 11) (N := some 22) (v := ?_) (a' := ?_) (bm 15 4095) rfl rfl (any_of HT_.out (by kernel_rfl)) (fun _ _ _ h => h) (Or.inl ⟨by rfl, ?_⟩) ?_ ?_
      rotate_left
      ·intro w'
       go_simp
       with_reducible rfl
      rotate_left
      ·simp only [Act.put, List.setIfInBounds_toArray, List.set_cons_zero, List.set_cons_succ, i64_w, i32_w]
       rfl
      refine last_ (i := 12) (N := some 23) (bm 15 8191) rfl rfl (one_of HT_.out (by kernel_rfl)) (by decide) (fun K hK => ?_)
      refine vq ?_
      refine hK.out _ _ ?_
      clear hK K
      refine nx 23 ?_
      refine last_ (i := 13) (N := some 24) (bm 15 16383) rfl rfl (one_of HT_.out (by kernel_rfl)) (by decide) (fun K hK => ?_)
      refine Kd.N_append_step k214 (w0 := w) w.heap.size (by rfl) (.tmp 11) (.tmp 23) 58 214 (.agg #[(.int .i64 0), (.slice none 0 0)]) 32 rfl Tryz.underlying58 info214 rfl (by decide) (by omega) u3 x3_1 (⟨(rd_T170 l0 x4_1).f0, (rd_T170 l0 x4_1).f1⟩ : S214) [.int .i64 ((rd_T170 l0 x4_1).f0), .slice A114_1 ((rd_T170 l0 x4_1).f1).length c114_1] (fun k_ => (P0_ k_ ∨ w.heap.size ≤ k_)) (fun k_ => ((fun k_ => (P0_ k_ ∨ w.heap.size ≤ k_))) k_ ∧ some k_ ≠ (u3 : Value).ownBlock) rfl rfl ?aP (fun _ hk => hk) ?aF ?aO ?aB ?aS ?aL ?_
      (case aP => exact (k214_mkF _ _ (⟨(rd_T170 l0 x4_1).f0, (rd_T170 l0 x4_1).f1⟩ : S214) (Kd.V_reads' (Kd.V_mono (ok' := (fun k_ => ((fun k_ => (P0_ k_ ∨ w.heap.size ≤ k_))) k_ ∧ some k_ ≠ (u3 : Value).ownBlock)) (HL115_1.out) (fun k_ hk => ⟨hk.1, hk.2⟩))).2.1 (Kd.V_F (Kd.V_mono (ok' := (fun k_ => ((fun k_ => (P0_ k_ ∨ w.heap.size ≤ k_))) k_ ∧ some k_ ≠ (u3 : Value).ownBlock)) (HL115_1.out) (fun k_ hk => ⟨hk.1, hk.2⟩)))))
      (case aB => exact (by repeat (first | (with_reducible first | exact HB.out | apply below_alloc | apply pw_below_drewN | apply below_drew1) | exact HB.out)))
      (case aF => exact (fun k_ hk => (.inr (Nat.le_trans (below_size (by repeat (first | (with_reducible first | exact HB.out | apply below_alloc | apply pw_below_drewN | apply below_drew1) | exact HB.out))) hk))))
      (case aO => exact (by (with_reducible repeat (first | apply Kd.N_alloc | apply Kd.N_drewN | apply Kd.N_drew)); exact HO_3.out))
      (case aS => exact (below_size (by repeat (first | (with_reducible first | exact HB.out | apply below_alloc | apply pw_below_drewN | apply below_drew1) | exact HB.out))))
      (case aL => have := LMc4.out; omega)
      intro v117 w6 ho hb hg hat
      rw [← Ny116.out] at ho
      have n0_ := Aside0.mk (Kd.V_afterv (ok := (fun k_ => (P0_ k_ ∨ w.heap.size ≤ k_))) (by (with_reducible repeat (first | apply Kd.V_alloc | apply Kd.V_drewN | apply Kd.V_drew)); exact HO_0.out) hg hat)
      have n1_ := Aside0.mk (Kd.V_afterv (ok := (fun k_ => (P0_ k_ ∨ w.heap.size ≤ k_))) (by (with_reducible repeat (first | apply Kd.V_alloc | apply Kd.V_drewN | apply Kd.V_drew)); exact HL114_1.out) hg hat)
      have n2_ := Aside0.mk (Kd.V_afterv (ok := (fun k_ => (P0_ k_ ∨ w.heap.size ≤ k_))) (by (with_reducible repeat (first | apply Kd.V_alloc | apply Kd.V_drewN | apply Kd.V_drew)); exact HL115_1.out) hg hat)
      have n3_ := Aside0.mk (hb)
      have n4_ := Aside0.mk (ho)
      clear HO_0
      clear HL114_1
      clear HL115_1
      clear HB
      clear HO_3
      have HO_0 := n0_
      have HL114_1 := n1_
      have HL115_1 := n2_
      have HB := n3_
      have HO118 := n4_
      clear n0_ n1_ n2_ n3_ n4_
      clear ho hb hg hat
      refine hK.out _ _ ?_
      clear hK K
      refine nx 24 ?_
      refine pure_ (i := 14) (N := some 3) (v := ?_) (a' := ?_) (bm 15 32767) rfl rfl (any_of HT_.out (by kernel_rfl)) (fun _ _ _ h => h) (Or.inl ⟨by rfl, ?_⟩) ?_ ?_
      rotate_left
      ·intro w'
       go_simp
       with_reducible rfl
      rotate_left
      ·simp only [Act.put, List.setIfInBounds_toArray, List.set_cons_zero, List.set_cons_succ, i64_w, i32_w]
       rfl
      refine done_ (done_of HT_.out (by kernel_rfl)) ?_
      try go_wp2
      go_roundg k1
      case measure => have := HK1.out; omega
      case rel => exact ⟨(y116), (wrap64 (x4_1 + 1)), (by first | rfl | (simp; done) | (simp [*]; done)), H', ⟨by have := HK1.out; omega⟩, ⟨by (with_reducible repeat (first | apply Kd.V_alloc | apply Kd.V_drewN | apply Kd.V_drew)); exact HO_0.out⟩, ⟨by (with_reducible repeat (first | apply Kd.N_alloc | apply Kd.N_drewN | apply Kd.N_drew)); exact HO118.out⟩, ⟨by repeat (first | (with_reducible first | exact HB.out | apply below_alloc | apply pw_below_drewN | apply below_drew1) | exact HB.out)⟩⟩
     ·rw [if_neg c4] at H
      exact absurd H (by simp)
    ·rw [if_neg c3] at H
     exact absurd H (by simp)
   ·rw [if_neg c2] at H
    have c2b0 : decide (x4_1 < (l0.length : Int)) = false := decide_eq_false c2
    clear c2
    obtain rfl := Option.some.inj H
    go_wp2
    go_ret
    exact ⟨_, by first | rfl | (simp [errW_none, errW_some] <;> rfl) | (simp [*, errW_none, errW_some] <;> rfl), by (with_reducible repeat (first | apply Kd.N_alloc | apply Kd.N_drewN | apply Kd.N_drew)); exact HO_3.out, by repeat (first | (with_reducible first | exact HB.out | apply below_alloc | apply pw_below_drewN | apply below_drew1) | exact HB.out)⟩
end Go.Proofs.YtmbnomlkhmcmaaaGreat.C
end
section
namespace Go.Proofs.YtmbnomlkhmcmaaaGreat.C
open Go.RowKit Go.Proofs.YtmbnomlkhmcmaaaGreatW.PrintWords Go.Proofs.YtmbnomlkhmcmaaaGreatW.PrintLast Go.Proofs.YtmbnomlkhmcmaaaGreatW.PrintMore
attribute [local go_sem] max2_int min2_int max_two min_two max_three min_three max_four min_four
set_option linter.unusedVariables false
set_option linter.unusedSimpArgs false
end Go.Proofs.YtmbnomlkhmcmaaaGreat.C
end
section
namespace Go.Proofs.YtmbnomlkhmcmaaaGreat.C
open Go.RowKit Go.Proofs.YtmbnomlkhmcmaaaGreatW.PrintWords Go.Proofs.YtmbnomlkhmcmaaaGreatW.PrintLast Go.Proofs.YtmbnomlkhmcmaaaGreatW.PrintMore
attribute [local go_sem] max2_int min2_int max_two min_two max_three min_three max_four min_four
set_option linter.unusedVariables false
set_option linter.unusedSimpArgs false
end Go.Proofs.YtmbnomlkhmcmaaaGreat.C
end
section
namespace Go.Proofs.YtmbnomlkhmcmaaaGreat.C
open Go.RowKit Go.Proofs.YtmbnomlkhmcmaaaGreatW.PrintWords Go.Proofs.YtmbnomlkhmcmaaaGreatW.PrintLast Go.Proofs.YtmbnomlkhmcmaaaGreatW.PrintMore
attribute [local go_sem] max2_int min2_int max_two min_two max_three min_three max_four min_four
set_option linter.unusedVariables false
set_option linter.unusedSimpArgs false
end Go.Proofs.YtmbnomlkhmcmaaaGreat.C
end
section
namespace Go.Proofs.YtmbnomlkhmcmaaaGreat.A
open Go.RowKit Go.Shelf Go.Proofs.YtmbnomlkhmcmaaaGreatW.PrintWords Go.Proofs.YtmbnomlkhmcmaaaGreatW.PrintLast Go.Proofs.YtmbnomlkhmcmaaaGreat.B Go.Proofs.YtmbnomlkhmcmaaaGreat.C Go.Proofs.YtmbnomlkhmcmaaaGreat.Z
set_option linter.unusedVariables false
set_option linter.unusedSimpArgs false
abbrev Bk := S170
section
variable {w0 w w' : World} {g : Nat} {xs : List Int} {rows : List (Nat × Obj)}
theorem Sw.blk (h : Sw w0 g xs rows w) {b : Nat} {o : Obj} (hr : (b, o) ∈ rows) : w.heap[b]? = some o := (h.1.2 _ hr).2
theorem Sw.rawp (ys : List Int) (A : Option Addr) (n c b k : Nat) (h : Sw w0 g xs rows w) (hn : ys.length = n) (hr : (b, part A n c) ∈ rows) (hC : Kd.C (Kd.int .u8) w A ys.length ys) (hy : ys.length ≤ 1048576) (hx : xs.length ≤ 2147483648) :
  Calls Tryz.prog 47 #[.pointer (some ⟨g, 0, none⟩), .slice (some ⟨b, 0, none⟩) 1 k] w fun e w' => e = .returned (.pointer (some ⟨g, 0, none⟩)) ∧ Sw w0 g (xs ++ ys) rows w' := by
 subst hn
 exact Sw.raw ys A c b k _ h (h.blk hr) hC hy hx
end
def blkB (b : Bk) : List Int := bes 1 [b.f0] ++ b.f1
def stashB (y : Ly) (s : List Bk) : List Int := bes 1 [(s.length : Int)] ++ s.flatMap blkB ++ List.replicate ((y.c6 - s.length) * 38).toNat 0
theorem flat_len : ∀ l : List Bk, (∀ b ∈ l, b.f1.length = 37) → (l.flatMap blkB).length = 38 * l.length
 | [], _ => rfl
 | b :: l, h => by
  have h1 := h b List.mem_cons_self
  have h2 := flat_len l (fun x hx => h x (List.mem_cons_of_mem _ hx))
  rw [List.flatMap_cons, List.length_append, h2]
  simp [blkB, bes_length, h1]
  omega
set_option maxHeartbeats 8000000 in
set_option maxRecDepth 100000 in
theorem Sw.blocks {y : Ly} {w0 w : World} {g : Nat} {xs : List Int} {rows : List (Nat × Obj)} (h : Sw w0 g xs rows w) (hy : y.R w0) (ok : y.Ok) (A : Option Addr) (c : Nat) (s : List Bk) (hC : Kd.C k170 w0 A s.length s) (hs : (s.length : Int) ≤ y.c6) (hd : ∀ b ∈ s, b.f1.length = 37 ∧ okN 1 b.f0) (hx : xs.length ≤ 1048576) :
  Calls Tryz.prog 49 #[y.v, .pointer (some ⟨g, 0, none⟩), .slice A s.length c] w fun e w' => e = .returned (.tuple #[]) ∧ Sw w0 g (xs ++ stashB y s) rows w' := by
 have HK := Lib.hid ok
 have HC := Lib.hid hC
 have HL := Lib.hid hs
 have HD := Lib.hid hd
 have HX := Lib.hid hx
 have HW := Lib.hid h
 have HM := Lib.hid (show s.length ≤ 64 by unfold Ly.Ok at ok; omega)
 obtain ⟨n0, hn0⟩ : ∃ n0, s.length = n0 := ⟨_, rfl⟩
 have HN := Lib.hid hn0
 rw [hn0]
 clear h ok hC hs hd hx hn0 hy
 go_enter Tryz.func49, Tryz.ntmps49
 go_wp2_with (first
  | ((with_reducible refine gate_dst (N := 3) rfl ?_); refine box_event ?hg (N := 3) ?hd (cs := #[.int .i64 y.c0, .int .i64 y.c1, .int .i64 y.c2, .int .i64 y.c3, .int .i64 y.c4, .int .i64 y.c5, .int .i64 y.c6, .int .i64 y.c7, .int .i64 y.c8, .int .i64 y.c9, .slice y.A y.l.length y.cap]) (t := 46) ?hr ?_; (case hd => rfl); (case hg => rfl); (case hr => first | (go_simp; done) | (go_simp; rfl)); intro gl hg_ w1 hbox_ hb_; have HX1 := Lib.hid (Sw.box HW.out hg_ hbox_ hb_); clear hbox_ hb_ hg_)
  | fail)
 refine (Sw.num 1 1 [(n0 : Int)] _ 1 1 (HX1.out.row (rowo [(n0 : Int)])) rfl rfl mh (by decide) (by decide) (by simp) (fun n hn => by rw [List.mem_singleton.1 hn]; have := HM.out; have := HN.out; exact ⟨by omega, by omega⟩) (by have := HX.out; omega)).mono ?_
 rintro e w2 ⟨rfl, h2⟩
 have HW2 := Lib.hid (h2.less (rows' := (gl, y.obj) :: rows) (fun _ hr => mt hr))
 clear h2 HX1
 go_wp2_with fail
 go_loopw [15] (fun i wr => ∃ k : Nat, k ≤ n0 ∧ i = .int .i64 k ∧ Hid (Sw w0 g (xs ++ bes 1 [(n0 : Int)] ++ (s.take k).flatMap blkB) ((gl, y.obj) :: rows) wr)) (fun i _ => n0 - (intOf i).toNat)
 case atStart =>
  exact ⟨0, Nat.zero_le _, rfl, by simpa using HW2⟩
 case round =>
  obtain ⟨k, hk, rfl, HS0⟩ := hrel
  by_cases hlt : k < n0
  ·obtain ⟨⟨id, ys⟩, hb⟩ : ∃ b, rd_T170 s (k : Int) = b := ⟨_, rfl⟩
   have hks : k < s.length := by have := HN.out; omega
   have hd : s.take (k + 1) = s.take k ++ [⟨id, ys⟩] := by
    rw [List.take_succ_eq_append_getElem hks, ← hb]
    congr 2
    unfold rd_T170
    rw [Int.toNat_natCast, List.getD_eq_getElem?_getD, List.getElem?_eq_getElem hks]
    rfl
   have hmem : (⟨id, ys⟩ : Bk) ∈ s := by
    have : (⟨id, ys⟩ : Bk) ∈ s.take (k + 1) := by rw [hd]; simp
    exact List.mem_of_mem_take this
   obtain ⟨hy1, hy2⟩ := HD.out _ hmem
   have HY := Lib.hid (show ys.length = 37 from hy1)
   have HI := Lib.hid (show ∀ n ∈ [id], okN 1 n from fun n hn => by rw [List.mem_singleton.1 hn]; exact hy2)
   obtain ⟨ad, A1, c1, rfl, q0, q1, l1, g1⟩ := at_T170 HC.out (k : Int) (by omega) (by omega)
   rw [hb] at q0 q1 l1 g1
   simp only [Int.toNat_natCast] at q0 q1 l1 g1
   replace q0 := (HS0.out.bel.cell (World.block_lt_of_cell? w0 _ q0)).trans q0
   replace q1 := (HS0.out.bel.cell (World.block_lt_of_cell? w0 _ q1)).trans q1
   have HG := Lib.hid (show Kd.C (Kd.int .u8) w0 A1 ys.length ys from g1)
   have HDr := Lib.hid hd
   obtain ⟨m0, hm0⟩ : ∃ m0, ys.length = m0 := ⟨_, rfl⟩
   have HMy := Lib.hid hm0
   rw [show (⟨id, ys⟩ : Bk).f1.length = m0 from hm0] at q1
   have HLX := Lib.hid (show (xs ++ bes 1 [(n0 : Int)] ++ (s.take k).flatMap blkB).length ≤ 1100000 by
    have h1 := flat_len (s.take k) (fun b hb => (HD.out b (List.mem_of_mem_take hb)).1)
    have h2 := HX.out
    rw [List.length_append, List.length_append, h1, List.length_take, bes_length]
    simp
    have := HM.out; omega)
   obtain ⟨X, hX⟩ : ∃ X, xs ++ bes 1 [(n0 : Int)] ++ (s.take k).flatMap blkB = X := ⟨_, rfl⟩
   rw [hX] at HS0 HLX
   have HXe := Lib.hid hX
   clear hb hd hmem hy1 hy2 l1 g1 hm0 hks hX
   go_upto_region 5 with fail
   have HR0 := Lib.hid (HS0.out.row (Obj.cells #[.int .i64 id, .slice A1 m0 c1] 170))
   generalize wr.alloc (Obj.cells #[.int .i64 id, .slice A1 m0 c1] 170) = W1 at HR0 ⊢
   have HS : ∀ w', Sr w0 ((wr.heap.size, Obj.cells #[.int .i64 id, .slice A1 m0 c1] 170) :: (gl, y.obj) :: rows) w' → w'.cell? ⟨wr.heap.size, 0, none⟩ = some (.int .i64 id) ∧ w'.cell? ⟨wr.heap.size, 1, none⟩ = some (.slice A1 m0 c1) := fun w' h => ⟨h.cell mh 0 rfl, h.cell mh 1 rfl⟩
   refine stq 9 0 (fun w' => w'.cell? ⟨wr.heap.size, 0, none⟩ = some (.int .i64 id) ∧ w'.cell? ⟨wr.heap.size, 1, none⟩ = some (.slice A1 m0 c1)) (HS _ (HR0.out.below (drewB _)).sr) (fun hHeld => ?_)
   refine pq 0 19 9 1 ?_
   refine pq 1 20 9 3 ?_
   refine pq 5 24 9 35 ?_
   refine tq 2 21 9 39 hHeld ?_
   refine tq 6 25 9 103 hHeld ?_
   refine join_ (σ := Nat × Nat) 1 (bm 9 255) (fun s => [(22, .slice (some ⟨s.1, 0, none⟩) 1 1), (23, .pointer (some ⟨g, 0, none⟩)), (26, .slice (some ⟨s.2, 0, none⟩) 1 1)]) (fun s w' => Sw w0 g (X ++ bes 1 [id]) ((s.1, rowo [id]) :: (s.2, part A1 m0 c1) :: (wr.heap.size, Obj.cells #[.int .i64 id, .slice A1 m0 c1] 170) :: (gl, y.obj) :: rows) w') ?_ ?_
   rotate_left
   ·intro hJ3_4_7
    refine join_ (σ := Nat) 2 (bm 9 127) (fun s => [(22, .slice (some ⟨s, 0, none⟩) 1 1), (23, .pointer (some ⟨g, 0, none⟩))]) (fun s w' => Sw w0 g (X ++ bes 1 [id]) ((s, rowo [id]) :: (wr.heap.size, Obj.cells #[.int .i64 id, .slice A1 m0 c1] 170) :: (gl, y.obj) :: rows) w') ?_ ?_
    rotate_left
    ·intro hJ3_4
     refine join_ (σ := Nat × Nat) 2 (bm 9 239) (fun s => [(22, .slice (some ⟨s.1, 0, none⟩) 1 1), (26, .slice (some ⟨s.2, 0, none⟩) 1 1)]) (fun s w' => Sw w0 g X ((s.1, rowo [id]) :: (s.2, part A1 m0 c1) :: (wr.heap.size, Obj.cells #[.int .i64 id, .slice A1 m0 c1] 170) :: (gl, y.obj) :: rows) w') ?_ ?_
     rotate_left
     ·intro hJ3_7
      refine join_ (σ := Nat) 3 (bm 9 111) (fun s => [(22, .slice (some ⟨s, 0, none⟩) 1 1)]) (fun s w' => Sw w0 g X ((s, rowo [id]) :: (wr.heap.size, Obj.cells #[.int .i64 id, .slice A1 m0 c1] 170) :: (gl, y.obj) :: rows) w') ?_ ?_
      rotate_left
      ·intro hJ3
       refine join_ (σ := Nat) 3 (bm 9 231) (fun s => [(26, .slice (some ⟨s, 0, none⟩) 1 1)]) (fun s w' => Sw w0 g X ((s, part A1 m0 c1) :: (wr.heap.size, Obj.cells #[.int .i64 id, .slice A1 m0 c1] 170) :: (gl, y.obj) :: rows) w') ?_ ?_
       rotate_left
       ·intro hJ7
        refine twq 3 7 22 26 9 111 231 (fun K hK => ?_) (fun K hK => ?_)
        ·refine vq ?_
         refine hK.out _ _ (HS _ (((HR0.out.below (drewB _)).row _).sr.less (fun _ hr => (mt hr)))) (fun hHeld => ?_)
         clear hK K
         refine nx 22 ?_
         exact nz (hJ3 W1.drew.heap.size _ (((HR0.out.below (drewB _)).row _).less (mc mh (fun _ hr => (mt hr)))))
        ·refine vq ?_
         refine hK.out _ _ (HS _ (((HR0.out.below (drewB _)).row _).sr.less (fun _ hr => (mt hr)))) (fun hHeld => ?_)
         clear hK K
         refine nx 26 ?_
         exact nz (hJ7 W1.drew.heap.size _ (((HR0.out.below (drewB _)).row _).less (mc mh (fun _ hr => (mt hr)))))
       ·rintro b7 wn hh
        have HH := Lib.hid hh
        clear hh
        have hHeld := HS _ (HH.out.sr.less (fun _ hr => (mt hr)))
        refine ny ?_
        refine oq 3 22 9 239 (fun K hK => ?_)
        refine vq ?_
        refine hK.out _ _ (HS _ ((HH.out.row _).sr.less (fun _ hr => (mt (mt hr))))) (fun hHeld => ?_)
        clear hK K
        refine nx 22 ?_
        exact nz (hJ3_7 (wn.heap.size, b7) _ ((HH.out.row _).less (mc mh (mc (mt mh) (fun _ hr => (mt (mt hr)))))))
      ·rintro b3 wn hh
       have HH := Lib.hid hh
       clear hh
       have hHeld := HS _ (HH.out.sr.less (fun _ hr => (mt hr)))
       refine ny ?_
       refine twq 4 7 23 26 9 127 239 (fun K hK => ?_) (fun K hK => ?_)
       ·refine gq Tryz.func46 #[.pointer (some ⟨g, 0, none⟩), .int .i64 1, .slice (some ⟨b3, 0, none⟩) 1 1] ?_
        with_reducible refine ((Sw.num 1 1 [id] b3 1 1 HH.out rfl rfl mh (by decide) (by decide) (by simp) HI.out (by have := HLX.out; omega))).mono ?_
        rintro e wn' ⟨rfl, hn⟩
        refine ⟨_, rfl, ?_⟩
        have HN := Lib.hid hn
        clear hn
        refine hK.out _ _ (HS _ (HN.out.sr.less (fun _ hr => (mt hr)))) (fun hHeld => ?_)
        clear hK K
        refine nx 23 ?_
        exact nz (hJ3_4 b3 _ HN.out)
       ·refine vq ?_
        refine hK.out _ _ (HS _ ((HH.out.row _).sr.less (fun _ hr => (mt (mt hr))))) (fun hHeld => ?_)
        clear hK K
        refine nx 26 ?_
        exact nz (hJ3_7 (b3, wn.heap.size) _ ((HH.out.row _).less (mc (mt mh) (mc mh (fun _ hr => (mt (mt hr)))))))
     ·rintro ⟨b3, b7⟩ wn hh
      have HH := Lib.hid hh
      clear hh
      have hHeld := HS _ (HH.out.sr.less (fun _ hr => (mt (mt hr))))
      refine ny ?_
      refine oq 4 23 9 255 (fun K hK => ?_)
      refine gq Tryz.func46 #[.pointer (some ⟨g, 0, none⟩), .int .i64 1, .slice (some ⟨b3, 0, none⟩) 1 1] ?_
      with_reducible refine ((Sw.num 1 1 [id] b3 1 1 HH.out rfl rfl mh (by decide) (by decide) (by simp) HI.out (by have := HLX.out; omega))).mono ?_
      rintro e wn' ⟨rfl, hn⟩
      refine ⟨_, rfl, ?_⟩
      have HN := Lib.hid hn
      clear hn
      refine hK.out _ _ (HS _ (HN.out.sr.less (fun _ hr => (mt (mt hr))))) (fun hHeld => ?_)
      clear hK K
      refine nx 23 ?_
      exact nz (hJ3_4_7 (b3, b7) _ HN.out)
    ·rintro b3 wn hh
     have HH := Lib.hid hh
     clear hh
     have hHeld := HS _ (HH.out.sr.less (fun _ hr => (mt hr)))
     refine ny ?_
     refine oq 7 26 9 255 (fun K hK => ?_)
     refine vq ?_
     refine hK.out _ _ (HS _ ((HH.out.row _).sr.less (fun _ hr => (mt (mt hr))))) (fun hHeld => ?_)
     clear hK K
     refine nx 26 ?_
     exact nz (hJ3_4_7 (b3, wn.heap.size) _ ((HH.out.row _).less (mc (mt mh) (mc mh (fun _ hr => (mt (mt hr)))))))
   rintro ⟨b3, b7⟩ wn hh
   have HH := Lib.hid hh
   clear hh
   have hHeld := HS _ (HH.out.sr.less (fun _ hr => (mt (mt hr))))
   refine ny ?_
   refine oq 8 27 9 511 (fun K hK => ?_)
   refine gq Tryz.func47 #[.pointer (some ⟨g, 0, none⟩), .slice (some ⟨b7, 0, none⟩) 1 1] ?_
   with_reducible refine ((Sw.rawp ys A1 m0 c1 b7 1 HH.out HMy.out (mt mh) (Kd.C_below HG.out HH.out.bel) (by rw [HY.out]; decide) (by simp [bes_length]; have := HLX.out; omega))).mono ?_
   rintro e wq ⟨rfl, hn⟩
   refine ⟨_, rfl, ?_⟩
   have HQ := Lib.hid hn
   clear hn
   refine hK.out _ _ (HS _ (HQ.out.sr.less (fun _ hr => mt (mt hr)))) (fun hHeld => ?_)
   clear hK K
   refine nx 27 ?_
   refine done_ (by kernel_rfl) ?_
   go_wp2_with fail
   have ek : wrap64 ((k : Int) + 1) = ((k + 1 : Nat) : Int) := by rw [wr64 (by have := HM.out; have := HN.out; omega) (by have := HM.out; have := HN.out; omega)]; omega
   rw [ek]
   refine ⟨⟨k + 1, by omega, rfl, ?_⟩, ?_⟩
   ·have hq := HQ.out.less (rows' := (gl, y.obj) :: rows) (fun _ hr => mt (mt (mt hr)))
    rw [← HXe.out] at hq
    have e : xs ++ bes 1 [(n0 : Int)] ++ (s.take k).flatMap blkB ++ bes 1 [id] ++ ys = xs ++ bes 1 [(n0 : Int)] ++ (s.take (k + 1)).flatMap blkB := by
     rw [HDr.out, List.flatMap_append]
     simp [blkB]
    rw [e] at hq
    exact hq
   ·simp only [intOf]
    omega
  ·obtain rfl : k = n0 := by omega
   have q6 := HS0.out.sr.cell mh 6 rfl
   have e1 : ((y.c6 - (k : Int)) * 38).toNat ≤ 2432 ∧ (((y.c6 - (k : Int)) * 38).toNat : Int) = (y.c6 - (k : Int)) * 38 := by
    have h1 := HL.out
    have h2 := HN.out
    have h3 := HK.out
    unfold Ly.Ok at h3
    omega
   have E1 := Lib.hid e1
   have E2 := Lib.hid (show wrap64 (wrap64 (y.c6 - (k : Int)) * 38) = (((y.c6 - (k : Int)) * 38).toNat : Int) by
    have h3 := HK.out
    unfold Ly.Ok at h3
    rw [wr64 (z := y.c6 - (k : Int)) (by omega) (by omega), wr64 (by omega) (by omega)]
    omega)
   clear e1
   go_wp2_with fail
   refine (Sw.zeros HS0.out _ ((y.c6 - (k : Int)) * 38).toNat E2.out (by rw [E2.out]; have := E1.out; omega)).mono ?_
   rintro e w3 ⟨bz, rfl, h3⟩
   have HZ := Lib.hid h3
   clear h3
   go_wp2_with fail
   refine (Sw.rawz (HZ.out.row (part (some ⟨bz, 0, none⟩) ((y.c6 - (k : Int)) * 38).toNat ((y.c6 - (k : Int)) * 38).toNat)) bz _ ((y.c6 - (k : Int)) * 38).toNat 1 mh (mt mh) (by have := E1.out; omega) ?_).mono ?_
   ·have h1 := flat_len (s.take k) (fun b hb => (HD.out b (List.mem_of_mem_take hb)).1)
    have h2 := HX.out
    rw [List.length_append, List.length_append, h1, List.length_take, bes_length]
    simp
    have := HM.out; omega
   ·rintro e w4 ⟨rfl, h4⟩
    have HF := Lib.hid h4
    clear h4 q6
    go_wp2_with fail
    go_end0
    refine ⟨rfl, ?_⟩
    have hfin := HF.out.less (rows' := rows) (fun _ hr => mt (mt (mt hr)))
    have e : (xs ++ bes 1 [(k : Int)] ++ (s.take k).flatMap blkB) ++ List.replicate ((y.c6 - (k : Int)) * 38).toNat 0 = xs ++ stashB y s := by
     unfold stashB
     rw [← HN.out, List.take_length]
     simp only [List.append_assoc]
    rw [e] at hfin
    exact hfin
end Go.Proofs.YtmbnomlkhmcmaaaGreat.A
end
section
namespace Go.Proofs.YtmbnomlkhmcmaaaGreat.A
open Go.RowKit Go.Shelf Go.Proofs.YtmbnomlkhmcmaaaGreatW.PrintWords Go.Proofs.YtmbnomlkhmcmaaaGreatW.PrintLast Go.Proofs.YtmbnomlkhmcmaaaGreat.B Go.Proofs.YtmbnomlkhmcmaaaGreat.C
set_option linter.unusedVariables false
set_option linter.unusedSimpArgs false
def strL (s : ByteArray) : List Int := s.data.toList.map fun b => (b.toNat : Int)
theorem strL_length (s : ByteArray) : (strL s).length = s.size := by simp [strL]
def StrO (s : ByteArray) (p : Nat × Obj) : Prop := ∃ (cs : Array Value) (t : TypeId) (f : Nat × Nat), p.2 = .cells cs t f ∧ ∀ (j : Nat) (x : Int), (strL s)[j]? = some x → cs[j]? = some (Value.int .u8 x)
theorem conv_B (w : World) (e : TypeId) (s : ByteArray) : Below w.heap.size w (Lib.bytesWorld w e s) :=
  ⟨rfl, rfl, rfl, by rw [Lib.bytesWorld_size]; omega, fun j hj => Lib.bytesWorld_at_old w e s j hj⟩
def convP (w : World) (e : TypeId) (s : ByteArray) : Nat × Obj := (grownCap w s.size 0 e, .cells (Lib.bytesCells w e s) e ((Lib.bytesCells w e s).size, (Lib.bytesCells w e s).size + 1))
theorem conv_O (w : World) (e : TypeId) (s : ByteArray) : StrO s (convP w e s) := by
  refine ⟨_, _, _, rfl, fun j x hx => ?_⟩
  unfold strL at hx
  rw [List.getElem?_map] at hx
  obtain ⟨b, hb, rfl⟩ := Option.map_eq_some_iff.1 hx
  have hj := (List.getElem?_eq_some_iff.1 hb).1
  unfold Lib.bytesCells
  rw [Array.getElem?_append_left (by simpa using hj)]
  simp only [Array.getElem?_map]
  rw [← Array.getElem?_toList, hb]
  rfl
theorem C_str {W : World} {b : Nat} {s : ByteArray} {p : Nat × Obj} (hp : StrO s p) (hh : W.heap[b]? = some p.2) (hl : s.size ≤ 1048576) : Kd.C (Kd.int .u8) W (some ⟨b, 0, none⟩) (strL s).length (strL s) := by
  obtain ⟨cs, t, f, e, hc⟩ := hp
  rw [e] at hh
  refine ⟨rfl, by rw [strL_length]; omega, fun _ => ⟨_, rfl, fun j x hj => ⟨_, rfl, rfl, fun i u hu => ?_⟩⟩⟩
  have h1 := hc j x hj
  match i, hu with
  | 0, hu =>
    obtain rfl : Value.int .u8 x = u := by simpa using hu
    show W.cell? (((⟨b, 0, none⟩ : Addr).add (j * 1)).add 0) = _
    rw [Nat.mul_one]
    have h2 : W.cell? ⟨b, j, none⟩ = some (.int .u8 x) := by
      unfold World.cell?
      rw [hh]
      exact h1
    rcases j with _ | j <;> simpa [Addr.add] using h2
section
variable {w0 w w' : World} {g : Nat} {xs : List Int} {rows : List (Nat × Obj)}
theorem Sr.conv (h : Sr w0 rows w) (e : TypeId) (s : ByteArray) : Sr w0 ((w.heap.size, (convP w e s).2) :: rows) (Lib.bytesWorld w e s) :=
  h.box rfl (Lib.bytesWorld_at_new w e s) (conv_B w e s)
theorem Sw.conv (h : Sw w0 g xs rows w) (e : TypeId) (s : ByteArray) : Sw w0 g xs ((w.heap.size, (convP w e s).2) :: rows) (Lib.bytesWorld w e s) := by
  have hn := Lib.bytesWorld_at_new w e s
  refine ⟨h.1.conv e s, ?_, h.2.2⟩
  have hlt := (Array.getElem?_eq_some_iff.1 hn).1
  refine (h.2.1.later (conv_B w e s)).less fun k ⟨o', hk⟩ => ?_
  rcases List.mem_cons.1 hk with e1 | hk
  · injection e1 with e1 e2
    subst e1
    exact .inr ⟨by omega, hlt⟩
  · exact .inl ⟨o', hk⟩
theorem Sw.raws (s : ByteArray) (p : Nat × Obj) (b b' n k : Nat) (h : Sw w0 g xs rows w) (hp : StrO s p) (hn : s.size = n) (hr : (b', part (some ⟨b, 0, none⟩) n p.1) ∈ rows) (hb : (b, p.2) ∈ rows) (hy : n ≤ 1048576) (hx : xs.length ≤ 2147483648) :
    Calls Tryz.prog 47 #[.pointer (some ⟨g, 0, none⟩), .slice (some ⟨b', 0, none⟩) 1 k] w fun e w' => e = .returned (.pointer (some ⟨g, 0, none⟩)) ∧ Sw w0 g (xs ++ strL s) rows w' := by
  subst hn
  exact Sw.rawp (strL s) _ s.size p.1 b' k h (strL_length s) hr (C_str hp (h.blk hb) hy) (by rw [strL_length]; exact hy) hx
end
end Go.Proofs.YtmbnomlkhmcmaaaGreat.A
end
section
namespace Go.Proofs.YtmbnomlkhmcmaaaGreat.A
open Go.RowKit Go.Shelf Go.Proofs.YtmbnomlkhmcmaaaGreatW.PrintWords Go.Proofs.YtmbnomlkhmcmaaaGreatW.PrintLast Go.Proofs.YtmbnomlkhmcmaaaGreat.B Go.Proofs.YtmbnomlkhmcmaaaGreat.C
set_option linter.unusedVariables false
set_option linter.unusedSimpArgs false
theorem Sealed_at {w : World} {g : Nat} {Z : Nat → Prop} {xs : List Int} (L : Int) (h : WR w g Z xs) (h0 : (xs.length : Int) ≤ L) (h1 : L ≤ 1048576) :
    Calls Tryz.prog 70 #[.pointer (some ⟨g, 0, none⟩), .int .i64 L] w fun e w' => ∃ v, e = .returned (.tuple #[v, .int .i64 0]) ∧ Kd.R (Kd.int .u8) 5 w' w.heap.size (fun _ => True) v (fill xs L.toNat) ∧ Below w.heap.size w w' := by
  have h2 := Sealed_call g Z xs L.toNat w h (by omega) (by omega)
  rwa [Int.toNat_of_nonneg (by omega)] at h2
theorem Sw.numS {w0 w : World} {rows : List (Nat × Obj)} {gw : Nat} {xs : List Int} (width : Nat) (wi : Int) (l : List Int) (A : Option Addr) (n c : Nat) (h : Sw w0 gw xs rows w) (hwi : (width : Int) = wi) (hn : l.length = n) (hC : Kd.C (Kd.int .i64) w0 A l.length l) (h1 : 1 ≤ width) (h2 : width ≤ 7) (hl : l.length ≤ 300) (hok : ∀ n ∈ l, okN width n) (hx : xs.length ≤ 2147483648) :
    Calls Tryz.prog 46 #[.pointer (some ⟨gw, 0, none⟩), .int .i64 wi, .slice A n c] w fun e w' => e = .returned (.pointer (some ⟨gw, 0, none⟩)) ∧ Sw w0 gw (xs ++ bes width l) rows w' := by
  subst hwi hn
  refine (Num_call width l A c gw _ xs w h.2.1 h1 h2 hok (fun W hW => Kd.C_below hC (h.1.1.trans (hW.1.mono h.2.2))) hl hx).mono ?_
  rintro e w' ⟨rfl, hw', he⟩
  exact ⟨rfl, h.ef hw' he⟩
theorem Sw.blocksN {y : Ly} {w0 w : World} {g : Nat} {xs : List Int} {rows : List (Nat × Obj)} (h : Sw w0 g xs rows w) (hy : y.R w0) (ok : y.Ok) (A : Option Addr) (n c : Nat) (s : List Bk) (hn : s.length = n) (hC : Kd.C k170 w0 A s.length s) (hs : (s.length : Int) ≤ y.c6) (hd : ∀ b ∈ s, b.f1.length = 37 ∧ okN 1 b.f0) (hx : xs.length ≤ 1048576) :
    Calls Tryz.prog 49 #[y.v, .pointer (some ⟨g, 0, none⟩), .slice A n c] w fun e w' => e = .returned (.tuple #[]) ∧ Sw w0 g (xs ++ stashB y s) rows w' := by
  subst hn
  exact Sw.blocks h hy ok A c s hC hs hd hx
set_option maxHeartbeats 4000000 in
set_option maxRecDepth 100000 in
theorem Sw.sealed {y : Ly} {w0 w : World} {g : Nat} {xs : List Int} {rows : List (Nat × Obj)} (h : Sw w0 g xs rows w) (hy : y.R w0) (ok : y.Ok) (n : Int) (h1 : 1 ≤ n) (h2 : n ≤ 100000) (hx : (xs.length : Int) ≤ n) :
    Calls Tryz.prog 50 #[y.v, .pointer (some ⟨g, 0, none⟩), .int .i64 n] w fun e w' => ∃ v, e = .returned (.tuple #[v, .int .i64 0]) ∧ Kd.R (Kd.int .u8) 5 w' w0.heap.size (fun _ => True) v (fill xs (y.whole n).toNat) ∧ Below w0.heap.size w0 w' := by
  have HW := Lib.hid h
  have HY := Lib.hid hy
  have HK := Lib.hid ok
  have HN := Lib.hid (And.intro h1 (And.intro h2 hx))
  have HL := Lib.hid (whole_le ok n h1 h2)
  clear h hy ok h1 h2 hx
  go_enter Tryz.func50, Tryz.ntmps50
  go_wp2_with (first
    | ((with_reducible refine gate_dst (N := 3) rfl ?_); refine box_event ?hg (N := 3) ?hd (cs := #[.int .i64 y.c0, .int .i64 y.c1, .int .i64 y.c2, .int .i64 y.c3, .int .i64 y.c4, .int .i64 y.c5, .int .i64 y.c6, .int .i64 y.c7, .int .i64 y.c8, .int .i64 y.c9, .slice y.A y.l.length y.cap]) (t := 46) ?hr ?_; (case hd => rfl); (case hg => rfl); (case hr => first | (go_simp; done) | (go_simp; rfl)); intro gl hg_ w1 hbox_ hb_; have HX1 := Lib.hid (Sw.box HW.out hg_ hbox_ hb_); have q0 := HX1.out.sr.cell mh 0 rfl; have q1 := HX1.out.sr.cell mh 1 rfl; have q2 := HX1.out.sr.cell mh 2 rfl; have q3 := HX1.out.sr.cell mh 3 rfl; have q4 := HX1.out.sr.cell mh 4 rfl; have q5 := HX1.out.sr.cell mh 5 rfl; have q6 := HX1.out.sr.cell mh 6 rfl; have q7 := HX1.out.sr.cell mh 7 rfl; have q8 := HX1.out.sr.cell mh 8 rfl; have q9 := HX1.out.sr.cell mh 9 rfl; have q10 := HX1.out.sr.cell mh 10 rfl; clear hbox_ hb_ hg_)
    | fail)
  clear q0 q1 q2 q3 q4 q5 q6 q7 q8 q9 q10
  refine (whole_call (HY.out.below HX1.out.bel) HK.out n HN.out.1 HN.out.2.1).mono ?_
  rintro e w2 ⟨rfl, h2⟩
  have HX2 := Lib.hid (HX1.out.below h2)
  clear h2
  go_wp2_with fail
  refine (Sealed_at (y.whole n) HX2.out.wt (Int.le_trans HN.out.2.2 HL.out.1) (by have := HL.out.2; have := HN.out.2.1; omega)).mono ?_
  rintro e w3 ⟨v, rfl, hv, hb⟩
  have HV := Lib.hid hv
  have HX3 := Lib.hid (HX2.out.below hb)
  clear hv hb
  go_wp2_with fail
  refine bodyPost_ret (v := .tuple #[v, .int .i64 0]) ?_ rfl ?_
  · simp [results, Tryz.results50, go_sem]
  · exact ⟨v, rfl, R_low HV.out HX2.out.bel.size, HX3.out.bel⟩
end Go.Proofs.YtmbnomlkhmcmaaaGreat.A
end
section
namespace Go.Proofs.YtmbnomlkhmcmaaaGreat.A
open Go.RowKit Go.Shelf Go.Proofs.YtmbnomlkhmcmaaaGreatW.PrintWords Go.Proofs.YtmbnomlkhmcmaaaGreatW.PrintLast Go.Proofs.YtmbnomlkhmcmaaaGreat.B Go.Proofs.YtmbnomlkhmcmaaaGreat.C
set_option linter.unusedVariables false
set_option linter.unusedSimpArgs false
theorem keyP_call (a b c : Int) (w : World) : Calls Tryz.prog 147 #[.agg #[.int .i64 a, .int .i64 b, .int .i64 c]] w fun e w' => e = .returned (.int .i64 a) ∧ Below w.heap.size w w' := by
  go_enter Tryz.func147, Tryz.ntmps147
  go_wp2_with (first
    | ((with_reducible refine gate_dst (N := 1) rfl ?_); refine box_event ?hg (N := 1) ?hd (cs := #[.int .i64 a, .int .i64 b, .int .i64 c]) (t := 138) ?hr ?_; (case hd => rfl); (case hg => rfl); (case hr => first | (go_simp; done) | (go_simp; rfl)); intro gb hg_ w1 hbox_ hb_; have HB := Lib.hid hb_; have q0 : w1.cell? ⟨gb, 0, none⟩ = some (.int .i64 a) := (blk_cell hbox_ 0).trans rfl; clear hbox_ hb_ hg_)
    | fail)
  go_ret
  exact ⟨rfl, HB.out⟩
theorem keyD_call (g : Bool) (s : ByteArray) (c : Int) (w : World) : Calls Tryz.prog 149 #[.agg #[.bool g, .string s, .int .i64 c]] w fun e w' => e = .returned (.string s) ∧ Below w.heap.size w w' := by
  go_enter Tryz.func149, Tryz.ntmps149
  go_wp2_with (first
    | ((with_reducible refine gate_dst (N := 1) rfl ?_); refine box_event ?hg (N := 1) ?hd (cs := #[.bool g, .string s, .int .i64 c]) (t := 109) ?hr ?_; (case hd => rfl); (case hg => rfl); (case hr => first | (go_simp; done) | (go_simp; rfl)); intro gb hg_ w1 hbox_ hb_; have HB := Lib.hid hb_; have q0 : w1.cell? ⟨gb, 1, none⟩ = some (.string s) := (blk_cell hbox_ 1).trans rfl; clear hbox_ hb_ hg_)
    | fail)
  go_ret
  exact ⟨rfl, HB.out⟩
theorem keyE_call (s : ByteArray) (c : Int) (w : World) : Calls Tryz.prog 132 #[.agg #[.string s, .int .i64 c]] w fun e w' => e = .returned (.string s) ∧ Below w.heap.size w w' := by
  go_enter Tryz.func132, Tryz.ntmps132
  go_wp2_with (first
    | ((with_reducible refine gate_dst (N := 1) rfl ?_); refine box_event ?hg (N := 1) ?hd (cs := #[.string s, .int .i64 c]) (t := 107) ?hr ?_; (case hd => rfl); (case hg => rfl); (case hr => first | (go_simp; done) | (go_simp; rfl)); intro gb hg_ w1 hbox_ hb_; have HB := Lib.hid hb_; have q0 : w1.cell? ⟨gb, 0, none⟩ = some (.string s) := (blk_cell hbox_ 0).trans rfl; clear hbox_ hb_ hg_)
    | fail)
  go_ret
  exact ⟨rfl, HB.out⟩
end Go.Proofs.YtmbnomlkhmcmaaaGreat.A
end
section
namespace Go.Proofs.YtmbnomlkhmcmaaaGreat.A
open Go.RowKit Go.Shelf Go.Proofs.YtmbnomlkhmcmaaaGreatW.PrintWords Go.Proofs.YtmbnomlkhmcmaaaGreatW.PrintLast Go.Proofs.YtmbnomlkhmcmaaaGreat.B Go.Proofs.YtmbnomlkhmcmaaaGreat.C Go.Proofs.YtmbnomlkhmcmaaaGreat.Z
set_option linter.unusedVariables false
set_option linter.unusedSimpArgs false
def risB (l : List Int) : Bool := (List.range (l.length - 1)).all fun j => decide (l.getD j 0 < l.getD (j + 1) 0)
theorem risB_iff (l : List Int) : risB l = true ↔ ∀ j, j + 1 < l.length → l.getD j 0 < l.getD (j + 1) 0 := by
 unfold risB
 rw [List.all_eq_true]
 constructor
 ·intro h j hj
  exact of_decide_eq_true (h j (List.mem_range.2 (by omega)))
 ·intro h j hj
  have := List.mem_range.1 hj
  exact decide_eq_true (h j (by omega))
set_option maxHeartbeats 4000000 in
set_option maxRecDepth 100000 in
theorem risP_call (A : Option Addr) (c : Nat) (l : List S138) (w : World) (hC : Kd.C k138 w A l.length l) (hl : l.length ≤ 300) :
  Calls Tryz.prog 146 #[.slice A l.length c, .func (.func 147) #[] #[]] w fun e w' => e = .returned (.bool (risB (l.map (·.f0)))) ∧ Below w.heap.size w w' := by
 have HC := Lib.hid hC
 obtain ⟨n, hn⟩ : ∃ n, l.length = n := ⟨_, rfl⟩
 have HN := Lib.hid hn
 have HL := Lib.hid hl
 rw [hn]
 clear hC hl hn
 go_enter Tryz.func146, Tryz.ntmps146
 go_wp2_with fail
 go_loopw [5] (fun i wr => ∃ k : Nat, (k + 1 ≤ n ∨ k = 0) ∧ i = .int .i64 ((k + 1 : Nat) : Int) ∧ Hid (∀ j, j < k → (l.map (·.f0)).getD j 0 < (l.map (·.f0)).getD (j + 1) 0) ∧ Hid (Below w.heap.size w wr)) (fun i _ => n - (intOf i).toNat)
 case atStart =>
  exact ⟨0, .inr rfl, rfl, fun j hj => absurd hj (Nat.not_lt_zero _), Below.refl _ _⟩
 case round =>
  obtain ⟨k, hk, rfl, HR, HB⟩ := hrel
  by_cases hlt : k + 1 < n
  ·obtain ⟨⟨a0, ⟨a1, a2⟩⟩, ha⟩ : ∃ b, rd_T138 l (k : Int) = b := ⟨_, rfl⟩
   obtain ⟨⟨b0, ⟨b1, b2⟩⟩, hb⟩ : ∃ b, rd_T138 l ((k + 1 : Nat) : Int) = b := ⟨_, rfl⟩
   have hka : (l.map (·.f0)).getD k 0 = a0 ∧ (l.map (·.f0)).getD (k + 1) 0 = b0 := by
    unfold rd_T138 at ha hb
    rw [Int.toNat_natCast, List.getD_eq_getElem?_getD] at ha hb
    have h1 := HN.out
    rw [List.getElem?_eq_getElem (by omega)] at ha hb
    simp only [Option.getD_some] at ha hb
    rw [List.getD_eq_getElem?_getD, List.getD_eq_getElem?_getD, List.getElem?_map, List.getElem?_map, List.getElem?_eq_getElem (by omega), List.getElem?_eq_getElem (by omega), ha, hb]
    exact ⟨rfl, rfl⟩
   have HK := Lib.hid hka
   obtain ⟨ad, rfl, q0, q1, q2⟩ := at_T138 (Kd.C_below HC.out HB.out) (k : Int) (by omega) (by have := HN.out; omega)
   obtain ⟨ad', e', p0, p1, p2⟩ := at_T138 (Kd.C_below HC.out HB.out) ((k + 1 : Nat) : Int) (by omega) (by have := HN.out; omega)
   cases e'
   rw [ha] at q0 q1 q2
   rw [hb] at p0 p1 p2
   simp only [Int.toNat_natCast] at q0 q1 q2 p0 p1 p2
   have ew : wrap64 (k : Int) = (k : Int) := by have := HN.out; have := HL.out; exact wr64 (by omega) (by omega)
   have c0 : (0 : Int) ≤ (k : Int) + 1 := by omega
   have c1 : k < n := by omega
   have c2 : (0 : Int) ≤ (k : Int) := by omega
   clear ha hb hka
   go_upto_region 4 with fail
   refine stq 14 0 (fun w' => w'.cell? (ad.add (k * 3)) = some (.int .i64 a0) ∧ w'.cell? ⟨(ad.add (k * 3)).block, (ad.add (k * 3)).off + 1, none⟩ = some (.int .i64 a1) ∧ w'.cell? ⟨(ad.add (k * 3)).block, (ad.add (k * 3)).off + 2, none⟩ = some (.int .i64 a2) ∧ w'.cell? (ad.add ((k + 1) * 3)) = some (.int .i64 b0) ∧ w'.cell? ⟨(ad.add ((k + 1) * 3)).block, (ad.add ((k + 1) * 3)).off + 1, none⟩ = some (.int .i64 b1) ∧ w'.cell? ⟨(ad.add ((k + 1) * 3)).block, (ad.add ((k + 1) * 3)).off + 2, none⟩ = some (.int .i64 b2)) ⟨pw_cell_below (drewB wr) q0, pw_cell_below (drewB wr) q1, pw_cell_below (drewB wr) q2, pw_cell_below (drewB wr) p0, pw_cell_below (drewB wr) p1, pw_cell_below (drewB wr) p2⟩ (fun hHeld => ?_)
   refine pq 0 12 14 1 ?_
   refine pq 1 13 14 3 ?_
   refine pq 2 14 14 7 ?_
   refine pq 3 15 14 15 ?_
   refine pq 4 16 14 31 ?_
   refine pq 7 19 14 159 ?_
   refine pq 8 20 14 415 ?_
   refine pq 9 21 14 927 ?_
   refine pq 10 22 14 1951 ?_
   refine tq 5 17 14 1983 hHeld ?_
   refine tq 11 23 14 4031 hHeld ?_
   refine oq 6 18 14 4095 (fun K hK => ?_)
   refine call_ 147 #[.agg #[.int .i64 a0, .int .i64 a1, .int .i64 a2]] (by rfl) rfl (by go_simp) ?_
   with_reducible refine ((keyP_call a0 a1 a2 _)).mono ?_
   rintro e w1 ⟨rfl, hb_⟩
   refine ⟨_, rfl, ?_⟩
   have HB1 := Lib.hid (below_step (drewB wr) hb_)
   clear hb_
   refine hK.out _ _ ⟨pw_cell_below HB1.out q0, pw_cell_below HB1.out q1, pw_cell_below HB1.out q2, pw_cell_below HB1.out p0, pw_cell_below HB1.out p1, pw_cell_below HB1.out p2⟩ (fun hHeld => ?_)
   clear hK K
   refine nx 18 ?_
   refine oq 12 24 14 8191 (fun K hK => ?_)
   refine call_ 147 #[.agg #[.int .i64 b0, .int .i64 b1, .int .i64 b2]] (by rfl) rfl (by go_simp) ?_
   with_reducible refine ((keyP_call b0 b1 b2 _)).mono ?_
   rintro e w2 ⟨rfl, hb_⟩
   refine ⟨_, rfl, ?_⟩
   have HB2 := Lib.hid (below_step HB1.out hb_)
   clear hb_
   refine hK.out _ _ ⟨pw_cell_below HB2.out q0, pw_cell_below HB2.out q1, pw_cell_below HB2.out q2, pw_cell_below HB2.out p0, pw_cell_below HB2.out p1, pw_cell_below HB2.out p2⟩ (fun hHeld => ?_)
   clear hK K
   refine nx 24 ?_
   refine pq 13 25 14 16383 ?_
   refine done_ (by kernel_rfl) ?_
   by_cases hlt2 : a0 < b0
   ·have hd : decide (b0 ≤ a0) = false := decide_eq_false (by omega)
    go_wp2_with fail
    have ek : wrap64 ((k : Int) + 1 + 1) = ((k + 1 + 1 : Nat) : Int) := by have := HN.out; have := HL.out; rw [wr64 (by omega) (by omega)]; omega
    rw [ek]
    refine ⟨⟨k + 1, .inl (by omega), rfl, fun j hj => ?_, below_step HB.out HB2.out⟩, ?_⟩
    ·by_cases hj2 : j < k
     ·exact HR.out j hj2
     ·obtain rfl : j = k := by omega
      rw [HK.out.1, HK.out.2]; exact hlt2
    ·simp only [intOf]
     omega
   ·have hd : decide (b0 ≤ a0) = true := decide_eq_true (by omega)
    have hv : risB (l.map (·.f0)) = false := by
     cases h : risB (l.map (·.f0)) with
     | false => rfl
     | true =>
      have h1 := (risB_iff _).1 h k (by rw [List.length_map]; have := HN.out; omega)
      rw [HK.out.1, HK.out.2] at h1
      exact absurd h1 hlt2
    go_wp2_with fail
    go_ret
    exact ⟨rfl, below_step HB.out HB2.out⟩
  ·have hall := HR.out
   have hv : risB (l.map (·.f0)) = true := (risB_iff _).2 fun j hj => hall j (by rw [List.length_map] at hj; have := HN.out; omega)
   go_wp2_with fail
   go_ret
   exact ⟨rfl, HB.out⟩
end Go.Proofs.YtmbnomlkhmcmaaaGreat.A
end
section
namespace Go.Proofs.YtmbnomlkhmcmaaaGreat.A
open Go.RowKit Go.Shelf Go.Proofs.YtmbnomlkhmcmaaaGreatW.PrintWords Go.Proofs.YtmbnomlkhmcmaaaGreatW.PrintLast Go.Proofs.YtmbnomlkhmcmaaaGreat.B Go.Proofs.YtmbnomlkhmcmaaaGreat.C
set_option linter.unusedVariables false
set_option linter.unusedSimpArgs false
def mayF : List Int → List Bk → Bool
  | _, [] => true
  | seen, b :: r => if b.f0 < 0 then false else if b.f0 ≥ 64 then false else if b.f0 ∈ seen then false else if b.f1.length = 37 then mayF (b.f0 :: seen) r else false
def Seen (w : World) (B : Nat) (seen : List Int) : Prop := B < w.heap.size ∧ ∀ j : Nat, j < 64 → w.cell? ⟨B, j, none⟩ = some (.bool (decide ((j : Int) ∈ seen))) ∧ w.frozen? ⟨B, j, none⟩ = false
theorem seen_start (w : World) (t : TypeId) : Seen (w.alloc (.cells (Array.replicate 64 (.bool false)) t)) w.heap.size [] := by
  refine ⟨by simp, fun j hj => ⟨?_, ?_⟩⟩
  · rw [World.cell?_alloc_at _ _ _ _ rfl]
    simp [hj]
  · unfold World.frozen?
    simp only [Option.isSome_none, Bool.false_eq_true, if_false]
    rw [(MapKept.heap_alloc w _).1]
    simp
theorem Seen.alloc {w : World} {B : Nat} {seen : List Int} (h : Seen w B seen) (o : Obj) : Seen (w.alloc o) B seen :=
  ⟨by simp; have := h.1; omega, fun j hj => by
    have e := Below.heap_alloc w o B h.1
    exact ⟨(World.cell?_of_block e).trans (h.2 j hj).1, (World.frozen?_of_block e).trans (h.2 j hj).2⟩⟩
theorem Seen.store {w : World} {B : Nat} {seen : List Int} (h : Seen w B seen) {id : Int} (h0 : 0 ≤ id) (h1 : id < 64) : Seen (w.setCell ⟨B, id.toNat, none⟩ (.bool true)) B (id :: seen) := by
  refine ⟨by simp [World.setCell]; exact h.1, fun j hj => ⟨?_, ?_⟩⟩
  · by_cases e : j = id.toNat
    · subst e
      have hc := (h.2 id.toNat hj).1
      have e2 : ((id.toNat : Nat) : Int) = id := by omega
      rw [e2]
      unfold World.cell? World.setCell at *
      simp only [Array.getElem?_modify, if_true] at hc ⊢
      cases hb : w.heap[B]? with
      | none => simp [hb] at hc
      | some o =>
        cases o with
        | cells cs t fr =>
          simp only [hb, Option.map_some] at hc ⊢
          have hlt : id.toNat < cs.size := by
            by_cases hl : id.toNat < cs.size
            · exact hl
            · simp [hl] at hc
          simp [hlt]
        | _ => simp [hb] at hc
    · have : decide ((j : Int) ∈ id :: seen) = decide ((j : Int) ∈ seen) := by
        rw [decide_eq_decide, List.mem_cons]
        constructor
        · rintro (h | h)
          · omega
          · exact h
        · exact .inr
      rw [this, ← (h.2 j hj).1]
      unfold World.cell? World.setCell
      simp only [Array.getElem?_modify, if_true]
      cases hb : w.heap[B]? with
      | none => rfl
      | some o =>
        cases o with
        | cells cs t fr => simp [Ne.symm e]
        | _ => rfl
  · rw [World.frozen?_setCell]
    exact (h.2 j hj).2
set_option maxHeartbeats 2000000 in
set_option maxRecDepth 100000 in
theorem May_calls (A0 : Option Addr) (c0 : Nat) (l0 : List Bk) (w : World) (hr0 : Kd.C k170 w A0 l0.length l0) (hc0 : l0.length ≤ c0) (hbig : l0.length ≤ 9223372036854775807) :
    Calls Tryz.prog 181 #[.slice A0 l0.length c0] w fun e w' => e = .returned (.bool (mayF [] l0)) ∧ Below w.heap.size w w' := by
  have HR := Lib.hid hr0
  clear hr0
  go_enter Tryz.func181, Tryz.ntmps181
  go_wp2
  go_loopw [8] (fun i wr => ∃ (k : Nat) (seen : List Int), k ≤ l0.length ∧ i = .int .i64 k ∧ Hid (mayF [] l0 = mayF seen (l0.drop k)) ∧ Hid (Seen wr w.heap.size seen) ∧ Hid (Below w.heap.size w wr)) (fun i _ => l0.length - (intOf i).toNat)
  case atStart =>
    exact ⟨0, [], Nat.zero_le _, rfl, rfl, seen_start w _, (Below.refl _ w).alloc (Nat.le_refl _) _⟩
  case round =>
    obtain ⟨k, seen, hk, rfl, HE, HS, HB⟩ := hrel
    by_cases hlt : k < l0.length
    · obtain ⟨⟨id, xs⟩, hb⟩ : ∃ b, rd_T170 l0 (k : Int) = b := ⟨_, rfl⟩
      have hd : l0.drop k = ⟨id, xs⟩ :: l0.drop (k + 1) := by
        rw [List.drop_eq_getElem_cons hlt, ← hb]
        congr 1
        unfold rd_T170
        rw [Int.toNat_natCast, List.getD_eq_getElem?_getD, List.getElem?_eq_getElem hlt]
        rfl
      obtain ⟨ad, A1, c1, rfl, q0, q1, l1, g1⟩ := at_T170 (Kd.C_below HR.out HB.out) (k : Int) (by omega) (by omega)
      rw [hb] at q0 q1 l1
      simp only [Int.toNat_natCast] at q0 q1 l1
      have HD := Lib.hid hd
      have sz := HS.out.1
      clear hb hd g1
      have hBw : w.heap.size ≤ wr.heap.size := Nat.le_of_lt sz
      by_cases h0 : id < 0
      · have HV := Lib.hid (show mayF [] l0 = false by rw [HE.out, HD.out]; unfold mayF; rw [if_pos h0])
        have b0 : decide (id < 0) = true := decide_eq_true h0
        clear h0
        go_wp2
        go_ret
        exact ⟨by rw [HV.out]; rfl, HB.out.alloc hBw _⟩
      · have b0 : decide (id < 0) = false := decide_eq_false h0
        by_cases h1 : id ≥ 64
        · have HV := Lib.hid (show mayF [] l0 = false by rw [HE.out, HD.out]; unfold mayF; rw [if_neg h0, if_pos h1])
          have b1 : decide (64 ≤ id) = true := decide_eq_true h1
          clear h0 h1
          go_wp2
          go_ret
          exact ⟨by rw [HV.out]; rfl, HB.out.alloc hBw _⟩
        · have b1 : decide (64 ≤ id) = false := decide_eq_false h1
          have sc := (HS.out.2 id.toNat (by omega)).1
          have sf := (HS.out.2 id.toNat (by omega)).2
          rw [show ((id.toNat : Nat) : Int) = id by omega] at sc
          have bd : 0 ≤ id ∧ id < 64 := by omega
          by_cases h2 : id ∈ seen
          · have HV := Lib.hid (show mayF [] l0 = false by rw [HE.out, HD.out]; unfold mayF; rw [if_neg h0, if_neg h1, if_pos h2])
            rw [decide_eq_true h2] at sc
            obtain ⟨bd0, bd1⟩ := bd
            clear h0 h1 h2
            go_wp2
            go_ret
            exact ⟨by rw [HV.out]; rfl, HB.out.alloc hBw _⟩
          · rw [decide_eq_false h2] at sc
            by_cases h3 : xs.length = 37
            · have HV := Lib.hid (show mayF [] l0 = mayF (id :: seen) (l0.drop (k + 1)) by rw [HE.out, HD.out, mayF.eq_def]; simp only; rw [if_neg h0, if_neg h1, if_neg h2, if_pos h3])
              have HS1 := Lib.hid ((HS.out.store bd.1 bd.2).alloc (.cells #[.int .i64 id, .slice A1 xs.length c1] 170))
              have b3 : ((xs.length : Int) != 37) = false := by rw [h3]; rfl
              obtain ⟨bd0, bd1⟩ := bd
              clear h0 h1 h2 h3
              go_wp2
              go_roundw
              case rel => exact ⟨k + 1, id :: seen, by omega, by go_num, HV.out, HS1.out, (HB.out.setCell (p := ⟨w.heap.size, _, none⟩) (Nat.le_refl _) _).alloc (by simp [World.setCell]; exact hBw) _⟩
              case measure => simp [intOf]; omega
            · have HV := Lib.hid (show mayF [] l0 = false by rw [HE.out, HD.out]; unfold mayF; rw [if_neg h0, if_neg h1, if_neg h2, if_neg h3])
              have b3 : ((xs.length : Int) != 37) = true := by rw [bne_iff_ne]; omega
              obtain ⟨bd0, bd1⟩ := bd
              clear h0 h1 h2 h3
              go_wp2
              go_ret
              exact ⟨by rw [HV.out]; rfl, HB.out.alloc hBw _⟩
    · go_wp2
      go_ret
      have : k = l0.length := by omega
      subst this
      exact ⟨by rw [HE.out, List.drop_length]; rfl, HB.out⟩
end Go.Proofs.YtmbnomlkhmcmaaaGreat.A
end
section
namespace Go.Proofs.YtmbnomlkhmcmaaaGreat.A
open Go.RowKit Go.Shelf Go.Proofs.YtmbnomlkhmcmaaaGreatW.PrintWords Go.Proofs.YtmbnomlkhmcmaaaGreatW.PrintLast Go.Proofs.YtmbnomlkhmcmaaaGreat.B Go.Proofs.YtmbnomlkhmcmaaaGreat.C Go.Proofs.YtmbnomlkhmcmaaaGreat.Z
set_option linter.unusedVariables false
set_option linter.unusedSimpArgs false
def ltS (a b : ByteArray) : Bool := Op.bytesLess a.toList b.toList
theorem less_total : ∀ a b : List UInt8, (Op.bytesLess b a || b == a) = !(Op.bytesLess a b)
 | [], [] => by simp [Op.bytesLess]
 | [], _ :: _ => by simp [Op.bytesLess]
 | _ :: _, [] => by simp [Op.bytesLess]
 | a :: x, b :: y => by
  have h := less_total x y
  unfold Op.bytesLess
  by_cases h1 : a < b
  ·have h2 : ¬ b < a := by rw [UInt8.lt_iff_toNat_lt] at *; omega
   have h3 : ¬ b = a := by rintro rfl; rw [UInt8.lt_iff_toNat_lt] at *; omega
   simp [h1, h2, h3]
  ·by_cases h2 : b < a
   ·have h3 : ¬ a = b := by rintro rfl; rw [UInt8.lt_iff_toNat_lt] at *; omega
    simp [h1, h2, h3]
   ·have h3 : a = b := by apply UInt8.toNat_inj.1; rw [UInt8.lt_iff_toNat_lt] at *; omega
    subst h3
    simpa [h1] using h
def risS (l : List ByteArray) : Bool := (List.range (l.length - 1)).all fun j => ltS (l.getD j ByteArray.empty) (l.getD (j + 1) ByteArray.empty)
theorem risS_iff (l : List ByteArray) : risS l = true ↔ ∀ j, j + 1 < l.length → ltS (l.getD j ByteArray.empty) (l.getD (j + 1) ByteArray.empty) = true := by
 unfold risS
 rw [List.all_eq_true]
 constructor
 ·intro h j hj
  exact h j (List.mem_range.2 (by omega))
 ·intro h j hj
  have := List.mem_range.1 hj
  exact h j (by omega)
theorem keyK_call (a : Int) (A : Option Addr) (n c : Nat) (w : World) : Calls Tryz.prog 183 #[.agg #[.int .i64 a, .slice A n c]] w fun e w' => e = .returned (.int .i64 a) ∧ Below w.heap.size w w' := by
 go_enter Tryz.func183, Tryz.ntmps183
 go_wp2_with (first
  | ((with_reducible refine gate_dst (N := 1) rfl ?_); refine box_event ?hg (N := 1) ?hd (cs := #[.int .i64 a, .slice A n c]) (t := 170) ?hr ?_; (case hd => rfl); (case hg => rfl); (case hr => first | (go_simp; done) | (go_simp; rfl)); intro gb hg_ w1 hbox_ hb_; have HB := Lib.hid hb_; have q0 : w1.cell? ⟨gb, 0, none⟩ = some (.int .i64 a) := (blk_cell hbox_ 0).trans rfl; clear hbox_ hb_ hg_)
  | fail)
 go_ret
 exact ⟨rfl, HB.out⟩
set_option maxHeartbeats 4000000 in
set_option maxRecDepth 100000 in
theorem risD_call (A : Option Addr) (c : Nat) (l : List S109) (w : World) (hC : Kd.C k109 w A l.length l) (hl : l.length ≤ 300) :
  Calls Tryz.prog 148 #[.slice A l.length c, .func (.func 149) #[] #[]] w fun e w' => e = .returned (.bool (risS (l.map (·.f1.f0)))) ∧ Below w.heap.size w w' := by
 have HC := Lib.hid hC
 obtain ⟨n, hn⟩ : ∃ n, l.length = n := ⟨_, rfl⟩
 have HN := Lib.hid hn
 have HL := Lib.hid hl
 rw [hn]
 clear hC hl hn
 go_enter Tryz.func148, Tryz.ntmps148
 go_wp2_with fail
 go_loopw [5] (fun i wr => ∃ k : Nat, (k + 1 ≤ n ∨ k = 0) ∧ i = .int .i64 ((k + 1 : Nat) : Int) ∧ Hid (∀ j, j < k → ltS ((l.map (·.f1.f0)).getD j ByteArray.empty) ((l.map (·.f1.f0)).getD (j + 1) ByteArray.empty) = true) ∧ Hid (Below w.heap.size w wr)) (fun i _ => n - (intOf i).toNat)
 case atStart =>
  exact ⟨0, .inr rfl, rfl, fun j hj => absurd hj (Nat.not_lt_zero _), Below.refl _ _⟩
 case round =>
  obtain ⟨k, hk, rfl, HR, HB⟩ := hrel
  by_cases hlt : k + 1 < n
  ·obtain ⟨⟨a0, ⟨a1, a2⟩⟩, ha⟩ : ∃ b, rd_T109 l (k : Int) = b := ⟨_, rfl⟩
   obtain ⟨⟨b0, ⟨b1, b2⟩⟩, hb⟩ : ∃ b, rd_T109 l ((k + 1 : Nat) : Int) = b := ⟨_, rfl⟩
   have hka : (l.map (·.f1.f0)).getD k ByteArray.empty = a1 ∧ (l.map (·.f1.f0)).getD (k + 1) ByteArray.empty = b1 := by
    unfold rd_T109 at ha hb
    rw [Int.toNat_natCast, List.getD_eq_getElem?_getD] at ha hb
    have h1 := HN.out
    rw [List.getElem?_eq_getElem (by omega)] at ha hb
    simp only [Option.getD_some] at ha hb
    rw [List.getD_eq_getElem?_getD, List.getD_eq_getElem?_getD, List.getElem?_map, List.getElem?_map, List.getElem?_eq_getElem (by omega), List.getElem?_eq_getElem (by omega), ha, hb]
    exact ⟨rfl, rfl⟩
   have HK := Lib.hid hka
   obtain ⟨ad, rfl, q0, q1, q2⟩ := at_T109 (Kd.C_below HC.out HB.out) (k : Int) (by omega) (by have := HN.out; omega)
   obtain ⟨ad', e', p0, p1, p2⟩ := at_T109 (Kd.C_below HC.out HB.out) ((k + 1 : Nat) : Int) (by omega) (by have := HN.out; omega)
   cases e'
   rw [ha] at q0 q1 q2
   rw [hb] at p0 p1 p2
   simp only [Int.toNat_natCast] at q0 q1 q2 p0 p1 p2
   have ew : wrap64 (k : Int) = (k : Int) := by have := HN.out; have := HL.out; exact wr64 (by omega) (by omega)
   have c0 : (0 : Int) ≤ (k : Int) + 1 := by omega
   have c1 : k < n := by omega
   have c2 : (0 : Int) ≤ (k : Int) := by omega
   clear ha hb hka
   go_upto_region 4 with fail
   refine stq 14 0 (fun w' => w'.cell? (ad.add (k * 3)) = some (.bool a0) ∧ w'.cell? ⟨(ad.add (k * 3)).block, (ad.add (k * 3)).off + 1, none⟩ = some (.string a1) ∧ w'.cell? ⟨(ad.add (k * 3)).block, (ad.add (k * 3)).off + 2, none⟩ = some (.int .i64 a2) ∧ w'.cell? (ad.add ((k + 1) * 3)) = some (.bool b0) ∧ w'.cell? ⟨(ad.add ((k + 1) * 3)).block, (ad.add ((k + 1) * 3)).off + 1, none⟩ = some (.string b1) ∧ w'.cell? ⟨(ad.add ((k + 1) * 3)).block, (ad.add ((k + 1) * 3)).off + 2, none⟩ = some (.int .i64 b2)) ⟨pw_cell_below (drewB wr) q0, pw_cell_below (drewB wr) q1, pw_cell_below (drewB wr) q2, pw_cell_below (drewB wr) p0, pw_cell_below (drewB wr) p1, pw_cell_below (drewB wr) p2⟩ (fun hHeld => ?_)
   refine pq 0 12 14 1 ?_
   refine pq 1 13 14 3 ?_
   refine pq 2 14 14 7 ?_
   refine pq 3 15 14 15 ?_
   refine pq 4 16 14 31 ?_
   refine pq 7 19 14 159 ?_
   refine pq 8 20 14 415 ?_
   refine pq 9 21 14 927 ?_
   refine pq 10 22 14 1951 ?_
   refine tq 5 17 14 1983 hHeld ?_
   refine tq 11 23 14 4031 hHeld ?_
   refine oq 6 18 14 4095 (fun K hK => ?_)
   refine call_ 149 #[.agg #[.bool a0, .string a1, .int .i64 a2]] (by rfl) rfl (by go_simp) ?_
   with_reducible refine ((keyD_call a0 a1 a2 _)).mono ?_
   rintro e w1 ⟨rfl, hb_⟩
   refine ⟨_, rfl, ?_⟩
   have HB1 := Lib.hid (below_step (drewB wr) hb_)
   clear hb_
   refine hK.out _ _ ⟨pw_cell_below HB1.out q0, pw_cell_below HB1.out q1, pw_cell_below HB1.out q2, pw_cell_below HB1.out p0, pw_cell_below HB1.out p1, pw_cell_below HB1.out p2⟩ (fun hHeld => ?_)
   clear hK K
   refine nx 18 ?_
   refine oq 12 24 14 8191 (fun K hK => ?_)
   refine call_ 149 #[.agg #[.bool b0, .string b1, .int .i64 b2]] (by rfl) rfl (by go_simp) ?_
   with_reducible refine ((keyD_call b0 b1 b2 _)).mono ?_
   rintro e w2 ⟨rfl, hb_⟩
   refine ⟨_, rfl, ?_⟩
   have HB2 := Lib.hid (below_step HB1.out hb_)
   clear hb_
   refine hK.out _ _ ⟨pw_cell_below HB2.out q0, pw_cell_below HB2.out q1, pw_cell_below HB2.out q2, pw_cell_below HB2.out p0, pw_cell_below HB2.out p1, pw_cell_below HB2.out p2⟩ (fun hHeld => ?_)
   clear hK K
   refine nx 24 ?_
   refine pq 13 25 14 16383 ?_
   refine done_ (by kernel_rfl) ?_
   cases hcb : (!(Op.bytesLess a1.toList b1.toList)) with
   | false =>
    have hlt2 : ltS a1 b1 = true := by unfold ltS; rw [Bool.not_eq_false'] at hcb; exact hcb
    clear hcb
    go_wp2_with fail
    have ek : wrap64 ((k : Int) + 1 + 1) = ((k + 1 + 1 : Nat) : Int) := by have := HN.out; have := HL.out; rw [wr64 (by omega) (by omega)]; omega
    rw [ek]
    refine ⟨⟨k + 1, .inl (by omega), rfl, fun j hj => ?_, below_step HB.out HB2.out⟩, ?_⟩
    ·by_cases hj2 : j < k
     ·exact HR.out j hj2
     ·obtain rfl : j = k := by omega
      rw [HK.out.1, HK.out.2]; exact hlt2
    ·simp only [intOf]
     omega
   | true =>
    have hlt2 : ¬ (ltS a1 b1 = true) := by unfold ltS; rw [Bool.not_eq_true'] at hcb; rw [hcb]; decide
    clear hcb
    have hv : risS (l.map (·.f1.f0)) = false := by
     cases h : risS (l.map (·.f1.f0)) with
     | false => rfl
     | true =>
      have h1 := (risS_iff _).1 h k (by rw [List.length_map]; have := HN.out; omega)
      rw [HK.out.1, HK.out.2] at h1
      exact absurd h1 hlt2
    go_wp2_with fail
    go_ret
    exact ⟨rfl, below_step HB.out HB2.out⟩
  ·have hall := HR.out
   have hv : risS (l.map (·.f1.f0)) = true := (risS_iff _).2 fun j hj => hall j (by rw [List.length_map] at hj; have := HN.out; omega)
   go_wp2_with fail
   go_ret
   exact ⟨rfl, HB.out⟩
set_option maxHeartbeats 4000000 in
set_option maxRecDepth 100000 in
theorem risE_call (A : Option Addr) (c : Nat) (l : List S107) (w : World) (hC : Kd.C k107 w A l.length l) (hl : l.length ≤ 300) :
  Calls Tryz.prog 131 #[.slice A l.length c, .func (.func 132) #[] #[]] w fun e w' => e = .returned (.bool (risS (l.map (·.f0)))) ∧ Below w.heap.size w w' := by
 have HC := Lib.hid hC
 obtain ⟨n, hn⟩ : ∃ n, l.length = n := ⟨_, rfl⟩
 have HN := Lib.hid hn
 have HL := Lib.hid hl
 rw [hn]
 clear hC hl hn
 go_enter Tryz.func131, Tryz.ntmps131
 go_wp2_with fail
 go_loopw [5] (fun i wr => ∃ k : Nat, (k + 1 ≤ n ∨ k = 0) ∧ i = .int .i64 ((k + 1 : Nat) : Int) ∧ Hid (∀ j, j < k → ltS ((l.map (·.f0)).getD j ByteArray.empty) ((l.map (·.f0)).getD (j + 1) ByteArray.empty) = true) ∧ Hid (Below w.heap.size w wr)) (fun i _ => n - (intOf i).toNat)
 case atStart =>
  exact ⟨0, .inr rfl, rfl, fun j hj => absurd hj (Nat.not_lt_zero _), Below.refl _ _⟩
 case round =>
  obtain ⟨k, hk, rfl, HR, HB⟩ := hrel
  by_cases hlt : k + 1 < n
  ·obtain ⟨⟨a0, a1⟩, ha⟩ : ∃ b, rd_T107 l (k : Int) = b := ⟨_, rfl⟩
   obtain ⟨⟨b0, b1⟩, hb⟩ : ∃ b, rd_T107 l ((k + 1 : Nat) : Int) = b := ⟨_, rfl⟩
   have hka : (l.map (·.f0)).getD k ByteArray.empty = a0 ∧ (l.map (·.f0)).getD (k + 1) ByteArray.empty = b0 := by
    unfold rd_T107 at ha hb
    rw [Int.toNat_natCast, List.getD_eq_getElem?_getD] at ha hb
    have h1 := HN.out
    rw [List.getElem?_eq_getElem (by omega)] at ha hb
    simp only [Option.getD_some] at ha hb
    rw [List.getD_eq_getElem?_getD, List.getD_eq_getElem?_getD, List.getElem?_map, List.getElem?_map, List.getElem?_eq_getElem (by omega), List.getElem?_eq_getElem (by omega), ha, hb]
    exact ⟨rfl, rfl⟩
   have HK := Lib.hid hka
   obtain ⟨ad, rfl, q0, q1⟩ := at_T107 (Kd.C_below HC.out HB.out) (k : Int) (by omega) (by have := HN.out; omega)
   obtain ⟨ad', e', p0, p1⟩ := at_T107 (Kd.C_below HC.out HB.out) ((k + 1 : Nat) : Int) (by omega) (by have := HN.out; omega)
   cases e'
   rw [ha] at q0 q1
   rw [hb] at p0 p1
   simp only [Int.toNat_natCast] at q0 q1 p0 p1
   have ew : wrap64 (k : Int) = (k : Int) := by have := HN.out; have := HL.out; exact wr64 (by omega) (by omega)
   have c0 : (0 : Int) ≤ (k : Int) + 1 := by omega
   have c1 : k < n := by omega
   have c2 : (0 : Int) ≤ (k : Int) := by omega
   clear ha hb hka
   go_upto_region 4 with fail
   refine stq 14 0 (fun w' => w'.cell? (ad.add (k * 2)) = some (.string a0) ∧ w'.cell? ⟨(ad.add (k * 2)).block, (ad.add (k * 2)).off + 1, none⟩ = some (.int .i64 a1) ∧ w'.cell? (ad.add ((k + 1) * 2)) = some (.string b0) ∧ w'.cell? ⟨(ad.add ((k + 1) * 2)).block, (ad.add ((k + 1) * 2)).off + 1, none⟩ = some (.int .i64 b1)) ⟨pw_cell_below (drewB wr) q0, pw_cell_below (drewB wr) q1, pw_cell_below (drewB wr) p0, pw_cell_below (drewB wr) p1⟩ (fun hHeld => ?_)
   refine pq 0 12 14 1 ?_
   refine pq 1 13 14 3 ?_
   refine pq 2 14 14 7 ?_
   refine pq 3 15 14 15 ?_
   refine pq 4 16 14 31 ?_
   refine pq 7 19 14 159 ?_
   refine pq 8 20 14 415 ?_
   refine pq 9 21 14 927 ?_
   refine pq 10 22 14 1951 ?_
   refine tq 5 17 14 1983 hHeld ?_
   refine tq 11 23 14 4031 hHeld ?_
   refine oq 6 18 14 4095 (fun K hK => ?_)
   refine call_ 132 #[.agg #[.string a0, .int .i64 a1]] (by rfl) rfl (by go_simp) ?_
   with_reducible refine ((keyE_call a0 a1 _)).mono ?_
   rintro e w1 ⟨rfl, hb_⟩
   refine ⟨_, rfl, ?_⟩
   have HB1 := Lib.hid (below_step (drewB wr) hb_)
   clear hb_
   refine hK.out _ _ ⟨pw_cell_below HB1.out q0, pw_cell_below HB1.out q1, pw_cell_below HB1.out p0, pw_cell_below HB1.out p1⟩ (fun hHeld => ?_)
   clear hK K
   refine nx 18 ?_
   refine oq 12 24 14 8191 (fun K hK => ?_)
   refine call_ 132 #[.agg #[.string b0, .int .i64 b1]] (by rfl) rfl (by go_simp) ?_
   with_reducible refine ((keyE_call b0 b1 _)).mono ?_
   rintro e w2 ⟨rfl, hb_⟩
   refine ⟨_, rfl, ?_⟩
   have HB2 := Lib.hid (below_step HB1.out hb_)
   clear hb_
   refine hK.out _ _ ⟨pw_cell_below HB2.out q0, pw_cell_below HB2.out q1, pw_cell_below HB2.out p0, pw_cell_below HB2.out p1⟩ (fun hHeld => ?_)
   clear hK K
   refine nx 24 ?_
   refine pq 13 25 14 16383 ?_
   refine done_ (by kernel_rfl) ?_
   cases hcb : (!(Op.bytesLess a0.toList b0.toList)) with
   | false =>
    have hlt2 : ltS a0 b0 = true := by unfold ltS; rw [Bool.not_eq_false'] at hcb; exact hcb
    clear hcb
    go_wp2_with fail
    have ek : wrap64 ((k : Int) + 1 + 1) = ((k + 1 + 1 : Nat) : Int) := by have := HN.out; have := HL.out; rw [wr64 (by omega) (by omega)]; omega
    rw [ek]
    refine ⟨⟨k + 1, .inl (by omega), rfl, fun j hj => ?_, below_step HB.out HB2.out⟩, ?_⟩
    ·by_cases hj2 : j < k
     ·exact HR.out j hj2
     ·obtain rfl : j = k := by omega
      rw [HK.out.1, HK.out.2]; exact hlt2
    ·simp only [intOf]
     omega
   | true =>
    have hlt2 : ¬ (ltS a0 b0 = true) := by unfold ltS; rw [Bool.not_eq_true'] at hcb; rw [hcb]; decide
    clear hcb
    have hv : risS (l.map (·.f0)) = false := by
     cases h : risS (l.map (·.f0)) with
     | false => rfl
     | true =>
      have h1 := (risS_iff _).1 h k (by rw [List.length_map]; have := HN.out; omega)
      rw [HK.out.1, HK.out.2] at h1
      exact absurd h1 hlt2
    go_wp2_with fail
    go_ret
    exact ⟨rfl, below_step HB.out HB2.out⟩
  ·have hall := HR.out
   have hv : risS (l.map (·.f0)) = true := (risS_iff _).2 fun j hj => hall j (by rw [List.length_map] at hj; have := HN.out; omega)
   go_wp2_with fail
   go_ret
   exact ⟨rfl, HB.out⟩
set_option maxHeartbeats 4000000 in
set_option maxRecDepth 100000 in
theorem risK_call (A : Option Addr) (c : Nat) (l : List S170) (w : World) (hC : Kd.C k170 w A l.length l) (hl : l.length ≤ 300) :
  Calls Tryz.prog 182 #[.slice A l.length c, .func (.func 183) #[] #[]] w fun e w' => e = .returned (.bool (risB (l.map (·.f0)))) ∧ Below w.heap.size w w' := by
 have HC := Lib.hid hC
 obtain ⟨n, hn⟩ : ∃ n, l.length = n := ⟨_, rfl⟩
 have HN := Lib.hid hn
 have HL := Lib.hid hl
 rw [hn]
 clear hC hl hn
 go_enter Tryz.func182, Tryz.ntmps182
 go_wp2_with fail
 go_loopw [5] (fun i wr => ∃ k : Nat, (k + 1 ≤ n ∨ k = 0) ∧ i = .int .i64 ((k + 1 : Nat) : Int) ∧ Hid (∀ j, j < k → (l.map (·.f0)).getD j 0 < (l.map (·.f0)).getD (j + 1) 0) ∧ Hid (Below w.heap.size w wr)) (fun i _ => n - (intOf i).toNat)
 case atStart =>
  exact ⟨0, .inr rfl, rfl, fun j hj => absurd hj (Nat.not_lt_zero _), Below.refl _ _⟩
 case round =>
  obtain ⟨k, hk, rfl, HR, HB⟩ := hrel
  by_cases hlt : k + 1 < n
  ·obtain ⟨⟨a0, a1⟩, ha⟩ : ∃ b, rd_T170 l (k : Int) = b := ⟨_, rfl⟩
   obtain ⟨⟨b0, b1⟩, hb⟩ : ∃ b, rd_T170 l ((k + 1 : Nat) : Int) = b := ⟨_, rfl⟩
   have hka : (l.map (·.f0)).getD k 0 = a0 ∧ (l.map (·.f0)).getD (k + 1) 0 = b0 := by
    unfold rd_T170 at ha hb
    rw [Int.toNat_natCast, List.getD_eq_getElem?_getD] at ha hb
    have h1 := HN.out
    rw [List.getElem?_eq_getElem (by omega)] at ha hb
    simp only [Option.getD_some] at ha hb
    rw [List.getD_eq_getElem?_getD, List.getD_eq_getElem?_getD, List.getElem?_map, List.getElem?_map, List.getElem?_eq_getElem (by omega), List.getElem?_eq_getElem (by omega), ha, hb]
    exact ⟨rfl, rfl⟩
   have HK := Lib.hid hka
   obtain ⟨ad, aA, ac, rfl, q0, q1, la_, ga_⟩ := at_T170 (Kd.C_below HC.out HB.out) (k : Int) (by omega) (by have := HN.out; omega)
   obtain ⟨ad', bA, bc, e', p0, p1, lb_, gb_⟩ := at_T170 (Kd.C_below HC.out HB.out) ((k + 1 : Nat) : Int) (by omega) (by have := HN.out; omega)
   cases e'
   rw [ha] at q0 q1
   rw [hb] at p0 p1
   obtain ⟨an, han⟩ : ∃ n, a1.length = n := ⟨_, rfl⟩
   obtain ⟨bn, hbn⟩ : ∃ n, b1.length = n := ⟨_, rfl⟩
   rw [show (⟨a0, a1⟩ : Bk).f1.length = an from han] at q1
   rw [show (⟨b0, b1⟩ : Bk).f1.length = bn from hbn] at p1
   clear la_ ga_ lb_ gb_ han hbn
   simp only [Int.toNat_natCast] at q0 q1 p0 p1
   have ew : wrap64 (k : Int) = (k : Int) := by have := HN.out; have := HL.out; exact wr64 (by omega) (by omega)
   have c0 : (0 : Int) ≤ (k : Int) + 1 := by omega
   have c1 : k < n := by omega
   have c2 : (0 : Int) ≤ (k : Int) := by omega
   clear ha hb hka
   go_upto_region 4 with fail
   refine stq 14 0 (fun w' => w'.cell? (ad.add (k * 2)) = some (.int .i64 a0) ∧ w'.cell? ⟨(ad.add (k * 2)).block, (ad.add (k * 2)).off + 1, none⟩ = some (.slice aA an ac) ∧ w'.cell? (ad.add ((k + 1) * 2)) = some (.int .i64 b0) ∧ w'.cell? ⟨(ad.add ((k + 1) * 2)).block, (ad.add ((k + 1) * 2)).off + 1, none⟩ = some (.slice bA bn bc)) ⟨pw_cell_below (drewB wr) q0, pw_cell_below (drewB wr) q1, pw_cell_below (drewB wr) p0, pw_cell_below (drewB wr) p1⟩ (fun hHeld => ?_)
   refine pq 0 12 14 1 ?_
   refine pq 1 13 14 3 ?_
   refine pq 2 14 14 7 ?_
   refine pq 3 15 14 15 ?_
   refine pq 4 16 14 31 ?_
   refine pq 7 19 14 159 ?_
   refine pq 8 20 14 415 ?_
   refine pq 9 21 14 927 ?_
   refine pq 10 22 14 1951 ?_
   refine tq 5 17 14 1983 hHeld ?_
   refine tq 11 23 14 4031 hHeld ?_
   refine oq 6 18 14 4095 (fun K hK => ?_)
   refine call_ 183 #[.agg #[.int .i64 a0, .slice aA an ac]] (by rfl) rfl (by go_simp) ?_
   with_reducible refine ((keyK_call a0 aA an ac _)).mono ?_
   rintro e w1 ⟨rfl, hb_⟩
   refine ⟨_, rfl, ?_⟩
   have HB1 := Lib.hid (below_step (drewB wr) hb_)
   clear hb_
   refine hK.out _ _ ⟨pw_cell_below HB1.out q0, pw_cell_below HB1.out q1, pw_cell_below HB1.out p0, pw_cell_below HB1.out p1⟩ (fun hHeld => ?_)
   clear hK K
   refine nx 18 ?_
   refine oq 12 24 14 8191 (fun K hK => ?_)
   refine call_ 183 #[.agg #[.int .i64 b0, .slice bA bn bc]] (by rfl) rfl (by go_simp) ?_
   with_reducible refine ((keyK_call b0 bA bn bc _)).mono ?_
   rintro e w2 ⟨rfl, hb_⟩
   refine ⟨_, rfl, ?_⟩
   have HB2 := Lib.hid (below_step HB1.out hb_)
   clear hb_
   refine hK.out _ _ ⟨pw_cell_below HB2.out q0, pw_cell_below HB2.out q1, pw_cell_below HB2.out p0, pw_cell_below HB2.out p1⟩ (fun hHeld => ?_)
   clear hK K
   refine nx 24 ?_
   refine pq 13 25 14 16383 ?_
   refine done_ (by kernel_rfl) ?_
   by_cases hlt2 : a0 < b0
   ·have hd : decide (b0 ≤ a0) = false := decide_eq_false (by omega)
    go_wp2_with fail
    have ek : wrap64 ((k : Int) + 1 + 1) = ((k + 1 + 1 : Nat) : Int) := by have := HN.out; have := HL.out; rw [wr64 (by omega) (by omega)]; omega
    rw [ek]
    refine ⟨⟨k + 1, .inl (by omega), rfl, fun j hj => ?_, below_step HB.out HB2.out⟩, ?_⟩
    ·by_cases hj2 : j < k
     ·exact HR.out j hj2
     ·obtain rfl : j = k := by omega
      rw [HK.out.1, HK.out.2]; exact hlt2
    ·simp only [intOf]
     omega
   ·have hd : decide (b0 ≤ a0) = true := decide_eq_true (by omega)
    have hv : risB (l.map (·.f0)) = false := by
     cases h : risB (l.map (·.f0)) with
     | false => rfl
     | true =>
      have h1 := (risB_iff _).1 h k (by rw [List.length_map]; have := HN.out; omega)
      rw [HK.out.1, HK.out.2] at h1
      exact absurd h1 hlt2
    go_wp2_with fail
    go_ret
    exact ⟨rfl, below_step HB.out HB2.out⟩
  ·have hall := HR.out
   have hv : risB (l.map (·.f0)) = true := (risB_iff _).2 fun j hj => hall j (by rw [List.length_map] at hj; have := HN.out; omega)
   go_wp2_with fail
   go_ret
   exact ⟨rfl, HB.out⟩
end Go.Proofs.YtmbnomlkhmcmaaaGreat.A
end
section
namespace Go.Proofs.YtmbnomlkhmcmaaaGreat.A
open Go.RowKit Go.Shelf Go.Proofs.YtmbnomlkhmcmaaaGreatW.PrintWords Go.Proofs.YtmbnomlkhmcmaaaGreatW.PrintLast Go.Proofs.YtmbnomlkhmcmaaaGreat.B Go.Proofs.YtmbnomlkhmcmaaaGreat.C
set_option linter.unusedVariables false
set_option linter.unusedSimpArgs false
def inB (y : Ly) (s : List Bk) : Bool := s.all fun b => decide (b.f0 < y.c2)
def stOk (y : Ly) (s : List Bk) : Bool := inB y s && (decide ((s.length : Int) ≤ y.c6) && (mayF [] s && risB (s.map (·.f0))))
set_option maxHeartbeats 4000000 in
set_option maxRecDepth 100000 in
theorem stash_call {y : Ly} {w : World} (hy : y.R w) (A : Option Addr) (c : Nat) (s : List Bk) (hC : Kd.C k170 w A s.length s) (hc : s.length ≤ c) (hl : s.length ≤ 300) :
    Calls Tryz.prog 133 #[y.v, .slice A s.length c] w fun e w' => e = .returned (.bool (stOk y s)) ∧ Below w.heap.size w w' := by
  have HC := Lib.hid hC
  have HL := Lib.hid hl
  have HCc := Lib.hid hc
  obtain ⟨n, hn⟩ : ∃ n, s.length = n := ⟨_, rfl⟩
  have HN := Lib.hid hn
  rw [hn]
  clear hC hl hn hy hc
  go_enter Tryz.func133, Tryz.ntmps133
  go_wp2_with (first
    | ((with_reducible refine gate_dst (N := 2) rfl ?_); refine box_event ?hg (N := 2) ?hd (cs := #[.int .i64 y.c0, .int .i64 y.c1, .int .i64 y.c2, .int .i64 y.c3, .int .i64 y.c4, .int .i64 y.c5, .int .i64 y.c6, .int .i64 y.c7, .int .i64 y.c8, .int .i64 y.c9, .slice y.A y.l.length y.cap]) (t := 46) ?hr ?_; (case hd => rfl); (case hg => rfl); (case hr => first | (go_simp; done) | (go_simp; rfl)); intro gl hg_ w1 hbox_ hb_; have HX1 := Lib.hid (Sr.box (Sr.nil w) hg_ hbox_ hb_); clear hbox_ hb_ hg_)
    | fail)
  go_loopw [9] (fun i wr => ∃ k : Nat, k ≤ n ∧ i = .int .i64 k ∧ Hid ((s.take k).all (fun b => decide (b.f0 < y.c2)) = true) ∧ Hid (Sr w [(gl, y.obj)] wr)) (fun i _ => n - (intOf i).toNat)
  case atStart =>
    exact ⟨0, Nat.zero_le _, rfl, (by simp : _ = true), HX1⟩
  case round =>
    obtain ⟨k, hk, rfl, HR, HS0⟩ := hrel
    by_cases hlt : k < n
    · obtain ⟨⟨id, xs⟩, hb⟩ : ∃ b, rd_T170 s (k : Int) = b := ⟨_, rfl⟩
      have hks : k < s.length := by have := HN.out; omega
      have hd : s.take (k + 1) = s.take k ++ [⟨id, xs⟩] := by
        rw [List.take_succ_eq_append_getElem hks, ← hb]
        congr 2
        unfold rd_T170
        rw [Int.toNat_natCast, List.getD_eq_getElem?_getD, List.getElem?_eq_getElem hks]
        rfl
      have HDr := Lib.hid hd
      have HMm := Lib.hid (show (⟨id, xs⟩ : Bk) ∈ s by
        have : (⟨id, xs⟩ : Bk) ∈ s.take (k + 1) := by rw [hd]; simp
        exact List.mem_of_mem_take this)
      obtain ⟨ad, A1, c1, rfl, q0, q1, l1, g1⟩ := at_T170 (Kd.C_below HC.out HS0.out.bel) (k : Int) (by omega) (by omega)
      rw [hb] at q0 q1
      simp only [Int.toNat_natCast] at q0 q1
      have HS1 := Lib.hid (HS0.out.below (allocB wr (.cells #[.int .i64 id, .slice A1 xs.length c1] 170)))
      have q2 := HS1.out.cell mh 2 rfl
      clear hb hd l1 g1
      by_cases hlt2 : id < y.c2
      · have hd : decide (y.c2 ≤ id) = false := decide_eq_false (by omega)
        have HV := Lib.hid (show (s.take (k + 1)).all (fun b => decide (b.f0 < y.c2)) = true from all_take _ HDr.out HR.out (decide_eq_true hlt2))
        go_wp2_with fail
        have ek : wrap64 ((k : Int) + 1) = ((k + 1 : Nat) : Int) := by have := HN.out; have := HL.out; rw [wr64 (by omega) (by omega)]; omega
        rw [ek]
        refine ⟨⟨k + 1, by omega, rfl, HV, HS1⟩, ?_⟩
        simp only [intOf]
        omega
      · have hd : decide (y.c2 ≤ id) = true := decide_eq_true (by omega)
        have HV := Lib.hid (show stOk y s = false by
          unfold stOk inB
          rw [all_no _ HMm.out (decide_eq_false hlt2)]
          rfl)
        go_wp2_with fail
        go_ret
        exact ⟨by rw [HV.out]; rfl, HS1.out.bel⟩
    · obtain rfl : k = n := by omega
      have HIn := Lib.hid (show inB y s = true by unfold inB; have h := HR.out; rwa [← HN.out, List.take_length] at h)
      have q6 := HS0.out.cell mh 6 rfl
      by_cases hlt2 : (k : Int) ≤ y.c6
      · have hd : decide ((k : Int) ≤ y.c6) = true := decide_eq_true hlt2
        have HD1 := Lib.hid hd
        go_wp2_with fail
        have hM := May_calls A c s wr (Kd.C_below HC.out HS0.out.bel) HCc.out (by have := HL.out; omega)
        rw [HN.out] at hM
        refine hM.mono ?_
        clear hM
        rintro e w2 ⟨rfl, hb2⟩
        have HS2 := Lib.hid (HS0.out.below hb2)
        clear hb2
        obtain ⟨b1, hb1⟩ : ∃ b, mayF [] s = b := ⟨_, rfl⟩
        have HB1 := Lib.hid hb1
        rw [hb1]
        clear hb1
        cases b1 with
        | false =>
          go_wp2_with fail
          go_ret
          refine ⟨?_, HS2.out.bel⟩
          unfold stOk
          rw [HIn.out, HB1.out, HN.out, HD1.out]
          rfl
        | true =>
          go_wp2_with fail
          have hM := risK_call A c s w2 (Kd.C_below HC.out HS2.out.bel) HL.out
          rw [HN.out] at hM
          refine hM.mono ?_
          clear hM
          rintro e w3 ⟨rfl, hb3⟩
          have HS3 := Lib.hid (HS2.out.below hb3)
          clear hb3
          obtain ⟨b2, hb2⟩ : ∃ b, risB (s.map (·.f0)) = b := ⟨_, rfl⟩
          have HB2 := Lib.hid hb2
          rw [hb2]
          clear hb2
          go_wp2_with fail
          go_ret
          refine ⟨?_, HS3.out.bel⟩
          unfold stOk
          rw [HIn.out, HB1.out, HB2.out, HN.out, HD1.out]
          rfl
      · have hd : decide ((k : Int) ≤ y.c6) = false := decide_eq_false hlt2
        have HD1 := Lib.hid hd
        go_wp2_with fail
        go_ret
        refine ⟨?_, HS0.out.bel⟩
        unfold stOk
        rw [HIn.out, HN.out, HD1.out]
        rfl
end Go.Proofs.YtmbnomlkhmcmaaaGreat.A
end
section
namespace Go.Proofs.YtmbnomlkhmcmaaaGreat.D
open Go.RowKit Go.Proofs.YtmbnomlkhmcmaaaGreat.G Go.Proofs.YtmbnomlkhmcmaaaGreat.C Go.Proofs.YtmbnomlkhmcmaaaGreatW.PrintWords Go.Proofs.YtmbnomlkhmcmaaaGreatW.PrintLast Go.Proofs.YtmbnomlkhmcmaaaGreatW.PrintMore
attribute [local go_sem] max2_int min2_int max_two min_two max_three min_three max_four min_four
set_option linter.unusedVariables false
set_option linter.unusedSimpArgs false
def errW : Option Int → Value
 | none => .nilIface
 | some c => .iface 0 (.int .i64 c)
theorem errW_none : errW none = .nilIface := rfl
theorem errW_some (c : Int) : errW (some c) = .iface 0 (.int .i64 c) := rfl
theorem info3 : (Tryz.prog.info? 3).map (fun i => (i.zero, i.size, i.bytes)) = some (some (.int .i64 0), 1, 8) := by kernel_rfl
theorem info5 : (Tryz.prog.info? 5).map (fun i => (i.zero, i.size, i.bytes)) = some (some (.int .u8 0), 1, 1) := by kernel_rfl
end Go.Proofs.YtmbnomlkhmcmaaaGreat.D
end
section
namespace Go.Proofs.YtmbnomlkhmcmaaaGreat.D
open Go.RowKit Go.Proofs.YtmbnomlkhmcmaaaGreat.G Go.Proofs.YtmbnomlkhmcmaaaGreat.C Go.Proofs.YtmbnomlkhmcmaaaGreatW.PrintWords Go.Proofs.YtmbnomlkhmcmaaaGreatW.PrintLast Go.Proofs.YtmbnomlkhmcmaaaGreatW.PrintMore
attribute [local go_sem] max2_int min2_int max_two min_two max_three min_three max_four min_four
set_option linter.unusedVariables false
set_option linter.unusedSimpArgs false
mutual
def oubref7_MayBlocks.l0 : Nat → List (S214) → Int → Option (Bool)
 | 0, _, _ => none
 | k + 1, x0, x3 => if x3 < (x0.length : Int) then (if 0 ≤ x3 then (if ((rd_T214 x0 x3).f0) < 0 then (oubref7_MayBlocks.j1 k x0 x3 true) else (if ((rd_T214 x0 x3).f0) ≥ 64 then (oubref7_MayBlocks.j1 k x0 x3 true) else (oubref7_MayBlocks.j1 k x0 x3 ((((rd_T214 x0 x3).f1).length : Int) != 37)))) else (none)) else (some true)
def oubref7_MayBlocks.j1 : Nat → List (S214) → Int → Bool → Option (Bool)
 | 0, _, _, _ => none
 | k + 1, x0, x3, x33 => if x33 = true then (some false) else (oubref7_MayBlocks.l1 k x0 x3 0)
def oubref7_MayBlocks.l1 : Nat → List (S214) → Int → Int → Option (Bool)
 | 0, _, _, _ => none
 | k + 1, x0, x3, x4 => if x4 < x3 then (if 0 ≤ x4 then (if x4 < (x0.length : Int) then (if 0 ≤ x3 then (if x3 < (x0.length : Int) then (if ((rd_T214 x0 x4).f0) = ((rd_T214 x0 x3).f0) then (some false) else (oubref7_MayBlocks.l1 k x0 x3 (wrap64 (x4 + 1)))) else (none)) else (none)) else (none)) else (none)) else (oubref7_MayBlocks.l0 k x0 (wrap64 (x3 + 1)))
end
def oubref7_MayBlocks.f (k : Nat) (l0 : List (S214)) : Option (Bool) := oubref7_MayBlocks.l0 k l0 0
theorem oubref7_MayBlocks.mono_l : ∀ k, (∀ y0 y1, LeO (oubref7_MayBlocks.l0 k y0 y1) (oubref7_MayBlocks.l0 (k + 1) y0 y1)) ∧ (∀ y0 y1 y2, LeO (oubref7_MayBlocks.j1 k y0 y1 y2) (oubref7_MayBlocks.j1 (k + 1) y0 y1 y2)) ∧ (∀ y0 y1 y2, LeO (oubref7_MayBlocks.l1 k y0 y1 y2) (oubref7_MayBlocks.l1 (k + 1) y0 y1 y2))
 | 0 => ⟨fun _ _ r h => by simp [oubref7_MayBlocks.l0] at h, fun _ _ _ r h => by simp [oubref7_MayBlocks.j1] at h, fun _ _ _ r h => by simp [oubref7_MayBlocks.l1] at h⟩
 | k + 1 => by
  obtain ⟨ih0, ih1, ih2⟩ := oubref7_MayBlocks.mono_l k
  refine ⟨?_, ?_, ?_⟩
  ·intro y0 y1
   unfold oubref7_MayBlocks.l0
   repeat' first
   | (with_reducible exact ih0 _ _)
   | (with_reducible exact ih1 _ _ _)
   | (with_reducible exact ih2 _ _ _)
   | (with_reducible exact LeO.refl _)
   | (with_reducible exact LeO.none _)
   | (with_reducible refine LeO.ite ?_ ?_)
   | (with_reducible refine LeO.bind ?_ (fun _ => ?_))
   | exact ih0 _ _
   | exact ih1 _ _ _
   | exact ih2 _ _ _
   | exact LeO.none _
   | refine LeO.ite ?_ ?_
   | refine LeO.bind ?_ (fun _ => ?_)
  ·intro y0 y1 y2
   unfold oubref7_MayBlocks.j1
   repeat' first
   | (with_reducible exact ih0 _ _)
   | (with_reducible exact ih1 _ _ _)
   | (with_reducible exact ih2 _ _ _)
   | (with_reducible exact LeO.refl _)
   | (with_reducible exact LeO.none _)
   | (with_reducible refine LeO.ite ?_ ?_)
   | (with_reducible refine LeO.bind ?_ (fun _ => ?_))
   | exact ih0 _ _
   | exact ih1 _ _ _
   | exact ih2 _ _ _
   | exact LeO.none _
   | refine LeO.ite ?_ ?_
   | refine LeO.bind ?_ (fun _ => ?_)
  ·intro y0 y1 y2
   unfold oubref7_MayBlocks.l1
   repeat' first
   | (with_reducible exact ih0 _ _)
   | (with_reducible exact ih1 _ _ _)
   | (with_reducible exact ih2 _ _ _)
   | (with_reducible exact LeO.refl _)
   | (with_reducible exact LeO.none _)
   | (with_reducible refine LeO.ite ?_ ?_)
   | (with_reducible refine LeO.bind ?_ (fun _ => ?_))
   | exact ih0 _ _
   | exact ih1 _ _ _
   | exact ih2 _ _ _
   | exact LeO.none _
   | refine LeO.ite ?_ ?_
   | refine LeO.bind ?_ (fun _ => ?_)
theorem oubref7_MayBlocks.mono : ∀ a0 k, LeO (oubref7_MayBlocks.f k a0) (oubref7_MayBlocks.f (k + 1) a0) := by
 intro a0 k
 obtain ⟨ih0, ih1, ih2⟩ := oubref7_MayBlocks.mono_l k
 unfold oubref7_MayBlocks.f
 repeat' first
   | (with_reducible exact ih0 _ _)
   | (with_reducible exact ih1 _ _ _)
   | (with_reducible exact ih2 _ _ _)
   | (with_reducible exact LeO.refl _)
   | (with_reducible exact LeO.none _)
   | (with_reducible refine LeO.ite ?_ ?_)
   | (with_reducible refine LeO.bind ?_ (fun _ => ?_))
   | exact ih0 _ _
   | exact ih1 _ _ _
   | exact ih2 _ _ _
   | exact LeO.none _
   | refine LeO.ite ?_ ?_
   | refine LeO.bind ?_ (fun _ => ?_)
set_option maxHeartbeats 8000000 in
set_option maxRecDepth 100000 in
theorem oubref7_MayBlocks.calls (k : Nat) (A0 : Option Addr) (c0 : Nat) (l0 : List (S214)) (r : Bool) (w : World) (hr0 : Kd.C k214 w A0 l0.length l0) (hc0 : l0.length ≤ c0) (h : oubref7_MayBlocks.f k l0 = some r) :
  Calls Tryz.prog 185 #[.slice A0 l0.length c0] w fun e w' => e = .returned (.bool r) ∧ Drawn0 w w' := by
 have HR0 := Aside0.mk hr0
 have HC0 := Aside0.mk hc0
 clear hr0 hc0
 have H : (oubref7_MayBlocks.l0 k l0 0) = some r := h
 clear h
 have H' := Aside0.mk H
 clear H
 go_enter Tryz.func185, Tryz.ntmps185
 go_wp2
 repeat (go_quiet (fail); try go_wp2)
 go_loopg [3] k (fun kq v3 w' => ∃ (x3_1 : Int), v3 = .int .i64 x3_1 ∧ Aside0 (oubref7_MayBlocks.l0 kq l0 x3_1 = some r) ∧ Aside0 (kq ≤ k) ∧ Drawn0 w w')
 case atStart => exact ⟨(0), (by first | rfl | (simp; done) | (simp [*]; done)), H', ⟨Nat.le_refl _⟩, by repeat (first | exact Drawn0.refl _ | apply Drawn0.step)⟩
 case round =>
  clear H'
  try clear c1
  obtain ⟨x3_1, rfl, HA, HK1, ⟨m1, rfl⟩⟩ := hrel
  cases gk with
  | zero => exact absurd HA.out (by simp [oubref7_MayBlocks.l0])
  | succ k1 =>
   have H := HA.out
   clear HA
   simp only [oubref7_MayBlocks.l0] at H
   by_cases c2 : x3_1 < (l0.length : Int)
   ·rw [if_pos c2] at H
    have c2b0 : decide (x3_1 < (l0.length : Int)) = true := decide_eq_true c2
    clear c2
    have HC3 := Aside0.mk H
    clear H
    go_upto_region 4 with (fail)
    repeat (go_quiet (fail); go_upto_region 4 with (fail))
    go_cut [33] (fun v33 wc => ∃ (kq : Nat) (x33_2 : Bool), v33 = .bool x33_2 ∧ Aside0 (oubref7_MayBlocks.j1 kq l0 x3_1 x33_2 = some r) ∧ Aside0 (kq ≤ k1) ∧ Drawn0 w wc)
    case first =>
     have H := HC3.out
     clear HC3
     by_cases c4 : 0 ≤ x3_1
     ·rw [if_pos c4] at H
      have c4b0 : decide (0 ≤ x3_1) = true := decide_eq_true c4
      clear c4
      (first | rw [c4b0] | (simp only [i64_w, i32_w]; rw [c4b0]) | skip)
      by_cases c5 : ((rd_T214 l0 x3_1).f0) < 0
      ·rw [if_pos c5] at H
       have c5b0 : decide (((rd_T214 l0 x3_1).f0) < 0) = true := decide_eq_true c5
       clear c5
       have H' := Aside0.mk H
       clear H
       have p125 : 0 ≤ (x3_1 : Int) := of_decide_eq_true (by first | (with_reducible assumption) | assumption)
       have q125 : x3_1 < (l0.length : Int) := of_decide_eq_true (by first | (with_reducible assumption) | assumption)
       obtain ⟨ad125, A125_1, c125_1, e125, hx125_0, hx125_1, hl125_1, hi125_1⟩ := at_T214 HR0.out x3_1 p125 q125
       cases e125
       have HR125_1 := Aside0.mk hi125_1
       have HC125_1 := Aside0.mk hl125_1
       clear hi125_1 hl125_1
       replace p125 := eq_true p125
       replace q125 := eq_true q125
       go_wp2
       repeat (go_quiet (fail); try go_wp2)
       go_meet
       case rel => exact ⟨_, (true), (by first | rfl | (simp; done) | (simp [*]; done)), H', ⟨by have := HK1.out; first | omega | exact Nat.le_refl _⟩, by repeat (first | exact Drawn0.refl _ | apply Drawn0.step)⟩
      ·rw [if_neg c5] at H
       have c5b0 : decide (((rd_T214 l0 x3_1).f0) < 0) = false := decide_eq_false c5
       clear c5
       by_cases c6 : ((rd_T214 l0 x3_1).f0) ≥ 64
       ·rw [if_pos c6] at H
        have c6b0 : decide (64 ≤ ((rd_T214 l0 x3_1).f0)) = true := decide_eq_true c6
        clear c6
        have H' := Aside0.mk H
        clear H
        have p125 : 0 ≤ (x3_1 : Int) := of_decide_eq_true (by first | (with_reducible assumption) | assumption)
        have q125 : x3_1 < (l0.length : Int) := of_decide_eq_true (by first | (with_reducible assumption) | assumption)
        obtain ⟨ad125, A125_1, c125_1, e125, hx125_0, hx125_1, hl125_1, hi125_1⟩ := at_T214 HR0.out x3_1 p125 q125
        cases e125
        have HR125_1 := Aside0.mk hi125_1
        have HC125_1 := Aside0.mk hl125_1
        clear hi125_1 hl125_1
        replace p125 := eq_true p125
        replace q125 := eq_true q125
        have p126 : 0 ≤ (x3_1 : Int) := of_decide_eq_true (by first | (with_reducible assumption) | assumption)
        have q126 : x3_1 < (l0.length : Int) := of_decide_eq_true (by first | (with_reducible assumption) | assumption)
        obtain ⟨ad126, A126_1, c126_1, e126, hx126_0, hx126_1, hl126_1, hi126_1⟩ := at_T214 HR0.out x3_1 p126 q126
        obtain rfl : ad125 = ad126 := (by injection e126)
        have HR126_1 := Aside0.mk hi126_1
        have HC126_1 := Aside0.mk hl126_1
        clear hi126_1 hl126_1
        replace p126 := eq_true p126
        replace q126 := eq_true q126
        have ea_ := Option.some.inj (hx125_1.symm.trans hx126_1)
        injection ea_ with ea_ en_ ec_
        subst ea_
        subst ec_
        clear en_
        go_wp2
        repeat (go_quiet (fail); try go_wp2)
        go_meet
        case rel => exact ⟨_, (true), (by first | rfl | (simp; done) | (simp [*]; done)), H', ⟨by have := HK1.out; first | omega | exact Nat.le_refl _⟩, by repeat (first | exact Drawn0.refl _ | apply Drawn0.step)⟩
       ·rw [if_neg c6] at H
        have c6b0 : decide (64 ≤ ((rd_T214 l0 x3_1).f0)) = false := decide_eq_false c6
        clear c6
        have H' := Aside0.mk H
        clear H
        have p125 : 0 ≤ (x3_1 : Int) := of_decide_eq_true (by first | (with_reducible assumption) | assumption)
        have q125 : x3_1 < (l0.length : Int) := of_decide_eq_true (by first | (with_reducible assumption) | assumption)
        obtain ⟨ad125, A125_1, c125_1, e125, hx125_0, hx125_1, hl125_1, hi125_1⟩ := at_T214 HR0.out x3_1 p125 q125
        cases e125
        have HR125_1 := Aside0.mk hi125_1
        have HC125_1 := Aside0.mk hl125_1
        clear hi125_1 hl125_1
        replace p125 := eq_true p125
        replace q125 := eq_true q125
        have p126 : 0 ≤ (x3_1 : Int) := of_decide_eq_true (by first | (with_reducible assumption) | assumption)
        have q126 : x3_1 < (l0.length : Int) := of_decide_eq_true (by first | (with_reducible assumption) | assumption)
        obtain ⟨ad126, A126_1, c126_1, e126, hx126_0, hx126_1, hl126_1, hi126_1⟩ := at_T214 HR0.out x3_1 p126 q126
        obtain rfl : ad125 = ad126 := (by injection e126)
        have HR126_1 := Aside0.mk hi126_1
        have HC126_1 := Aside0.mk hl126_1
        clear hi126_1 hl126_1
        replace p126 := eq_true p126
        replace q126 := eq_true q126
        have ea_ := Option.some.inj (hx125_1.symm.trans hx126_1)
        injection ea_ with ea_ en_ ec_
        subst ea_
        subst ec_
        clear en_
        have p127 : 0 ≤ (x3_1 : Int) := of_decide_eq_true (by first | (with_reducible assumption) | assumption)
        have q127 : x3_1 < (l0.length : Int) := of_decide_eq_true (by first | (with_reducible assumption) | assumption)
        obtain ⟨ad127, A127_1, c127_1, e127, hx127_0, hx127_1, hl127_1, hi127_1⟩ := at_T214 HR0.out x3_1 p127 q127
        obtain rfl : ad125 = ad127 := (by injection e127)
        have HR127_1 := Aside0.mk hi127_1
        have HC127_1 := Aside0.mk hl127_1
        clear hi127_1 hl127_1
        replace p127 := eq_true p127
        replace q127 := eq_true q127
        have ea_ := Option.some.inj (hx125_1.symm.trans hx127_1)
        injection ea_ with ea_ en_ ec_
        subst ea_
        subst ec_
        clear en_
        go_wp2
        repeat (go_quiet (fail); try go_wp2)
        go_meet
        case rel => exact ⟨_, (((((rd_T214 l0 x3_1).f1).length : Int) != 37)), (by first | rfl | (simp; done) | (simp [*]; done)), H', ⟨by have := HK1.out; first | omega | exact Nat.le_refl _⟩, by repeat (first | exact Drawn0.refl _ | apply Drawn0.step)⟩
     ·rw [if_neg c4] at H
      exact absurd H (by simp)
    case rest =>
     clear HC3
     try clear c1
     try clear p1
     try clear q1
     try clear hx1
     try clear c2
     try clear c2b0
     try clear p2
     try clear c4
     try clear c4b0
     try clear c5
     try clear c5b0
     try clear c6
     try clear c6b0
     try clear hx125_0
     try clear hx125_1
     try clear hx126_0
     try clear hx126_1
     try clear hx127_0
     try clear hx127_1
     try clear p125
     try clear p126
     try clear p127
     try clear q125
     try clear q126
     try clear q127
     obtain ⟨kq, x33_2, rfl, HA, HJ2, ⟨mc2, rfl⟩⟩ := hcut
     cases kq with
     | zero => exact absurd HA.out (by simp [oubref7_MayBlocks.j1])
     | succ kj2 =>
      have H := HA.out
      clear HA
      simp only [oubref7_MayBlocks.j1] at H
      by_cases c7 : x33_2 = true
      ·subst c7
       have H1 : (some false) = some r := by rw [if_pos rfl] at H; exact H
       clear H
       have H := H1
       clear H1
       obtain rfl := Option.some.inj H
       go_wp2
       repeat (go_quiet (fail); try go_wp2)
       go_ret
       exact ⟨by first | rfl | (simp; done) | (simp [*]; done), by repeat (first | exact Drawn0.refl _ | apply Drawn0.step)⟩
      ·replace c7 := Bool.eq_false_iff.mpr c7
       subst c7
       have H1 : (oubref7_MayBlocks.l1 kj2 l0 x3_1 0) = some r := by rw [if_neg (show ¬ (false = true) by decide)] at H; exact H
       clear H
       have H := H1
       clear H1
       have H' := Aside0.mk H
       clear H
       go_wp2
       repeat (go_quiet (fail); try go_wp2)
       go_loopg [4] kj2 (fun kq v4 w' => ∃ (x4_3 : Int), v4 = .int .i64 x4_3 ∧ Aside0 (oubref7_MayBlocks.l1 kq l0 x3_1 x4_3 = some r) ∧ Aside0 (kq ≤ kj2) ∧ Drawn0 w w')
       case atStart => exact ⟨(0), (by first | rfl | (simp; done) | (simp [*]; done)), H', ⟨Nat.le_refl _⟩, by repeat (first | exact Drawn0.refl _ | apply Drawn0.step)⟩
       case round =>
        clear H'
        try clear c1
        try clear p1
        try clear q1
        try clear hx1
        try clear c2
        try clear c2b0
        try clear p2
        try clear c4
        try clear c4b0
        try clear c5
        try clear c5b0
        try clear c6
        try clear c6b0
        try clear c7
        try clear hx125_0
        try clear hx125_1
        try clear hx126_0
        try clear hx126_1
        try clear hx127_0
        try clear hx127_1
        try clear p1
        try clear p125
        try clear p126
        try clear p127
        try clear p2
        try clear q1
        try clear q125
        try clear q126
        try clear q127
        obtain ⟨x4_3, rfl, HA, HK3, ⟨m3, rfl⟩⟩ := hrel
        cases gk with
        | zero => exact absurd HA.out (by simp [oubref7_MayBlocks.l1])
        | succ k3 =>
         have H := HA.out
         clear HA
         simp only [oubref7_MayBlocks.l1] at H
         by_cases c8 : x4_3 < x3_1
         ·rw [if_pos c8] at H
          have c8b0 : decide (x4_3 < x3_1) = true := decide_eq_true c8
          clear c8
          by_cases c9 : 0 ≤ x4_3
          ·rw [if_pos c9] at H
           have c9b0 : decide (0 ≤ x4_3) = true := decide_eq_true c9
           clear c9
           by_cases c10 : x4_3 < (l0.length : Int)
           ·rw [if_pos c10] at H
            have c10b0 : decide (x4_3 < (l0.length : Int)) = true := decide_eq_true c10
            clear c10
            by_cases c11 : 0 ≤ x3_1
            ·rw [if_pos c11] at H
             have c11b0 : decide (0 ≤ x3_1) = true := decide_eq_true c11
             clear c11
             by_cases c12 : x3_1 < (l0.length : Int)
             ·rw [if_pos c12] at H
              have c12b0 : decide (x3_1 < (l0.length : Int)) = true := decide_eq_true c12
              clear c12
              by_cases c13 : ((rd_T214 l0 x4_3).f0) = ((rd_T214 l0 x3_1).f0)
              ·rw [if_pos c13] at H
               have c13b0 : (((rd_T214 l0 x4_3).f0) == ((rd_T214 l0 x3_1).f0)) = true := beq_iff_eq.mpr c13
               have c13b1 : (((rd_T214 l0 x4_3).f0) != ((rd_T214 l0 x3_1).f0)) = false := bne_eq_false_iff_eq.mpr c13
               clear c13
               obtain rfl := Option.some.inj H
               have p128 : 0 ≤ (x4_3 : Int) := of_decide_eq_true (by first | (with_reducible assumption) | assumption)
               have q128 : x4_3 < (l0.length : Int) := of_decide_eq_true (by first | (with_reducible assumption) | assumption)
               obtain ⟨ad128, A128_1, c128_1, e128, hx128_0, hx128_1, hl128_1, hi128_1⟩ := at_T214 HR0.out x4_3 p128 q128
               cases e128
               have HR128_1 := Aside0.mk hi128_1
               have HC128_1 := Aside0.mk hl128_1
               clear hi128_1 hl128_1
               replace p128 := eq_true p128
               replace q128 := eq_true q128
               have p129 : 0 ≤ (x3_1 : Int) := of_decide_eq_true (by first | (with_reducible assumption) | assumption)
               have q129 : x3_1 < (l0.length : Int) := of_decide_eq_true (by first | (with_reducible assumption) | assumption)
               obtain ⟨ad129, A129_1, c129_1, e129, hx129_0, hx129_1, hl129_1, hi129_1⟩ := at_T214 HR0.out x3_1 p129 q129
               obtain rfl : ad128 = ad129 := (by injection e129)
               have HR129_1 := Aside0.mk hi129_1
               have HC129_1 := Aside0.mk hl129_1
               clear hi129_1 hl129_1
               replace p129 := eq_true p129
               replace q129 := eq_true q129
               go_wp2
               repeat (go_quiet (fail); try go_wp2)
               go_ret
               exact ⟨by first | rfl | (simp; done) | (simp [*]; done), by repeat (first | exact Drawn0.refl _ | apply Drawn0.step)⟩
              ·rw [if_neg c13] at H
               have c13b0 : (((rd_T214 l0 x4_3).f0) == ((rd_T214 l0 x3_1).f0)) = false := beq_eq_false_iff_ne.mpr c13
               have c13b1 : (((rd_T214 l0 x4_3).f0) != ((rd_T214 l0 x3_1).f0)) = true := bne_iff_ne.mpr c13
               have H' := Aside0.mk H
               clear H
               have p128 : 0 ≤ (x4_3 : Int) := of_decide_eq_true (by first | (with_reducible assumption) | assumption)
               have q128 : x4_3 < (l0.length : Int) := of_decide_eq_true (by first | (with_reducible assumption) | assumption)
               obtain ⟨ad128, A128_1, c128_1, e128, hx128_0, hx128_1, hl128_1, hi128_1⟩ := at_T214 HR0.out x4_3 p128 q128
               cases e128
               have HR128_1 := Aside0.mk hi128_1
               have HC128_1 := Aside0.mk hl128_1
               clear hi128_1 hl128_1
               replace p128 := eq_true p128
               replace q128 := eq_true q128
               have p129 : 0 ≤ (x3_1 : Int) := of_decide_eq_true (by first | (with_reducible assumption) | assumption)
               have q129 : x3_1 < (l0.length : Int) := of_decide_eq_true (by first | (with_reducible assumption) | assumption)
               obtain ⟨ad129, A129_1, c129_1, e129, hx129_0, hx129_1, hl129_1, hi129_1⟩ := at_T214 HR0.out x3_1 p129 q129
               obtain rfl : ad128 = ad129 := (by injection e129)
               have HR129_1 := Aside0.mk hi129_1
               have HC129_1 := Aside0.mk hl129_1
               clear hi129_1 hl129_1
               replace p129 := eq_true p129
               replace q129 := eq_true q129
               go_wp2
               repeat (go_quiet (fail); try go_wp2)
               go_roundg k3
               case measure => have := HK1.out; have := HJ2.out; have := HK3.out; omega
               case rel => exact ⟨(wrap64 (x4_3 + 1)), (by first | rfl | (simp; done) | (simp [*]; done)), H', ⟨by have := HK1.out; have := HJ2.out; have := HK3.out; omega⟩, by repeat (first | exact Drawn0.refl _ | apply Drawn0.step)⟩
             ·rw [if_neg c12] at H
              exact absurd H (by simp)
            ·rw [if_neg c11] at H
             exact absurd H (by simp)
           ·rw [if_neg c10] at H
            exact absurd H (by simp)
          ·rw [if_neg c9] at H
           exact absurd H (by simp)
         ·rw [if_neg c8] at H
          have c8b0 : decide (x4_3 < x3_1) = false := decide_eq_false c8
          clear c8
          have H' := Aside0.mk H
          clear H
          go_wp2
          repeat (go_quiet (fail); try go_wp2)
          go_roundg k3
          case measure => have := HK1.out; have := HJ2.out; have := HK3.out; omega
          case rel => exact ⟨(wrap64 (x3_1 + 1)), (by first | rfl | (simp; done) | (simp [*]; done)), H', ⟨by have := HK1.out; have := HJ2.out; have := HK3.out; omega⟩, by repeat (first | exact Drawn0.refl _ | apply Drawn0.step)⟩
   ·rw [if_neg c2] at H
    have c2b0 : decide (x3_1 < (l0.length : Int)) = false := decide_eq_false c2
    clear c2
    obtain rfl := Option.some.inj H
    go_wp2
    repeat (go_quiet (fail); try go_wp2)
    go_ret
    exact ⟨by first | rfl | (simp; done) | (simp [*]; done), by repeat (first | exact Drawn0.refl _ | apply Drawn0.step)⟩
def oubref23_mayStash.l0 : Nat → List (S214) → Int → Int → Int → Int → Int → Int → Int → Int → Int → Int → Int → List (List Int) → Option (Bool)
 | 0, _, _, _, _, _, _, _, _, _, _, _, _, _ => none
 | k + 1, x1, x5, x131000, x131001, x131002, x131003, x131004, x131005, x131006, x131007, x131008, x131009, x131010 => if x5 < (x1.length : Int) then (if 0 ≤ x5 then (if ((rd_T214 x1 x5).f0) ≥ x131002 then (some false) else (if x5 > 0 then (if 0 ≤ (wrap64 (x5 - 1)) then (if (wrap64 (x5 - 1)) < (x1.length : Int) then (if ((rd_T214 x1 x5).f0) ≤ ((rd_T214 x1 (wrap64 (x5 - 1))).f0) then (some false) else (oubref23_mayStash.l0 k x1 (wrap64 (x5 + 1)) x131000 x131001 x131002 x131003 x131004 x131005 x131006 x131007 x131008 x131009 x131010)) else (none)) else (none)) else (oubref23_mayStash.l0 k x1 (wrap64 (x5 + 1)) x131000 x131001 x131002 x131003 x131004 x131005 x131006 x131007 x131008 x131009 x131010))) else (none)) else (if (x1.length : Int) ≤ x131006 then ((oubref7_MayBlocks.f k x1).bind fun t134 => (some t134)) else (some false))
def oubref23_mayStash.f (k : Nat) (a0_0 : Int) (a0_1 : Int) (a0_2 : Int) (a0_3 : Int) (a0_4 : Int) (a0_5 : Int) (a0_6 : Int) (a0_7 : Int) (a0_8 : Int) (a0_9 : Int) (l0_10 : List (List Int)) (l1 : List (S214)) : Option (Bool) := oubref23_mayStash.l0 k l1 0 a0_0 a0_1 a0_2 a0_3 a0_4 a0_5 a0_6 a0_7 a0_8 a0_9 l0_10
theorem oubref23_mayStash.mono_l : ∀ k, (∀ y0 y1 y2 y3 y4 y5 y6 y7 y8 y9 y10 y11 y12, LeO (oubref23_mayStash.l0 k y0 y1 y2 y3 y4 y5 y6 y7 y8 y9 y10 y11 y12) (oubref23_mayStash.l0 (k + 1) y0 y1 y2 y3 y4 y5 y6 y7 y8 y9 y10 y11 y12))
 | 0 => fun _ _ _ _ _ _ _ _ _ _ _ _ _ r h => by simp [oubref23_mayStash.l0] at h
 | k + 1 => by
  have ih0 := oubref23_mayStash.mono_l k
  ·intro y0 y1 y2 y3 y4 y5 y6 y7 y8 y9 y10 y11 y12
   unfold oubref23_mayStash.l0
   repeat' first
   | (with_reducible exact ih0 _ _ _ _ _ _ _ _ _ _ _ _ _)
   | (with_reducible exact oubref7_MayBlocks.mono _ _)
   | (with_reducible exact LeO.refl _)
   | (with_reducible exact LeO.none _)
   | (with_reducible refine LeO.ite ?_ ?_)
   | (with_reducible refine LeO.bind ?_ (fun _ => ?_))
   | exact ih0 _ _ _ _ _ _ _ _ _ _ _ _ _
   | exact oubref7_MayBlocks.mono _ _
   | exact LeO.none _
   | refine LeO.ite ?_ ?_
   | refine LeO.bind ?_ (fun _ => ?_)
theorem oubref23_mayStash.mono : ∀ a0 a1 a2 a3 a4 a5 a6 a7 a8 a9 a10 a11 k, LeO (oubref23_mayStash.f k a0 a1 a2 a3 a4 a5 a6 a7 a8 a9 a10 a11) (oubref23_mayStash.f (k + 1) a0 a1 a2 a3 a4 a5 a6 a7 a8 a9 a10 a11) := by
 intro a0 a1 a2 a3 a4 a5 a6 a7 a8 a9 a10 a11 k
 have ih0 := oubref23_mayStash.mono_l k
 unfold oubref23_mayStash.f
 repeat' first
   | (with_reducible exact ih0 _ _ _ _ _ _ _ _ _ _ _ _ _)
   | (with_reducible exact oubref7_MayBlocks.mono _ _)
   | (with_reducible exact LeO.refl _)
   | (with_reducible exact LeO.none _)
   | (with_reducible refine LeO.ite ?_ ?_)
   | (with_reducible refine LeO.bind ?_ (fun _ => ?_))
   | exact ih0 _ _ _ _ _ _ _ _ _ _ _ _ _
   | exact oubref7_MayBlocks.mono _ _
   | exact LeO.none _
   | refine LeO.ite ?_ ?_
   | refine LeO.bind ?_ (fun _ => ?_)
set_option maxHeartbeats 8000000 in
set_option maxRecDepth 100000 in
theorem oubref23_mayStash.calls (k : Nat) (a0_0 : Int) (a0_1 : Int) (a0_2 : Int) (a0_3 : Int) (a0_4 : Int) (a0_5 : Int) (a0_6 : Int) (a0_7 : Int) (a0_8 : Int) (a0_9 : Int) (A0_10 : Option Addr) (c0_10 : Nat) (l0_10 : List (List Int)) (A1 : Option Addr) (c1 : Nat) (l1 : List (S214)) (r : Bool) (w : World) (hr0_10 : Kd.C (Kd.slice 3 (Kd.int .i64)) w A0_10 l0_10.length l0_10) (hc0_10 : l0_10.length ≤ c0_10) (hr1 : Kd.C k214 w A1 l1.length l1) (hc1 : l1.length ≤ c1) (h : oubref23_mayStash.f k a0_0 a0_1 a0_2 a0_3 a0_4 a0_5 a0_6 a0_7 a0_8 a0_9 l0_10 l1 = some r) :
  Calls Tryz.prog 138 #[.agg #[.int .i64 a0_0, .int .i64 a0_1, .int .i64 a0_2, .int .i64 a0_3, .int .i64 a0_4, .int .i64 a0_5, .int .i64 a0_6, .int .i64 a0_7, .int .i64 a0_8, .int .i64 a0_9, .slice A0_10 l0_10.length c0_10], .slice A1 l1.length c1] w fun e w' => e = .returned (.bool r) ∧ Below w.heap.size w w' := by
 have hu24 := Tryz.underlying24
 have HR0_10 := Aside0.mk hr0_10
 have HC0_10 := Aside0.mk hc0_10
 clear hr0_10 hc0_10
 have HR1 := Aside0.mk hr1
 have HC1 := Aside0.mk hc1
 clear hr1 hc1
 have HB := Aside0.mk (Below.refl w.heap.size w)
 have H : (oubref23_mayStash.l0 k l1 0 a0_0 a0_1 a0_2 a0_3 a0_4 a0_5 a0_6 a0_7 a0_8 a0_9 l0_10) = some r := h
 clear h
 have H' := Aside0.mk H
 clear H
 go_enter Tryz.func138, Tryz.ntmps138
 go_wp2_with (first | ((with_reducible refine gate_dst (N := 2) rfl ?_); refine box_event ?hg (N := 2) ?hd (cs := #[.int .i64 a0_0, .int .i64 a0_1, .int .i64 a0_2, .int .i64 a0_3, .int .i64 a0_4, .int .i64 a0_5, .int .i64 a0_6, .int .i64 a0_7, .int .i64 a0_8, .int .i64 a0_9, .slice A0_10 l0_10.length c0_10]) (t := 24) ?hr ?_; (case hd => rfl); (case hg => rfl); (case hr => first | (go_simp; done) | (go_simp; rfl)); intro gb130 hg w3 hbox hb; have n0_ := Aside0.mk (below_step (by repeat (first | (with_reducible first | exact HB.out | apply below_alloc | apply pw_below_drewN | apply below_drew1) | exact HB.out)) hb); have n1_ := Aside0.mk (hbox); have n2_ := Aside0.mk ((by rw [hg]; exact (below_size (by repeat (first | (with_reducible first | exact HB.out | apply below_alloc | apply pw_below_drewN | apply below_drew1) | exact HB.out))) : w.heap.size ≤ gb130)); have n3_ := Aside0.mk ((by rw [hg]; exact (below_size (by repeat (first | (with_reducible first | exact HB.out | apply below_alloc | apply pw_below_drewN | apply below_drew1) | exact HB.out))) : w.heap.size ≤ gb130)); clear HB; have HB := n0_; have BK130 := n1_; have GW130 := n2_; have GE130 := n3_; clear n0_ n1_ n2_ n3_; clear hb hbox hg))
 repeat (go_quiet (first | ((with_reducible refine gate_dst (N := 2) rfl ?_); refine box_event ?hg (N := 2) ?hd (cs := #[.int .i64 a0_0, .int .i64 a0_1, .int .i64 a0_2, .int .i64 a0_3, .int .i64 a0_4, .int .i64 a0_5, .int .i64 a0_6, .int .i64 a0_7, .int .i64 a0_8, .int .i64 a0_9, .slice A0_10 l0_10.length c0_10]) (t := 24) ?hr ?_; (case hd => rfl); (case hg => rfl); (case hr => first | (go_simp; done) | (go_simp; rfl)); intro gb130 hg w3 hbox hb; have n0_ := Aside0.mk (below_step (by repeat (first | (with_reducible first | exact HB.out | apply below_alloc | apply pw_below_drewN | apply below_drew1) | exact HB.out)) hb); have n1_ := Aside0.mk (hbox); have n2_ := Aside0.mk ((by rw [hg]; exact (below_size (by repeat (first | (with_reducible first | exact HB.out | apply below_alloc | apply pw_below_drewN | apply below_drew1) | exact HB.out))) : w.heap.size ≤ gb130)); have n3_ := Aside0.mk ((by rw [hg]; exact (below_size (by repeat (first | (with_reducible first | exact HB.out | apply below_alloc | apply pw_below_drewN | apply below_drew1) | exact HB.out))) : w.heap.size ≤ gb130)); clear HB; have HB := n0_; have BK130 := n1_; have GW130 := n2_; have GE130 := n3_; clear n0_ n1_ n2_ n3_; clear hb hbox hg)); try go_wp2_with (first | ((with_reducible refine gate_dst (N := 2) rfl ?_); refine box_event ?hg (N := 2) ?hd (cs := #[.int .i64 a0_0, .int .i64 a0_1, .int .i64 a0_2, .int .i64 a0_3, .int .i64 a0_4, .int .i64 a0_5, .int .i64 a0_6, .int .i64 a0_7, .int .i64 a0_8, .int .i64 a0_9, .slice A0_10 l0_10.length c0_10]) (t := 24) ?hr ?_; (case hd => rfl); (case hg => rfl); (case hr => first | (go_simp; done) | (go_simp; rfl)); intro gb130 hg w3 hbox hb; have n0_ := Aside0.mk (below_step (by repeat (first | (with_reducible first | exact HB.out | apply below_alloc | apply pw_below_drewN | apply below_drew1) | exact HB.out)) hb); have n1_ := Aside0.mk (hbox); have n2_ := Aside0.mk ((by rw [hg]; exact (below_size (by repeat (first | (with_reducible first | exact HB.out | apply below_alloc | apply pw_below_drewN | apply below_drew1) | exact HB.out))) : w.heap.size ≤ gb130)); have n3_ := Aside0.mk ((by rw [hg]; exact (below_size (by repeat (first | (with_reducible first | exact HB.out | apply below_alloc | apply pw_below_drewN | apply below_drew1) | exact HB.out))) : w.heap.size ≤ gb130)); clear HB; have HB := n0_; have BK130 := n1_; have GW130 := n2_; have GE130 := n3_; clear n0_ n1_ n2_ n3_; clear hb hbox hg)))
 go_loopg [5] k (fun kq v5 w' => ∃ (x5_1 : Int), v5 = .int .i64 x5_1 ∧ Aside0 (oubref23_mayStash.l0 kq l1 x5_1 a0_0 a0_1 a0_2 a0_3 a0_4 a0_5 a0_6 a0_7 a0_8 a0_9 l0_10 = some r) ∧ Aside0 (kq ≤ k) ∧ Aside0 (w'.heap[gb130]? = some (.cells #[.int .i64 a0_0, .int .i64 a0_1, .int .i64 a0_2, .int .i64 a0_3, .int .i64 a0_4, .int .i64 a0_5, .int .i64 a0_6, .int .i64 a0_7, .int .i64 a0_8, .int .i64 a0_9, (.slice A0_10 l0_10.length c0_10)] 24 (0, 0))) ∧ Aside0 (Below w.heap.size w w'))
 case atStart => exact ⟨(0), (by first | rfl | (simp; done) | (simp [*]; done)), H', ⟨Nat.le_refl _⟩, ⟨by (with_reducible repeat (first | refine blk_drewN ?_ _ | refine blk_drew ?_ | refine blk_alloc ?_ _)); exact BK130.out⟩, ⟨by repeat (first | (with_reducible first | exact HB.out | apply below_alloc | apply pw_below_drewN | apply below_drew1 | refine below_set ?_ GE130.out) | exact HB.out)⟩⟩
 case round =>
  clear H'
  try clear c1
  try clear p2
  obtain ⟨x5_1, rfl, HA, HK1, BK130, HB⟩ := hrel
  cases gk with
  | zero => exact absurd HA.out (by simp [oubref23_mayStash.l0])
  | succ k1 =>
   have H := HA.out
   clear HA
   simp only [oubref23_mayStash.l0] at H
   by_cases c4 : x5_1 < (l1.length : Int)
   ·rw [if_pos c4] at H
    have c4b0 : decide (x5_1 < (l1.length : Int)) = true := decide_eq_true c4
    clear c4
    by_cases c5 : 0 ≤ x5_1
    ·rw [if_pos c5] at H
     have c5b0 : decide (0 ≤ x5_1) = true := decide_eq_true c5
     clear c5
     by_cases c6 : ((rd_T214 l1 x5_1).f0) ≥ a0_2
     ·rw [if_pos c6] at H
      have c6b0 : decide (a0_2 ≤ ((rd_T214 l1 x5_1).f0)) = true := decide_eq_true c6
      clear c6
      obtain rfl := Option.some.inj H
      have p131 : 0 ≤ (x5_1 : Int) := of_decide_eq_true (by first | (with_reducible assumption) | assumption)
      have q131 : x5_1 < (l1.length : Int) := of_decide_eq_true (by first | (with_reducible assumption) | assumption)
      obtain ⟨ad131, A131_1, c131_1, e131, hx131_0, hx131_1, hl131_1, hi131_1⟩ := at_T214 HR1.out x5_1 p131 q131
      cases e131
      replace hx131_0 := (HB.out.cell (World.block_lt_of_cell? w _ hx131_0)).trans hx131_0
      replace hx131_1 := (HB.out.cell (World.block_lt_of_cell? w _ hx131_1)).trans hx131_1
      have HR131_1 := Aside0.mk hi131_1
      have HC131_1 := Aside0.mk hl131_1
      clear hi131_1 hl131_1
      replace p131 := eq_true p131
      replace q131 := eq_true q131
      have hcz7_0 : wr.cell? ⟨gb130, 0, none⟩ = some (.int .i64 a0_0) := (blk_cell BK130.out 0).trans rfl
      have hcz7_1 : wr.cell? ⟨gb130, 1, none⟩ = some (.int .i64 a0_1) := (blk_cell BK130.out 1).trans rfl
      have hcz7_2 : wr.cell? ⟨gb130, 2, none⟩ = some (.int .i64 a0_2) := (blk_cell BK130.out 2).trans rfl
      have hcz7_3 : wr.cell? ⟨gb130, 3, none⟩ = some (.int .i64 a0_3) := (blk_cell BK130.out 3).trans rfl
      have hcz7_4 : wr.cell? ⟨gb130, 4, none⟩ = some (.int .i64 a0_4) := (blk_cell BK130.out 4).trans rfl
      have hcz7_5 : wr.cell? ⟨gb130, 5, none⟩ = some (.int .i64 a0_5) := (blk_cell BK130.out 5).trans rfl
      have hcz7_6 : wr.cell? ⟨gb130, 6, none⟩ = some (.int .i64 a0_6) := (blk_cell BK130.out 6).trans rfl
      have hcz7_7 : wr.cell? ⟨gb130, 7, none⟩ = some (.int .i64 a0_7) := (blk_cell BK130.out 7).trans rfl
      have hcz7_8 : wr.cell? ⟨gb130, 8, none⟩ = some (.int .i64 a0_8) := (blk_cell BK130.out 8).trans rfl
      have hcz7_9 : wr.cell? ⟨gb130, 9, none⟩ = some (.int .i64 a0_9) := (blk_cell BK130.out 9).trans rfl
      have hcz7_10 : wr.cell? ⟨gb130, 10, none⟩ = some (.slice A0_10 l0_10.length c0_10) := (blk_cell BK130.out 10).trans rfl
      have hfz7_0 := blk_frozen BK130.out 0
      have hfz7_1 := blk_frozen BK130.out 1
      have hfz7_2 := blk_frozen BK130.out 2
      have hfz7_3 := blk_frozen BK130.out 3
      have hfz7_4 := blk_frozen BK130.out 4
      have hfz7_5 := blk_frozen BK130.out 5
      have hfz7_6 := blk_frozen BK130.out 6
      have hfz7_7 := blk_frozen BK130.out 7
      have hfz7_8 := blk_frozen BK130.out 8
      have hfz7_9 := blk_frozen BK130.out 9
      have hfz7_10 := blk_frozen BK130.out 10
      go_wp2
      repeat (go_quiet (fail); try go_wp2)
      go_ret
      exact ⟨by first | rfl | (simp [errW_none, errW_some] <;> rfl) | (simp [*, errW_none, errW_some] <;> rfl), by repeat (first | (with_reducible first | exact HB.out | apply below_alloc | apply pw_below_drewN | apply below_drew1 | refine below_set ?_ GE130.out) | exact HB.out)⟩
     ·rw [if_neg c6] at H
      have c6b0 : decide (a0_2 ≤ ((rd_T214 l1 x5_1).f0)) = false := decide_eq_false c6
      clear c6
      by_cases c8 : x5_1 > 0
      ·rw [if_pos c8] at H
       have c8b0 : decide (0 < x5_1) = true := decide_eq_true c8
       clear c8
       obtain ⟨ji9, hji9⟩ : ∃ j_ : Int, (wrap64 (x5_1 - 1)) = j_ := ⟨_, rfl⟩
       replace H : (if 0 ≤ (ji9) then (if (ji9) < (l1.length : Int) then (if ((rd_T214 l1 x5_1).f0) ≤ ((rd_T214 l1 (ji9)).f0) then (some false) else (oubref23_mayStash.l0 k1 l1 (wrap64 (x5_1 + 1)) a0_0 a0_1 a0_2 a0_3 a0_4 a0_5 a0_6 a0_7 a0_8 a0_9 l0_10)) else (none)) else (none)) = some r := by first | (rw [hji9] at H; exact H) | (simp only [hji9] at H ⊢; exact H)
       have hji9w : (IntKind.i64.wrap (x5_1 - 1)) = ji9 := (i64_w _).trans hji9
       by_cases c10 : 0 ≤ (ji9)
       ·rw [if_pos c10] at H
        have c10b0 : decide (0 ≤ (ji9)) = true := decide_eq_true c10
        clear c10
        by_cases c11 : (ji9) < (l1.length : Int)
        ·rw [if_pos c11] at H
         have c11b0 : decide ((ji9) < (l1.length : Int)) = true := decide_eq_true c11
         clear c11
         by_cases c12 : ((rd_T214 l1 x5_1).f0) ≤ ((rd_T214 l1 (ji9)).f0)
         ·rw [if_pos c12] at H
          have c12b0 : decide (((rd_T214 l1 x5_1).f0) ≤ ((rd_T214 l1 (ji9)).f0)) = true := decide_eq_true c12
          clear c12
          obtain rfl := Option.some.inj H
          have p131 : 0 ≤ (x5_1 : Int) := of_decide_eq_true (by first | (with_reducible assumption) | assumption)
          have q131 : x5_1 < (l1.length : Int) := of_decide_eq_true (by first | (with_reducible assumption) | assumption)
          obtain ⟨ad131, A131_1, c131_1, e131, hx131_0, hx131_1, hl131_1, hi131_1⟩ := at_T214 HR1.out x5_1 p131 q131
          cases e131
          replace hx131_0 := (HB.out.cell (World.block_lt_of_cell? w _ hx131_0)).trans hx131_0
          replace hx131_1 := (HB.out.cell (World.block_lt_of_cell? w _ hx131_1)).trans hx131_1
          have HR131_1 := Aside0.mk hi131_1
          have HC131_1 := Aside0.mk hl131_1
          clear hi131_1 hl131_1
          replace p131 := eq_true p131
          replace q131 := eq_true q131
          have hcz13_0 : wr.cell? ⟨gb130, 0, none⟩ = some (.int .i64 a0_0) := (blk_cell BK130.out 0).trans rfl
          have hcz13_1 : wr.cell? ⟨gb130, 1, none⟩ = some (.int .i64 a0_1) := (blk_cell BK130.out 1).trans rfl
          have hcz13_2 : wr.cell? ⟨gb130, 2, none⟩ = some (.int .i64 a0_2) := (blk_cell BK130.out 2).trans rfl
          have hcz13_3 : wr.cell? ⟨gb130, 3, none⟩ = some (.int .i64 a0_3) := (blk_cell BK130.out 3).trans rfl
          have hcz13_4 : wr.cell? ⟨gb130, 4, none⟩ = some (.int .i64 a0_4) := (blk_cell BK130.out 4).trans rfl
          have hcz13_5 : wr.cell? ⟨gb130, 5, none⟩ = some (.int .i64 a0_5) := (blk_cell BK130.out 5).trans rfl
          have hcz13_6 : wr.cell? ⟨gb130, 6, none⟩ = some (.int .i64 a0_6) := (blk_cell BK130.out 6).trans rfl
          have hcz13_7 : wr.cell? ⟨gb130, 7, none⟩ = some (.int .i64 a0_7) := (blk_cell BK130.out 7).trans rfl
          have hcz13_8 : wr.cell? ⟨gb130, 8, none⟩ = some (.int .i64 a0_8) := (blk_cell BK130.out 8).trans rfl
          have hcz13_9 : wr.cell? ⟨gb130, 9, none⟩ = some (.int .i64 a0_9) := (blk_cell BK130.out 9).trans rfl
          have hcz13_10 : wr.cell? ⟨gb130, 10, none⟩ = some (.slice A0_10 l0_10.length c0_10) := (blk_cell BK130.out 10).trans rfl
          have hfz13_0 := blk_frozen BK130.out 0
          have hfz13_1 := blk_frozen BK130.out 1
          have hfz13_2 := blk_frozen BK130.out 2
          have hfz13_3 := blk_frozen BK130.out 3
          have hfz13_4 := blk_frozen BK130.out 4
          have hfz13_5 := blk_frozen BK130.out 5
          have hfz13_6 := blk_frozen BK130.out 6
          have hfz13_7 := blk_frozen BK130.out 7
          have hfz13_8 := blk_frozen BK130.out 8
          have hfz13_9 := blk_frozen BK130.out 9
          have hfz13_10 := blk_frozen BK130.out 10
          have p132 : 0 ≤ (x5_1 : Int) := of_decide_eq_true (by first | (with_reducible assumption) | assumption)
          have q132 : x5_1 < (l1.length : Int) := of_decide_eq_true (by first | (with_reducible assumption) | assumption)
          obtain ⟨ad132, A132_1, c132_1, e132, hx132_0, hx132_1, hl132_1, hi132_1⟩ := at_T214 HR1.out x5_1 p132 q132
          obtain rfl : ad131 = ad132 := (by injection e132)
          replace hx132_0 := (HB.out.cell (World.block_lt_of_cell? w _ hx132_0)).trans hx132_0
          replace hx132_1 := (HB.out.cell (World.block_lt_of_cell? w _ hx132_1)).trans hx132_1
          have HR132_1 := Aside0.mk hi132_1
          have HC132_1 := Aside0.mk hl132_1
          clear hi132_1 hl132_1
          replace p132 := eq_true p132
          replace q132 := eq_true q132
          have ea_ := Option.some.inj (hx131_1.symm.trans hx132_1)
          injection ea_ with ea_ en_ ec_
          subst ea_
          subst ec_
          clear en_
          have p133 : 0 ≤ ((ji9) : Int) := of_decide_eq_true (by first | (with_reducible assumption) | assumption)
          have q133 : (ji9) < (l1.length : Int) := of_decide_eq_true (by first | (with_reducible assumption) | assumption)
          obtain ⟨ad133, A133_1, c133_1, e133, hx133_0, hx133_1, hl133_1, hi133_1⟩ := at_T214 HR1.out (ji9) p133 q133
          obtain rfl : ad131 = ad133 := (by injection e133)
          replace hx133_0 := (HB.out.cell (World.block_lt_of_cell? w _ hx133_0)).trans hx133_0
          replace hx133_1 := (HB.out.cell (World.block_lt_of_cell? w _ hx133_1)).trans hx133_1
          have HR133_1 := Aside0.mk hi133_1
          have HC133_1 := Aside0.mk hl133_1
          clear hi133_1 hl133_1
          replace p133 := eq_true p133
          replace q133 := eq_true q133
          go_wp2
          repeat (go_quiet (fail); try go_wp2)
          go_ret
          exact ⟨by first | rfl | (simp [errW_none, errW_some] <;> rfl) | (simp only [← hji9]; first | rfl | (simp [errW_none, errW_some] <;> rfl)) | (simp [*, errW_none, errW_some] <;> rfl), by repeat (first | (with_reducible first | exact HB.out | apply below_alloc | apply pw_below_drewN | apply below_drew1 | refine below_set ?_ GE130.out) | exact HB.out)⟩
         ·rw [if_neg c12] at H
          have c12b0 : decide (((rd_T214 l1 x5_1).f0) ≤ ((rd_T214 l1 (ji9)).f0)) = false := decide_eq_false c12
          clear c12
          have H' := Aside0.mk H
          clear H
          have p131 : 0 ≤ (x5_1 : Int) := of_decide_eq_true (by first | (with_reducible assumption) | assumption)
          have q131 : x5_1 < (l1.length : Int) := of_decide_eq_true (by first | (with_reducible assumption) | assumption)
          obtain ⟨ad131, A131_1, c131_1, e131, hx131_0, hx131_1, hl131_1, hi131_1⟩ := at_T214 HR1.out x5_1 p131 q131
          cases e131
          replace hx131_0 := (HB.out.cell (World.block_lt_of_cell? w _ hx131_0)).trans hx131_0
          replace hx131_1 := (HB.out.cell (World.block_lt_of_cell? w _ hx131_1)).trans hx131_1
          have HR131_1 := Aside0.mk hi131_1
          have HC131_1 := Aside0.mk hl131_1
          clear hi131_1 hl131_1
          replace p131 := eq_true p131
          replace q131 := eq_true q131
          have hcz14_0 : wr.cell? ⟨gb130, 0, none⟩ = some (.int .i64 a0_0) := (blk_cell BK130.out 0).trans rfl
          have hcz14_1 : wr.cell? ⟨gb130, 1, none⟩ = some (.int .i64 a0_1) := (blk_cell BK130.out 1).trans rfl
          have hcz14_2 : wr.cell? ⟨gb130, 2, none⟩ = some (.int .i64 a0_2) := (blk_cell BK130.out 2).trans rfl
          have hcz14_3 : wr.cell? ⟨gb130, 3, none⟩ = some (.int .i64 a0_3) := (blk_cell BK130.out 3).trans rfl
          have hcz14_4 : wr.cell? ⟨gb130, 4, none⟩ = some (.int .i64 a0_4) := (blk_cell BK130.out 4).trans rfl
          have hcz14_5 : wr.cell? ⟨gb130, 5, none⟩ = some (.int .i64 a0_5) := (blk_cell BK130.out 5).trans rfl
          have hcz14_6 : wr.cell? ⟨gb130, 6, none⟩ = some (.int .i64 a0_6) := (blk_cell BK130.out 6).trans rfl
          have hcz14_7 : wr.cell? ⟨gb130, 7, none⟩ = some (.int .i64 a0_7) := (blk_cell BK130.out 7).trans rfl
          have hcz14_8 : wr.cell? ⟨gb130, 8, none⟩ = some (.int .i64 a0_8) := (blk_cell BK130.out 8).trans rfl
          have hcz14_9 : wr.cell? ⟨gb130, 9, none⟩ = some (.int .i64 a0_9) := (blk_cell BK130.out 9).trans rfl
          have hcz14_10 : wr.cell? ⟨gb130, 10, none⟩ = some (.slice A0_10 l0_10.length c0_10) := (blk_cell BK130.out 10).trans rfl
          have hfz14_0 := blk_frozen BK130.out 0
          have hfz14_1 := blk_frozen BK130.out 1
          have hfz14_2 := blk_frozen BK130.out 2
          have hfz14_3 := blk_frozen BK130.out 3
          have hfz14_4 := blk_frozen BK130.out 4
          have hfz14_5 := blk_frozen BK130.out 5
          have hfz14_6 := blk_frozen BK130.out 6
          have hfz14_7 := blk_frozen BK130.out 7
          have hfz14_8 := blk_frozen BK130.out 8
          have hfz14_9 := blk_frozen BK130.out 9
          have hfz14_10 := blk_frozen BK130.out 10
          have p132 : 0 ≤ (x5_1 : Int) := of_decide_eq_true (by first | (with_reducible assumption) | assumption)
          have q132 : x5_1 < (l1.length : Int) := of_decide_eq_true (by first | (with_reducible assumption) | assumption)
          obtain ⟨ad132, A132_1, c132_1, e132, hx132_0, hx132_1, hl132_1, hi132_1⟩ := at_T214 HR1.out x5_1 p132 q132
          obtain rfl : ad131 = ad132 := (by injection e132)
          replace hx132_0 := (HB.out.cell (World.block_lt_of_cell? w _ hx132_0)).trans hx132_0
          replace hx132_1 := (HB.out.cell (World.block_lt_of_cell? w _ hx132_1)).trans hx132_1
          have HR132_1 := Aside0.mk hi132_1
          have HC132_1 := Aside0.mk hl132_1
          clear hi132_1 hl132_1
          replace p132 := eq_true p132
          replace q132 := eq_true q132
          have ea_ := Option.some.inj (hx131_1.symm.trans hx132_1)
          injection ea_ with ea_ en_ ec_
          subst ea_
          subst ec_
          clear en_
          have p133 : 0 ≤ ((ji9) : Int) := of_decide_eq_true (by first | (with_reducible assumption) | assumption)
          have q133 : (ji9) < (l1.length : Int) := of_decide_eq_true (by first | (with_reducible assumption) | assumption)
          obtain ⟨ad133, A133_1, c133_1, e133, hx133_0, hx133_1, hl133_1, hi133_1⟩ := at_T214 HR1.out (ji9) p133 q133
          obtain rfl : ad131 = ad133 := (by injection e133)
          replace hx133_0 := (HB.out.cell (World.block_lt_of_cell? w _ hx133_0)).trans hx133_0
          replace hx133_1 := (HB.out.cell (World.block_lt_of_cell? w _ hx133_1)).trans hx133_1
          have HR133_1 := Aside0.mk hi133_1
          have HC133_1 := Aside0.mk hl133_1
          clear hi133_1 hl133_1
          replace p133 := eq_true p133
          replace q133 := eq_true q133
          go_wp2
          repeat (go_quiet (fail); try go_wp2)
          go_roundg k1
          case measure => have := HK1.out; omega
          case rel => exact ⟨(wrap64 (x5_1 + 1)), (by first | rfl | (simp; done) | (simp [*]; done)), H', ⟨by have := HK1.out; omega⟩, ⟨by (with_reducible repeat (first | refine blk_drewN ?_ _ | refine blk_drew ?_ | refine blk_alloc ?_ _)); exact BK130.out⟩, ⟨by repeat (first | (with_reducible first | exact HB.out | apply below_alloc | apply pw_below_drewN | apply below_drew1 | refine below_set ?_ GE130.out) | exact HB.out)⟩⟩
        ·rw [if_neg c11] at H
         exact absurd H (by simp)
       ·rw [if_neg c10] at H
        exact absurd H (by simp)
      ·rw [if_neg c8] at H
       have c8b0 : decide (0 < x5_1) = false := decide_eq_false c8
       clear c8
       have H' := Aside0.mk H
       clear H
       have p131 : 0 ≤ (x5_1 : Int) := of_decide_eq_true (by first | (with_reducible assumption) | assumption)
       have q131 : x5_1 < (l1.length : Int) := of_decide_eq_true (by first | (with_reducible assumption) | assumption)
       obtain ⟨ad131, A131_1, c131_1, e131, hx131_0, hx131_1, hl131_1, hi131_1⟩ := at_T214 HR1.out x5_1 p131 q131
       cases e131
       replace hx131_0 := (HB.out.cell (World.block_lt_of_cell? w _ hx131_0)).trans hx131_0
       replace hx131_1 := (HB.out.cell (World.block_lt_of_cell? w _ hx131_1)).trans hx131_1
       have HR131_1 := Aside0.mk hi131_1
       have HC131_1 := Aside0.mk hl131_1
       clear hi131_1 hl131_1
       replace p131 := eq_true p131
       replace q131 := eq_true q131
       have hcz15_0 : wr.cell? ⟨gb130, 0, none⟩ = some (.int .i64 a0_0) := (blk_cell BK130.out 0).trans rfl
       have hcz15_1 : wr.cell? ⟨gb130, 1, none⟩ = some (.int .i64 a0_1) := (blk_cell BK130.out 1).trans rfl
       have hcz15_2 : wr.cell? ⟨gb130, 2, none⟩ = some (.int .i64 a0_2) := (blk_cell BK130.out 2).trans rfl
       have hcz15_3 : wr.cell? ⟨gb130, 3, none⟩ = some (.int .i64 a0_3) := (blk_cell BK130.out 3).trans rfl
       have hcz15_4 : wr.cell? ⟨gb130, 4, none⟩ = some (.int .i64 a0_4) := (blk_cell BK130.out 4).trans rfl
       have hcz15_5 : wr.cell? ⟨gb130, 5, none⟩ = some (.int .i64 a0_5) := (blk_cell BK130.out 5).trans rfl
       have hcz15_6 : wr.cell? ⟨gb130, 6, none⟩ = some (.int .i64 a0_6) := (blk_cell BK130.out 6).trans rfl
       have hcz15_7 : wr.cell? ⟨gb130, 7, none⟩ = some (.int .i64 a0_7) := (blk_cell BK130.out 7).trans rfl
       have hcz15_8 : wr.cell? ⟨gb130, 8, none⟩ = some (.int .i64 a0_8) := (blk_cell BK130.out 8).trans rfl
       have hcz15_9 : wr.cell? ⟨gb130, 9, none⟩ = some (.int .i64 a0_9) := (blk_cell BK130.out 9).trans rfl
       have hcz15_10 : wr.cell? ⟨gb130, 10, none⟩ = some (.slice A0_10 l0_10.length c0_10) := (blk_cell BK130.out 10).trans rfl
       have hfz15_0 := blk_frozen BK130.out 0
       have hfz15_1 := blk_frozen BK130.out 1
       have hfz15_2 := blk_frozen BK130.out 2
       have hfz15_3 := blk_frozen BK130.out 3
       have hfz15_4 := blk_frozen BK130.out 4
       have hfz15_5 := blk_frozen BK130.out 5
       have hfz15_6 := blk_frozen BK130.out 6
       have hfz15_7 := blk_frozen BK130.out 7
       have hfz15_8 := blk_frozen BK130.out 8
       have hfz15_9 := blk_frozen BK130.out 9
       have hfz15_10 := blk_frozen BK130.out 10
       go_wp2
       repeat (go_quiet (fail); try go_wp2)
       go_roundg k1
       case measure => have := HK1.out; omega
       case rel => exact ⟨(wrap64 (x5_1 + 1)), (by first | rfl | (simp; done) | (simp [*]; done)), H', ⟨by have := HK1.out; omega⟩, ⟨by (with_reducible repeat (first | refine blk_drewN ?_ _ | refine blk_drew ?_ | refine blk_alloc ?_ _)); exact BK130.out⟩, ⟨by repeat (first | (with_reducible first | exact HB.out | apply below_alloc | apply pw_below_drewN | apply below_drew1 | refine below_set ?_ GE130.out) | exact HB.out)⟩⟩
    ·rw [if_neg c5] at H
     exact absurd H (by simp)
   ·rw [if_neg c4] at H
    have c4b0 : decide (x5_1 < (l1.length : Int)) = false := decide_eq_false c4
    clear c4
    by_cases c16 : (l1.length : Int) ≤ a0_6
    ·rw [if_pos c16] at H
     have c16b0 : decide ((l1.length : Int) ≤ a0_6) = true := decide_eq_true c16
     clear c16
     replace H := Option.bind_eq_some_iff.mp H
     obtain ⟨t134, A170, H⟩ := H
     replace H : (some t134) = some r := H
     have A17 := Aside0.mk A170
     clear A170
     obtain rfl := Option.some.inj H
     have hcz18_0 : wr.cell? ⟨gb130, 0, none⟩ = some (.int .i64 a0_0) := (blk_cell BK130.out 0).trans rfl
     have hcz18_1 : wr.cell? ⟨gb130, 1, none⟩ = some (.int .i64 a0_1) := (blk_cell BK130.out 1).trans rfl
     have hcz18_2 : wr.cell? ⟨gb130, 2, none⟩ = some (.int .i64 a0_2) := (blk_cell BK130.out 2).trans rfl
     have hcz18_3 : wr.cell? ⟨gb130, 3, none⟩ = some (.int .i64 a0_3) := (blk_cell BK130.out 3).trans rfl
     have hcz18_4 : wr.cell? ⟨gb130, 4, none⟩ = some (.int .i64 a0_4) := (blk_cell BK130.out 4).trans rfl
     have hcz18_5 : wr.cell? ⟨gb130, 5, none⟩ = some (.int .i64 a0_5) := (blk_cell BK130.out 5).trans rfl
     have hcz18_6 : wr.cell? ⟨gb130, 6, none⟩ = some (.int .i64 a0_6) := (blk_cell BK130.out 6).trans rfl
     have hcz18_7 : wr.cell? ⟨gb130, 7, none⟩ = some (.int .i64 a0_7) := (blk_cell BK130.out 7).trans rfl
     have hcz18_8 : wr.cell? ⟨gb130, 8, none⟩ = some (.int .i64 a0_8) := (blk_cell BK130.out 8).trans rfl
     have hcz18_9 : wr.cell? ⟨gb130, 9, none⟩ = some (.int .i64 a0_9) := (blk_cell BK130.out 9).trans rfl
     have hcz18_10 : wr.cell? ⟨gb130, 10, none⟩ = some (.slice A0_10 l0_10.length c0_10) := (blk_cell BK130.out 10).trans rfl
     have hfz18_0 := blk_frozen BK130.out 0
     have hfz18_1 := blk_frozen BK130.out 1
     have hfz18_2 := blk_frozen BK130.out 2
     have hfz18_3 := blk_frozen BK130.out 3
     have hfz18_4 := blk_frozen BK130.out 4
     have hfz18_5 := blk_frozen BK130.out 5
     have hfz18_6 := blk_frozen BK130.out 6
     have hfz18_7 := blk_frozen BK130.out 7
     have hfz18_8 := blk_frozen BK130.out 8
     have hfz18_9 := blk_frozen BK130.out 9
     have hfz18_10 := blk_frozen BK130.out 10
     go_wp2_with (first | (go_at_call 185; (with_reducible refine (oubref7_MayBlocks.calls k1 _ _ l1 t134 _ ?side1 ?side2 A17.out).mono ?_); (case side1 => repeat (first | exact (Kd.C_below HR1.out HB.out) | (with_reducible refine Kd.C_alloc ?_ _) | (with_reducible refine Kd.C_drewN ?_ _) | (with_reducible refine Kd.C_drew ?_))); (case side2 => exact HC1.out); rintro e w' ⟨rfl, ⟨nd, rfl⟩⟩; (try first | exact ⟨rfl, _, World.drewN_drewN _ _ _⟩ | exact ⟨rfl, _, Eq.trans (World.drewN_drewN _ _ _) (congrArg (World.drewN _) (Nat.add_assoc _ _ _))⟩)))
     repeat (go_quiet (first | (go_at_call 185; (with_reducible refine (oubref7_MayBlocks.calls k1 _ _ l1 t134 _ ?side1 ?side2 A17.out).mono ?_); (case side1 => repeat (first | exact (Kd.C_below HR1.out HB.out) | (with_reducible refine Kd.C_alloc ?_ _) | (with_reducible refine Kd.C_drewN ?_ _) | (with_reducible refine Kd.C_drew ?_))); (case side2 => exact HC1.out); rintro e w' ⟨rfl, ⟨nd, rfl⟩⟩; (try first | exact ⟨rfl, _, World.drewN_drewN _ _ _⟩ | exact ⟨rfl, _, Eq.trans (World.drewN_drewN _ _ _) (congrArg (World.drewN _) (Nat.add_assoc _ _ _))⟩))); try go_wp2_with (first | (go_at_call 185; (with_reducible refine (oubref7_MayBlocks.calls k1 _ _ l1 t134 _ ?side1 ?side2 A17.out).mono ?_); (case side1 => repeat (first | exact (Kd.C_below HR1.out HB.out) | (with_reducible refine Kd.C_alloc ?_ _) | (with_reducible refine Kd.C_drewN ?_ _) | (with_reducible refine Kd.C_drew ?_))); (case side2 => exact HC1.out); rintro e w' ⟨rfl, ⟨nd, rfl⟩⟩; (try first | exact ⟨rfl, _, World.drewN_drewN _ _ _⟩ | exact ⟨rfl, _, Eq.trans (World.drewN_drewN _ _ _) (congrArg (World.drewN _) (Nat.add_assoc _ _ _))⟩))))
     go_ret
     exact ⟨by first | rfl | (simp [errW_none, errW_some] <;> rfl) | (simp [*, errW_none, errW_some] <;> rfl), by repeat (first | (with_reducible first | exact HB.out | apply below_alloc | apply pw_below_drewN | apply below_drew1 | refine below_set ?_ GE130.out) | exact HB.out)⟩
    ·rw [if_neg c16] at H
     have c16b0 : decide ((l1.length : Int) ≤ a0_6) = false := decide_eq_false c16
     clear c16
     obtain rfl := Option.some.inj H
     have hcz19_0 : wr.cell? ⟨gb130, 0, none⟩ = some (.int .i64 a0_0) := (blk_cell BK130.out 0).trans rfl
     have hcz19_1 : wr.cell? ⟨gb130, 1, none⟩ = some (.int .i64 a0_1) := (blk_cell BK130.out 1).trans rfl
     have hcz19_2 : wr.cell? ⟨gb130, 2, none⟩ = some (.int .i64 a0_2) := (blk_cell BK130.out 2).trans rfl
     have hcz19_3 : wr.cell? ⟨gb130, 3, none⟩ = some (.int .i64 a0_3) := (blk_cell BK130.out 3).trans rfl
     have hcz19_4 : wr.cell? ⟨gb130, 4, none⟩ = some (.int .i64 a0_4) := (blk_cell BK130.out 4).trans rfl
     have hcz19_5 : wr.cell? ⟨gb130, 5, none⟩ = some (.int .i64 a0_5) := (blk_cell BK130.out 5).trans rfl
     have hcz19_6 : wr.cell? ⟨gb130, 6, none⟩ = some (.int .i64 a0_6) := (blk_cell BK130.out 6).trans rfl
     have hcz19_7 : wr.cell? ⟨gb130, 7, none⟩ = some (.int .i64 a0_7) := (blk_cell BK130.out 7).trans rfl
     have hcz19_8 : wr.cell? ⟨gb130, 8, none⟩ = some (.int .i64 a0_8) := (blk_cell BK130.out 8).trans rfl
     have hcz19_9 : wr.cell? ⟨gb130, 9, none⟩ = some (.int .i64 a0_9) := (blk_cell BK130.out 9).trans rfl
     have hcz19_10 : wr.cell? ⟨gb130, 10, none⟩ = some (.slice A0_10 l0_10.length c0_10) := (blk_cell BK130.out 10).trans rfl
     have hfz19_0 := blk_frozen BK130.out 0
     have hfz19_1 := blk_frozen BK130.out 1
     have hfz19_2 := blk_frozen BK130.out 2
     have hfz19_3 := blk_frozen BK130.out 3
     have hfz19_4 := blk_frozen BK130.out 4
     have hfz19_5 := blk_frozen BK130.out 5
     have hfz19_6 := blk_frozen BK130.out 6
     have hfz19_7 := blk_frozen BK130.out 7
     have hfz19_8 := blk_frozen BK130.out 8
     have hfz19_9 := blk_frozen BK130.out 9
     have hfz19_10 := blk_frozen BK130.out 10
     go_wp2
     repeat (go_quiet (fail); try go_wp2)
     go_ret
     exact ⟨by first | rfl | (simp [errW_none, errW_some] <;> rfl) | (simp [*, errW_none, errW_some] <;> rfl), by repeat (first | (with_reducible first | exact HB.out | apply below_alloc | apply pw_below_drewN | apply below_drew1 | refine below_set ?_ GE130.out) | exact HB.out)⟩
def oubref_Bytes.f (l0 : List Int) (l1 : List Int) : Option (Bool) := some ((strOfNums l0).toList == (strOfNums l1).toList)
set_option maxHeartbeats 8000000 in
set_option maxRecDepth 100000 in
theorem oubref_Bytes.calls (A0 : Option Addr) (c0 : Nat) (l0 : List Int) (A1 : Option Addr) (c1 : Nat) (l1 : List Int) (r : Bool) (w : World) (hr0 : Kd.C (Kd.int .u8) w A0 l0.length l0) (hc0 : l0.length ≤ c0) (hr1 : Kd.C (Kd.int .u8) w A1 l1.length l1) (hc1 : l1.length ≤ c1) (h : oubref_Bytes.f l0 l1 = some r) :
  Calls Tryz.prog 15 #[.slice A0 l0.length c0, .slice A1 l1.length c1] w fun e w' => e = .returned (.bool r) ∧ Drawn0 w w' := by
 have HR0 := Aside0.mk hr0
 have HC0 := Aside0.mk hc0
 clear hr0 hc0
 have HR1 := Aside0.mk hr1
 have HC1 := Aside0.mk hc1
 clear hr1 hc1
 have H : (some ((strOfNums l0).toList == (strOfNums l1).toList)) = some r := h
 clear h
 obtain rfl := Option.some.inj H
 have hcv3 := Kd.C_string (P := Tryz.prog) (A := A0) (c := c0) Tryz.underlying29 Tryz.underlying5 Tryz.underlying9 HR0.out
 have hcv4 := Kd.C_string (P := Tryz.prog) (A := A1) (c := c1) Tryz.underlying29 Tryz.underlying5 Tryz.underlying9 HR1.out
 go_enter Tryz.func15, Tryz.ntmps15
 go_wp2
 go_ret
 exact ⟨by first | rfl | (simp; done) | (simp [*]; done), by repeat (first | exact Drawn0.refl _ | apply Drawn0.step)⟩
end Go.Proofs.YtmbnomlkhmcmaaaGreat.D
end
section
namespace Go.Proofs.YtmbnomlkhmcmaaaGreat.D
open Go.RowKit Go.Proofs.YtmbnomlkhmcmaaaGreat.G Go.Proofs.YtmbnomlkhmcmaaaGreat.C Go.Proofs.YtmbnomlkhmcmaaaGreatW.PrintWords Go.Proofs.YtmbnomlkhmcmaaaGreatW.PrintLast Go.Proofs.YtmbnomlkhmcmaaaGreatW.PrintMore
attribute [local go_sem] max2_int min2_int max_two min_two max_three min_three max_four min_four
set_option linter.unusedVariables false
set_option linter.unusedSimpArgs false
def oubref7_BitBytes.l0 : Nat → List Int → List Int → Int → Option (List Int)
 | 0, _, _, _ => none
 | k + 1, x0, x3, x4 => if x4 < (x0.length : Int) then (if 0 ≤ (wrap64 (Int.tdiv x4 8)) then (if (wrap64 (Int.tdiv x4 8)) < (x3.length : Int) then (if 0 ≤ x4 then (if 0 ≤ (IntKind.u64.wrap (Int.tmod x4 8)) then (oubref7_BitBytes.l0 k x0 (x3.set ((wrap64 (Int.tdiv x4 8)) : Int).toNat (Go.bits .or .u8 (rd x3 (wrap64 (Int.tdiv x4 8))) ((shl .i64 (rd x0 x4) (IntKind.u64.wrap (Int.tmod x4 8))) % 256))) (wrap64 (x4 + 1))) else (none)) else (none)) else (none)) else (none)) else (some x3)
def oubref7_BitBytes.f (k : Nat) (l0 : List Int) : Option (List Int) := if 0 ≤ (wrap64 (Int.tdiv (wrap64 ((l0.length : Int) + 7)) 8)) then (if (wrap64 (Int.tdiv (wrap64 ((l0.length : Int) + 7)) 8) : Int).toNat ≤ 281474976710656 then (oubref7_BitBytes.l0 k l0 (List.replicate (wrap64 (Int.tdiv (wrap64 ((l0.length : Int) + 7)) 8) : Int).toNat 0) 0) else (none)) else (none)
theorem oubref7_BitBytes.mono_l : ∀ k, (∀ y0 y1 y2, LeO (oubref7_BitBytes.l0 k y0 y1 y2) (oubref7_BitBytes.l0 (k + 1) y0 y1 y2))
 | 0 => fun _ _ _ r h => by simp [oubref7_BitBytes.l0] at h
 | k + 1 => by
  have ih0 := oubref7_BitBytes.mono_l k
  ·intro y0 y1 y2
   unfold oubref7_BitBytes.l0
   repeat' first
   | (with_reducible exact ih0 _ _ _)
   | (with_reducible exact LeO.refl _)
   | (with_reducible exact LeO.none _)
   | (with_reducible refine LeO.ite ?_ ?_)
   | (with_reducible refine LeO.bind ?_ (fun _ => ?_))
   | exact ih0 _ _ _
   | exact LeO.none _
   | refine LeO.ite ?_ ?_
   | refine LeO.bind ?_ (fun _ => ?_)
theorem oubref7_BitBytes.mono : ∀ a0 k, LeO (oubref7_BitBytes.f k a0) (oubref7_BitBytes.f (k + 1) a0) := by
 intro a0 k
 have ih0 := oubref7_BitBytes.mono_l k
 unfold oubref7_BitBytes.f
 repeat' first
   | (with_reducible exact ih0 _ _ _)
   | (with_reducible exact LeO.refl _)
   | (with_reducible exact LeO.none _)
   | (with_reducible refine LeO.ite ?_ ?_)
   | (with_reducible refine LeO.bind ?_ (fun _ => ?_))
   | exact ih0 _ _ _
   | exact LeO.none _
   | refine LeO.ite ?_ ?_
   | refine LeO.bind ?_ (fun _ => ?_)
def oubref7_BitBytes.T5 : Bool × List (List Nat × List Nat) := (true, [([], []), ([], []), ([1], [1]), ([0, 2], [0, 2]), ([3], [3]), ([], []), ([], []), ([5, 6], [5, 6]), ([7], [7]), ([], []), ([9], [9]), ([10], [10]), ([8, 11], [8, 11]), ([12], [12]), ([4, 13], [4, 13]), ([0, 2, 0, 1, 2, 3, 4, 5, 6, 7, 8, 9, 10, 11, 12, 13, 14], [0, 2]), ([15, 14, 0, 1, 2, 3, 4, 5, 6, 7, 8, 9, 10, 11, 12, 13, 14], [14, 15])])
def oubref7_BitBytes.B5 : List Nat := [0, 0, 2, 7, 15, 0, 0, 96, 224, 0, 512, 1536, 4064, 8160, 16383, 32767, 65535]
theorem oubref7_BitBytes.tab5 : rtab .any (opsOf Tryz.f118 5) = oubref7_BitBytes.T5 := by kernel_rfl
theorem oubref7_BitBytes.bits5 : waitsOk oubref7_BitBytes.T5.2 oubref7_BitBytes.B5 = true := by kernel_rfl
set_option maxHeartbeats 8000000 in
set_option maxRecDepth 100000 in
theorem oubref7_BitBytes.calls (k : Nat) (A0 : Option Addr) (c0 : Nat) (l0 : List Int) (r : List Int) (w : World) (hr0 : Kd.C (Kd.int .i64) w A0 l0.length l0) (hc0 : l0.length ≤ c0) (h : oubref7_BitBytes.f k l0 = some r) :
  Calls Tryz.prog 118 #[.slice A0 l0.length c0] w fun e w' => ∃ v0_ : Value, e = .returned (v0_) ∧ Kd.R (Kd.int .u8) 5 w' w.heap.size (fun _ => True) v0_ r ∧ Below w.heap.size w w' := by
 have HR0 := Aside0.mk hr0
 have HC0 := Aside0.mk hc0
 clear hr0 hc0
 have HB := Aside0.mk (Below.refl w.heap.size w)
 have H : (if 0 ≤ (wrap64 (Int.tdiv (wrap64 ((l0.length : Int) + 7)) 8)) then (if (wrap64 (Int.tdiv (wrap64 ((l0.length : Int) + 7)) 8) : Int).toNat ≤ 281474976710656 then (oubref7_BitBytes.l0 k l0 (List.replicate (wrap64 (Int.tdiv (wrap64 ((l0.length : Int) + 7)) 8) : Int).toNat 0) 0) else (none)) else (none)) = some r := h
 clear h
 obtain ⟨ji2, hji2⟩ : ∃ j_ : Int, (wrap64 (Int.tdiv (wrap64 ((l0.length : Int) + 7)) 8)) = j_ := ⟨_, rfl⟩
 replace H : (if 0 ≤ (ji2) then (if (ji2 : Int).toNat ≤ 281474976710656 then (oubref7_BitBytes.l0 k l0 (List.replicate (ji2 : Int).toNat 0) 0) else (none)) else (none)) = some r := by first | (rw [hji2] at H; exact H) | (simp only [hji2] at H ⊢; exact H)
 have hji2w : (IntKind.i64.wrap (Int.tdiv (wrap64 ((l0.length : Int) + 7)) 8)) = ji2 := (i64_w _).trans hji2
 by_cases c3 : 0 ≤ (ji2)
 ·rw [if_pos c3] at H
  have c3b0 := eq_true c3
  have c3b1 : decide (0 ≤ (ji2)) = true := decide_eq_true c3
  clear c3
  by_cases c4 : (ji2 : Int).toNat ≤ 281474976710656
  ·rw [if_pos c4] at H
   have c4b0 := eq_true c4
   have c4b1 : decide ((ji2 : Int).toNat ≤ 281474976710656) = true := decide_eq_true c4
   clear c4
   obtain ⟨y135, hy135⟩ : ∃ y_ : List Int, y_ = (List.replicate (ji2 : Int).toNat 0) := ⟨_, rfl⟩
   replace H : (oubref7_BitBytes.l0 k l0 y135 0) = some r := by first | (rw [hy135]; with_reducible exact H) | (have H2_ := (Option.bind_some _ _).symm.trans H; rw [hy135]; with_reducible exact H2_) | (have H2_ := (Option.bind_some _ _).symm.trans H; with_reducible exact H2_) | with_reducible exact H | (rw [hy135]; exact H) | exact H
   have Ny135 := Aside0.mk hy135
   clear hy135
   have H' := Aside0.mk H
   clear H
   go_enter Tryz.func118, Tryz.ntmps118
   go_wp2_with (first | ((with_reducible refine gate_dst (N := 9) rfl ?_); refine Kd.R_make (Kd.int .u8) _ 5 rfl (N := 9) rfl 29 _ _ rfl ji2 rfl rfl Tryz.underlying29 (.int .u8 0) 1 info5 rfl (by decide) (by omega) 0 (ok := fun _ => True) (okp := fun _ => True) rfl (fun _ hk => hk) trivial (of_decide_eq_true (by first | (with_reducible assumption) | assumption)) (Nat.le_trans (Nat.mul_le_mul_right _ (of_decide_eq_true (by first | (with_reducible assumption) | assumption) : ji2.toNat ≤ 281474976710656)) (by omega)) (Below.refl _ _) (Nat.le_refl _) ?_; intro v136 w5 ho6 hb hg_ hnew_; clear hg_ hnew_; (first | rw [← Ny135.out] at ho6 | (simp only [Int.reduceToNat] at ho6; rw [← Ny135.out] at ho6)); have n0_ := Aside0.mk (Kd.R_lower ho6 (below_size (by repeat (first | (with_reducible first | exact HB.out | apply below_alloc | apply pw_below_drewN | apply below_drew1) | exact HB.out)))); have n1_ := Aside0.mk (below_step (by repeat (first | (with_reducible first | exact HB.out | apply below_alloc | apply pw_below_drewN | apply below_drew1) | exact HB.out)) hb); clear HB; have HO137 := n0_; have HB := n1_; clear n0_ n1_; clear hb ho6))
   go_loopg [4] k (fun kq v4 w' => ∃ (x3_1 : List Int) (x4_1 : Int), v4 = .int .i64 x4_1 ∧ Aside0 (oubref7_BitBytes.l0 kq l0 x3_1 x4_1 = some r) ∧ Aside0 (kq ≤ k) ∧ Aside0 (Kd.R (Kd.int .u8) 5 w' w.heap.size (fun _ => True) v136 x3_1) ∧ Aside0 (Below w.heap.size w w'))
   case atStart => exact ⟨(y135), (0), (by first | rfl | (simp; done) | (simp [*]; done)), H', ⟨Nat.le_refl _⟩, ⟨by (with_reducible repeat (first | apply Kd.R_alloc | apply Kd.R_drewN | apply Kd.R_drew)); exact HO137.out⟩, ⟨by repeat (first | (with_reducible first | exact HB.out | apply below_alloc | apply pw_below_drewN | apply below_drew1) | exact HB.out)⟩⟩
   case round =>
    clear H'
    try clear c1
    try clear p2
    try clear c3
    try clear c3b0
    try clear c3b1
    try clear c4
    try clear c4b0
    try clear c4b1
    try clear p6
    obtain ⟨x3_1, x4_1, rfl, HA, HK1, HO_3, HB⟩ := hrel
    cases gk with
    | zero => exact absurd HA.out (by simp [oubref7_BitBytes.l0])
    | succ k1 =>
     have H := HA.out
     clear HA
     simp only [oubref7_BitBytes.l0] at H
     by_cases c7 : x4_1 < (l0.length : Int)
     ·rw [if_pos c7] at H
      have c7b0 : decide (x4_1 < (l0.length : Int)) = true := decide_eq_true c7
      clear c7
      obtain ⟨ji8, hji8⟩ : ∃ j_ : Int, (wrap64 (Int.tdiv x4_1 8)) = j_ := ⟨_, rfl⟩
      replace H : (if 0 ≤ (ji8) then (if (ji8) < (x3_1.length : Int) then (if 0 ≤ x4_1 then (if 0 ≤ (IntKind.u64.wrap (Int.tmod x4_1 8)) then (oubref7_BitBytes.l0 k1 l0 (x3_1.set ((ji8) : Int).toNat (Go.bits .or .u8 (rd x3_1 (ji8)) ((shl .i64 (rd l0 x4_1) (IntKind.u64.wrap (Int.tmod x4_1 8))) % 256))) (wrap64 (x4_1 + 1))) else (none)) else (none)) else (none)) else (none)) = some r := by first | (rw [hji8] at H; exact H) | (simp only [hji8] at H ⊢; exact H)
      have hji8w : (IntKind.i64.wrap (Int.tdiv x4_1 8)) = ji8 := (i64_w _).trans hji8
      by_cases c9 : 0 ≤ (ji8)
      ·rw [if_pos c9] at H
       have c9b0 : decide (0 ≤ (ji8)) = true := decide_eq_true c9
       clear c9
       by_cases c10 : (ji8) < (x3_1.length : Int)
       ·rw [if_pos c10] at H
        have c10b0 : decide ((ji8) < (x3_1.length : Int)) = true := decide_eq_true c10
        clear c10
        by_cases c11 : 0 ≤ x4_1
        ·rw [if_pos c11] at H
         have c11b0 : decide (0 ≤ x4_1) = true := decide_eq_true c11
         clear c11
         obtain ⟨ji12, hji12⟩ : ∃ j_ : Int, (IntKind.u64.wrap (Int.tmod x4_1 8)) = j_ := ⟨_, rfl⟩
         replace H : (if 0 ≤ (ji12) then (oubref7_BitBytes.l0 k1 l0 (x3_1.set ((ji8) : Int).toNat (Go.bits .or .u8 (rd x3_1 (ji8)) ((shl .i64 (rd l0 x4_1) (ji12)) % 256))) (wrap64 (x4_1 + 1))) else (none)) = some r := by first | (rw [hji12] at H; exact H) | (simp only [hji12] at H ⊢; exact H)
         by_cases c13 : 0 ≤ (ji12)
         ·rw [if_pos c13] at H
          have c13b0 := eq_true c13
          have c13b1 : decide (0 ≤ (ji12)) = true := decide_eq_true c13
          clear c13
          obtain ⟨ji14, hji14⟩ : ∃ j_ : Int, (shl .i64 (rd l0 x4_1) (ji12)) = j_ := ⟨_, rfl⟩
          replace H : (oubref7_BitBytes.l0 k1 l0 (x3_1.set ((ji8) : Int).toNat (Go.bits .or .u8 (rd x3_1 (ji8)) ((ji14) % 256))) (wrap64 (x4_1 + 1))) = some r := by first | (rw [hji14] at H; exact H) | (simp only [hji14] at H ⊢; exact H)
          have hji14_ : (IntKind.i64.wrap ((rd l0 x4_1) * 2 ^ min (ji12).toNat 64)) = ji14 := hji14
          have hji14z : (ji12) ≤ 64 → (IntKind.i64.wrap ((rd l0 x4_1) * 2 ^ (ji12).toNat)) = ji14 := shl_small hji14
          have hji14y : (wrap64 ((rd l0 x4_1) * 2 ^ min (ji12).toNat 64)) = ji14 := (i64_w _).symm.trans hji14_
          have hji14x : (ji12) ≤ 64 → (wrap64 ((rd l0 x4_1) * 2 ^ (ji12).toNat)) = ji14 := fun h_ => (i64_w _).symm.trans (hji14z h_)
          obtain ⟨y140, hy140⟩ : ∃ y_ : List Int, y_ = (x3_1.set ((ji8) : Int).toNat (Go.bits .or .u8 (rd x3_1 (ji8)) ((ji14) % 256))) := ⟨_, rfl⟩
          replace H : (oubref7_BitBytes.l0 k1 l0 y140 (wrap64 (x4_1 + 1))) = some r := by first | (rw [hy140]; with_reducible exact H) | (have H2_ := (Option.bind_some _ _).symm.trans H; rw [hy140]; with_reducible exact H2_) | (have H2_ := (Option.bind_some _ _).symm.trans H; with_reducible exact H2_) | with_reducible exact H | (rw [hy140]; exact H) | exact H
          have Ny140 := Aside0.mk hy140
          clear hy140
          have H' := Aside0.mk H
          clear H
          try go_wp2
          have n0_ := Aside0.mk (Kd.R_drew HO_3.out)
          have n1_ := Aside0.mk (below_drew1 HB.out)
          clear HO_3
          clear HB
          have HO_3 := n0_
          have HB := n1_
          clear n0_ n1_
          obtain ⟨Ao17, co17, eo17⟩ := Kd.R_slice HO_3.out
          (first | subst eo17 | (injection eo17 with f1_ f2_ f3_; have f4_ := f1_.symm; have f5_ := f3_.symm; clear f1_ f2_ f3_; subst f4_; subst f5_))
          have p138 : 0 ≤ ((ji8) : Int) := of_decide_eq_true (by first | (with_reducible assumption) | assumption)
          have q138 : (ji8) < (x3_1.length : Int) := of_decide_eq_true (by first | (with_reducible assumption) | assumption)
          obtain ⟨ad138, e138, hx138_0⟩ := Kd.at_int (Kd.R_reads' HO_3.out).2.2 (ji8) p138 q138
          cases e138
          replace p138 := eq_true p138
          replace q138 := eq_true q138
          have p139 : 0 ≤ (x4_1 : Int) := of_decide_eq_true (by first | (with_reducible assumption) | assumption)
          have q139 : x4_1 < (l0.length : Int) := of_decide_eq_true (by first | (with_reducible assumption) | assumption)
          obtain ⟨ad139, e139, hx139_0⟩ := Kd.at_int HR0.out x4_1 p139 q139
          have hw139_0 := hx139_0
          cases e139
          replace hx139_0 := (HB.out.cell (World.block_lt_of_cell? w _ hx139_0)).trans hx139_0
          replace p139 := eq_true p139
          replace q139 := eq_true q139
          have p15 : 0 ≤ ((ji8) : Int) := of_decide_eq_true (by first | (with_reducible assumption) | assumption)
          have q15 : ((ji8) : Int) < ((x3_1.length : Int) : Int) := of_decide_eq_true (by first | (with_reducible assumption) | assumption)
          obtain ⟨go15, co15, eo15, gb15, gl15, cl15, HG15⟩ := Kd.R_form HO_3.out (by omega)
          (first | cases eo15 | (injection eo15 with ea_ en_ ec_; (first | subst ea_ | (injection ea_ with ea_; subst ea_)); subst ec_; clear en_))
          have GB15 := Aside0.mk gb15
          have GG15 := Aside0.mk HG15
          clear gb15 gl15 HG15
          (first | simp only [add_plain] at hx138_0 | skip)
          obtain ⟨hx15_0, hf15_0⟩ := Kd.R_celln 0 HO_3.out ((ji8) : Int) p15 q15
          replace p15 := eq_true p15
          replace q15 := eq_true q15
          have HP18 := Kd.R_putn HO_3.out ((ji8) : Int) (Go.bits .or .u8 (rd x3_1 (ji8)) ((ji14) % 256))
          rw [← Ny140.out] at HP18
          have HQ18 := Aside0.mk HP18
          clear HP18
          refine start_ (n := 17) (S := fun w' => w'.cell? ⟨go15, ((ji8)).toNat, none⟩ = some (.int .u8 (rd x3_1 (ji8))) ∧ w'.cell? (ad139.add (x4_1).toNat) = some (.int .i64 (rd l0 x4_1))) (ds := [16]) #[false, false, false, false, false, false, false, false, false, false, false, false, false, false, false, false, false] (by kernel_rfl) rfl rfl ⟨hx138_0, ((HB.out.cell (World.block_lt_of_cell? w _ hw139_0)).trans hw139_0)⟩ (fun hHeld => ?_); refine with_tabW oubref7_BitBytes.tab5 oubref7_BitBytes.bits5 (fun HT_ HW_ => ?_)
          generalize wr.drew = w16 at HO_3 HB GG15 HQ18 hf15_0 hx138_0 hx139_0 hx15_0 hHeld ⊢
          refine pure_ (i := 0) (N := some 16) (v := ?_) (a' := ?_) #[true, false, false, false, false, false, false, false, false, false, false, false, false, false, false, false, false] rfl rfl (any_of HT_.out (by kernel_rfl)) (fun _ _ _ h => h) (Or.inl ⟨by rfl, ?_⟩) ?_ ?_
          rotate_left
          ·intro w'
           go_simp
           with_reducible rfl
          rotate_left
          ·simp only [Act.put, List.setIfInBounds_toArray, List.set_cons_zero, List.set_cons_succ, i64_w, i32_w]
           rfl
          refine pure_ (i := 1) (N := some 17) (v := ?_) (a' := ?_) #[true, true, false, false, false, false, false, false, false, false, false, false, false, false, false, false, false] rfl rfl (any_of HT_.out (by kernel_rfl)) (fun _ _ _ h => h) (Or.inl ⟨by rfl, ?_⟩) ?_ ?_
          rotate_left
          ·intro w'
           go_simp
           with_reducible rfl
          rotate_left
          ·simp only [Act.put, List.setIfInBounds_toArray, List.set_cons_zero, List.set_cons_succ, i64_w, i32_w]
           rfl
          refine pure_ (i := 2) (N := some 18) (v := ?_) (a' := ?_) #[true, true, true, false, false, false, false, false, false, false, false, false, false, false, false, false, false] rfl rfl (any_of HT_.out (by kernel_rfl)) (fun _ _ _ h => h) (Or.inl ⟨by rfl, ?_⟩) ?_ ?_
          rotate_left
          ·intro w'
           go_simp
           with_reducible rfl
          rotate_left
          ·simp only [Act.put, List.setIfInBounds_toArray, List.set_cons_zero, List.set_cons_succ, i64_w, i32_w]
           rfl
          refine pure_ (i := 3) (N := some 19) (v := ?_) (a' := ?_) #[true, true, true, true, false, false, false, false, false, false, false, false, false, false, false, false, false] rfl rfl (any_of HT_.out (by kernel_rfl)) (fun _ _ _ h => h) (Or.inl ⟨by rfl, ?_⟩) ?_ ?_
          rotate_left
          ·intro w'
           go_simp
           with_reducible rfl
          rotate_left
          ·simp only [Act.put, List.setIfInBounds_toArray, List.set_cons_zero, List.set_cons_succ, i64_w, i32_w]
           rfl
          refine pure_ (i := 5) (N := some 21) (v := ?_) (a' := ?_) #[true, true, true, true, false, true, false, false, false, false, false, false, false, false, false, false, false] rfl rfl (any_of HT_.out (by kernel_rfl)) (fun _ _ _ h => h) (Or.inl ⟨by rfl, ?_⟩) ?_ ?_
          rotate_left
          ·intro w'
           go_simp
           with_reducible rfl
          rotate_left
          ·simp only [Act.put, List.setIfInBounds_toArray, List.set_cons_zero, List.set_cons_succ, i64_w, i32_w]
           rfl
          refine pure_ (i := 6) (N := some 22) (v := ?_) (a' := ?_) #[true, true, true, true, false, true, true, false, false, false, false, false, false, false, false, false, false] rfl rfl (any_of HT_.out (by kernel_rfl)) (fun _ _ _ h => h) (Or.inl ⟨by rfl, ?_⟩) ?_ ?_
          rotate_left
          ·intro w'
           go_simp
           with_reducible rfl
          rotate_left
          ·simp only [Act.put, List.setIfInBounds_toArray, List.set_cons_zero, List.set_cons_succ, i64_w, i32_w]
           rfl
          refine pure_ (i := 7) (N := some 23) (v := ?_) (a' := ?_) #[true, true, true, true, false, true, true, true, false, false, false, false, false, false, false, false, false] rfl rfl (any_of HT_.out (by kernel_rfl)) (fun _ _ _ h => h) (Or.inl ⟨by rfl, ?_⟩) ?_ ?_
          rotate_left
          ·intro w'
           go_simp
           with_reducible rfl
          rotate_left
          ·simp only [Act.put, List.setIfInBounds_toArray, List.set_cons_zero, List.set_cons_succ, i64_w, i32_w]
           rfl
          refine pure_ (i := 9) (N := some 25) (v := ?_) (a' := ?_) #[true, true, true, true, false, true, true, true, false, true, false, false, false, false, false, false, false] rfl rfl (any_of HT_.out (by kernel_rfl)) (fun _ _ _ h => h) (Or.inl ⟨by rfl, ?_⟩) ?_ ?_
          rotate_left
          ·intro w'
           go_simp
           with_reducible rfl
          rotate_left
          ·simp only [Act.put, List.setIfInBounds_toArray, List.set_cons_zero, List.set_cons_succ, i64_w, i32_w]
           rfl
          refine pure_ (i := 10) (N := some 26) (v := ?_) (a' := ?_) #[true, true, true, true, false, true, true, true, false, true, true, false, false, false, false, false, false] rfl rfl (any_of HT_.out (by kernel_rfl)) (fun _ _ _ h => h) (Or.inl ⟨by rfl, ?_⟩) ?_ ?_
          rotate_left
          ·intro w'
           go_simp
           with_reducible rfl
          rotate_left
          ·simp only [Act.put, List.setIfInBounds_toArray, List.set_cons_zero, List.set_cons_succ, i64_w, i32_w]
           rfl
          refine pure_ (i := 11) (N := some 27) (v := ?_) (a' := ?_) #[true, true, true, true, false, true, true, true, false, true, true, true, false, false, false, false, false] rfl rfl (any_of HT_.out (by kernel_rfl)) (fun _ _ _ h => h) (Or.inl ⟨by rfl, ?_⟩) ?_ ?_
          rotate_left
          ·intro w'
           go_simp
           with_reducible rfl
          rotate_left
          ·simp only [Act.put, List.setIfInBounds_toArray, List.set_cons_zero, List.set_cons_succ, i64_w, i32_w]
           rfl
          refine take_ (i := 4) (N := some 20) (v := ?_) (a' := ?_) #[true, true, true, true, true, true, true, true, false, true, true, true, false, false, false, false, false] rfl rfl (take_ofW HT_.out HW_.out (by kernel_rfl)) (fun _ _ _ h => h) (Or.inl ⟨by rfl, ?_⟩) hHeld ?_ ?_
          rotate_left
          ·rintro w' ⟨s0, s1⟩
           go_simp
           with_reducible rfl
          rotate_left
          ·simp only [Act.put, List.setIfInBounds_toArray, List.set_cons_zero, List.set_cons_succ, i64_w, i32_w]
           rfl
          refine take_ (i := 8) (N := some 24) (v := ?_) (a' := ?_) #[true, true, true, true, true, true, true, true, true, true, true, true, false, false, false, false, false] rfl rfl (take_ofW HT_.out HW_.out (by kernel_rfl)) (fun _ _ _ h => h) (Or.inl ⟨by rfl, ?_⟩) hHeld ?_ ?_
          rotate_left
          ·rintro w' ⟨s0, s1⟩
           go_simp
           with_reducible rfl
          rotate_left
          ·simp only [Act.put, List.setIfInBounds_toArray, List.set_cons_zero, List.set_cons_succ, i64_w, i32_w]
           rfl
          refine pure_ (i := 12) (N := some 28) (v := ?_) (a' := ?_) #[true, true, true, true, true, true, true, true, true, true, true, true, true, false, false, false, false] rfl rfl (any_of HT_.out (by kernel_rfl)) (fun _ _ _ h => h) (Or.inl ⟨by rfl, ?_⟩) ?_ ?_
          rotate_left
          ·intro w'
           go_simp
           with_reducible rfl
          rotate_left
          ·simp only [Act.put, List.setIfInBounds_toArray, List.set_cons_zero, List.set_cons_succ, i64_w, i32_w]
           rfl
          refine pure_ (i := 13) (N := some 29) (v := ?_) (a' := ?_) #[true, true, true, true, true, true, true, true, true, true, true, true, true, true, false, false, false] rfl rfl (any_of HT_.out (by kernel_rfl)) (fun _ _ _ h => h) (Or.inl ⟨by rfl, ?_⟩) ?_ ?_
          rotate_left
          ·intro w'
           go_simp
           with_reducible rfl
          rotate_left
          ·simp only [Act.put, List.setIfInBounds_toArray, List.set_cons_zero, List.set_cons_succ, i64_w, i32_w]
           rfl
          refine pure_ (i := 14) (N := some 30) (v := ?_) (a' := ?_) #[true, true, true, true, true, true, true, true, true, true, true, true, true, true, true, false, false] rfl rfl (any_of HT_.out (by kernel_rfl)) (fun _ _ _ h => h) (Or.inl ⟨by rfl, ?_⟩) ?_ ?_
          rotate_left
          ·intro w'
           go_simp
           with_reducible rfl
          rotate_left
          ·simp only [Act.put, List.setIfInBounds_toArray, List.set_cons_zero, List.set_cons_succ, i64_w, i32_w]
           rfl
          refine pure_ (i := 15) (N := some 31) (v := ?_) (a' := ?_) #[true, true, true, true, true, true, true, true, true, true, true, true, true, true, true, true, false] rfl rfl (any_of HT_.out (by kernel_rfl)) (fun _ _ _ h => h) (Or.inl ⟨by rfl, ?_⟩) ?_ ?_
          rotate_left
          ·intro w'
           go_simp
           with_reducible rfl
          rotate_left
          ·simp only [Act.put, List.setIfInBounds_toArray, List.set_cons_zero, List.set_cons_succ, i64_w, i32_w]
           rfl
          refine last_ (i := 16) (N := none) #[true, true, true, true, true, true, true, true, true, true, true, true, true, true, true, true, true] rfl rfl (one_of HT_.out (by kernel_rfl)) (by decide) (fun K hK => ?_)
          refine skip_ (w1 := ?_) (by rfl) rfl ?_ ?_
          rotate_left
          ·go_simp
           rfl
          refine hK.out _ _ ?_
          clear hK K
          refine done_ (done_of HT_.out (by kernel_rfl)) ?_
          try go_wp2
          go_roundg k1
          case measure => have := HK1.out; omega
          case rel => exact ⟨(y140), (wrap64 (x4_1 + 1)), (by first | rfl | (simp; done) | (simp [*]; done)), H', ⟨by have := HK1.out; omega⟩, ⟨by (with_reducible repeat (first | apply Kd.R_alloc | apply Kd.R_drewN | apply Kd.R_drew)); exact HQ18.out⟩, ⟨by repeat (first | (with_reducible first | exact HB.out | apply below_alloc | apply pw_below_drewN | apply below_drew1 | refine below_set ?_ GB15.out) | exact HB.out)⟩⟩
         ·rw [if_neg c13] at H
          exact absurd H (by simp)
        ·rw [if_neg c11] at H
         exact absurd H (by simp)
       ·rw [if_neg c10] at H
        exact absurd H (by simp)
      ·rw [if_neg c9] at H
       exact absurd H (by simp)
     ·rw [if_neg c7] at H
      have c7b0 : decide (x4_1 < (l0.length : Int)) = false := decide_eq_false c7
      clear c7
      obtain rfl := Option.some.inj H
      go_wp2
      go_ret
      exact ⟨_, by first | rfl | (simp [errW_none, errW_some] <;> rfl) | (simp only [← hji2]; first | rfl | (simp [errW_none, errW_some] <;> rfl)) | (simp [*, errW_none, errW_some] <;> rfl), by (with_reducible repeat (first | apply Kd.R_alloc | apply Kd.R_drewN | apply Kd.R_drew)); exact HO_3.out, by repeat (first | (with_reducible first | exact HB.out | apply below_alloc | apply pw_below_drewN | apply below_drew1) | exact HB.out)⟩
  ·rw [if_neg c4] at H
   exact absurd H (by simp)
 ·rw [if_neg c3] at H
  exact absurd H (by simp)
def oubref7_MayBits.f (a0 : Int) : Option (Bool) := if a0 ≥ 1 then (some (decide (a0 ≤ 127))) else (some false)
set_option maxHeartbeats 8000000 in
set_option maxRecDepth 100000 in
theorem oubref7_MayBits.calls (a0 : Int) (r : Bool) (w : World) (h : oubref7_MayBits.f a0 = some r) :
  Calls Tryz.prog 167 #[.int .i64 a0] w fun e w' => e = .returned (.bool r) ∧ Drawn0 w w' := by
 have H : (if a0 ≥ 1 then (some (decide (a0 ≤ 127))) else (some false)) = some r := h
 clear h
 by_cases c2 : a0 ≥ 1
 ·rw [if_pos c2] at H
  have c2b0 : decide (1 ≤ a0) = true := decide_eq_true c2
  clear c2
  obtain rfl := Option.some.inj H
  go_enter Tryz.func167, Tryz.ntmps167
  go_wp2
  go_ret
  exact ⟨by first | rfl | (simp; done) | (simp [*]; done), by repeat (first | exact Drawn0.refl _ | apply Drawn0.step)⟩
 ·rw [if_neg c2] at H
  have c2b0 : decide (1 ≤ a0) = false := decide_eq_false c2
  clear c2
  obtain rfl := Option.some.inj H
  go_enter Tryz.func167, Tryz.ntmps167
  go_wp2
  go_ret
  exact ⟨by first | rfl | (simp; done) | (simp [*]; done), by repeat (first | exact Drawn0.refl _ | apply Drawn0.step)⟩
def oubref7_ParseBits.l0 : Nat → Int → List Int → List Int → Int → Option (List Int × Int)
 | 0, _, _, _, _ => none
 | k + 1, x0, x1, x6, x7 => if x7 < x0 then (if 0 ≤ (wrap64 (Int.tdiv x7 8)) then (if (wrap64 (Int.tdiv x7 8)) < (x1.length : Int) then (if 0 ≤ (IntKind.u64.wrap (Int.tmod x7 8)) then (if 0 ≤ x7 then (if x7 < (x6.length : Int) then (oubref7_ParseBits.l0 k x0 x1 (x6.set (x7 : Int).toNat (Go.bits .and .i64 (shr .i64 (wrap64 (rd x1 (wrap64 (Int.tdiv x7 8)))) (IntKind.u64.wrap (Int.tmod x7 8))) 1)) (wrap64 (x7 + 1))) else (none)) else (none)) else (none)) else (none)) else (none)) else ((oubref7_BitBytes.f k x6).bind fun t147 => ((oubref_Bytes.f t147 x1).bind fun t150 => (if t150 = true then (some (x6, 0)) else (some (([] : List Int), 2)))))
def oubref7_ParseBits.f (k : Nat) (a0 : Int) (l1 : List Int) : Option (List Int × Int) := (oubref7_MayBits.f a0).bind fun t141 => (if t141 = true then (if (l1.length : Int) = (wrap64 (Int.tdiv (wrap64 (a0 + 7)) 8)) then (if 0 ≤ a0 then (if (a0 : Int).toNat ≤ 35184372088832 then (oubref7_ParseBits.l0 k a0 l1 (List.replicate (a0 : Int).toNat 0) 0) else (none)) else (none)) else (some (([] : List Int), 2))) else (some (([] : List Int), 1)))
theorem oubref7_ParseBits.mono_l : ∀ k, (∀ y0 y1 y2 y3, LeO (oubref7_ParseBits.l0 k y0 y1 y2 y3) (oubref7_ParseBits.l0 (k + 1) y0 y1 y2 y3))
 | 0 => fun _ _ _ _ r h => by simp [oubref7_ParseBits.l0] at h
 | k + 1 => by
  have ih0 := oubref7_ParseBits.mono_l k
  ·intro y0 y1 y2 y3
   unfold oubref7_ParseBits.l0
   repeat' first
   | (with_reducible exact ih0 _ _ _ _)
   | (with_reducible exact oubref7_BitBytes.mono _ _)
   | (with_reducible exact LeO.refl _)
   | (with_reducible exact LeO.none _)
   | (with_reducible refine LeO.ite ?_ ?_)
   | (with_reducible refine LeO.bind ?_ (fun _ => ?_))
   | exact ih0 _ _ _ _
   | exact oubref7_BitBytes.mono _ _
   | exact LeO.none _
   | refine LeO.ite ?_ ?_
   | refine LeO.bind ?_ (fun _ => ?_)
theorem oubref7_ParseBits.mono : ∀ a0 a1 k, LeO (oubref7_ParseBits.f k a0 a1) (oubref7_ParseBits.f (k + 1) a0 a1) := by
 intro a0 a1 k
 have ih0 := oubref7_ParseBits.mono_l k
 unfold oubref7_ParseBits.f
 repeat' first
   | (with_reducible exact ih0 _ _ _ _)
   | (with_reducible exact oubref7_BitBytes.mono _ _)
   | (with_reducible exact LeO.refl _)
   | (with_reducible exact LeO.none _)
   | (with_reducible refine LeO.ite ?_ ?_)
   | (with_reducible refine LeO.bind ?_ (fun _ => ?_))
   | exact ih0 _ _ _ _
   | exact oubref7_BitBytes.mono _ _
   | exact LeO.none _
   | refine LeO.ite ?_ ?_
   | refine LeO.bind ?_ (fun _ => ?_)
set_option maxHeartbeats 8000000 in
set_option maxRecDepth 100000 in
theorem oubref7_ParseBits.calls (k : Nat) (a0 : Int) (A1 : Option Addr) (c1 : Nat) (l1 : List Int) (r1 : List Int) (r2 : Int) (w : World) (hr1 : Kd.C (Kd.int .u8) w A1 l1.length l1) (hc1 : l1.length ≤ c1) (h : oubref7_ParseBits.f k a0 l1 = some (r1, r2)) :
  Calls Tryz.prog 115 #[.int .i64 a0, .slice A1 l1.length c1] w fun e w' => ∃ v0_ : Value, e = .returned (.tuple #[v0_, .int .i64 r2]) ∧ Kd.R (Kd.int .i64) 3 w' w.heap.size (fun _ => True) v0_ r1 ∧ Below w.heap.size w w' := by
 have HR1 := Aside0.mk hr1
 have HC1 := Aside0.mk hc1
 clear hr1 hc1
 have HB := Aside0.mk (Below.refl w.heap.size w)
 have H : ((oubref7_MayBits.f a0).bind fun t141 => (if t141 = true then (if (l1.length : Int) = (wrap64 (Int.tdiv (wrap64 (a0 + 7)) 8)) then (if 0 ≤ a0 then (if (a0 : Int).toNat ≤ 35184372088832 then (oubref7_ParseBits.l0 k a0 l1 (List.replicate (a0 : Int).toNat 0) 0) else (none)) else (none)) else (some (([] : List Int), 2))) else (some (([] : List Int), 1)))) = some (r1, r2) := h
 clear h
 replace H := Option.bind_eq_some_iff.mp H
 obtain ⟨t141, A30, H⟩ := H
 replace H : (if t141 = true then (if (l1.length : Int) = (wrap64 (Int.tdiv (wrap64 (a0 + 7)) 8)) then (if 0 ≤ a0 then (if (a0 : Int).toNat ≤ 35184372088832 then (oubref7_ParseBits.l0 k a0 l1 (List.replicate (a0 : Int).toNat 0) 0) else (none)) else (none)) else (some (([] : List Int), 2))) else (some (([] : List Int), 1))) = some (r1, r2) := H
 have A3 := Aside0.mk A30
 clear A30
 by_cases c4 : t141 = true
 ·subst c4
  have H1 : (if (l1.length : Int) = (wrap64 (Int.tdiv (wrap64 (a0 + 7)) 8)) then (if 0 ≤ a0 then (if (a0 : Int).toNat ≤ 35184372088832 then (oubref7_ParseBits.l0 k a0 l1 (List.replicate (a0 : Int).toNat 0) 0) else (none)) else (none)) else (some (([] : List Int), 2))) = some (r1, r2) := by rw [if_pos rfl] at H; exact H
  clear H
  have H := H1
  clear H1
  by_cases c5 : (l1.length : Int) = (wrap64 (Int.tdiv (wrap64 (a0 + 7)) 8))
  ·rw [if_pos c5] at H
   have c5b0 : ((l1.length : Int) == (wrap64 (Int.tdiv (wrap64 (a0 + 7)) 8))) = true := beq_iff_eq.mpr c5
   have c5b1 : ((l1.length : Int) != (wrap64 (Int.tdiv (wrap64 (a0 + 7)) 8))) = false := bne_eq_false_iff_eq.mpr c5
   clear c5
   by_cases c6 : 0 ≤ a0
   ·rw [if_pos c6] at H
    have c6b0 := eq_true c6
    have c6b1 : decide (0 ≤ a0) = true := decide_eq_true c6
    clear c6
    by_cases c7 : (a0 : Int).toNat ≤ 35184372088832
    ·rw [if_pos c7] at H
     have c7b0 := eq_true c7
     have c7b1 : decide ((a0 : Int).toNat ≤ 35184372088832) = true := decide_eq_true c7
     clear c7
     obtain ⟨y142, hy142⟩ : ∃ y_ : List Int, y_ = (List.replicate (a0 : Int).toNat 0) := ⟨_, rfl⟩
     replace H : (oubref7_ParseBits.l0 k a0 l1 y142 0) = some (r1, r2) := by first | (rw [hy142]; with_reducible exact H) | (have H2_ := (Option.bind_some _ _).symm.trans H; rw [hy142]; with_reducible exact H2_) | (have H2_ := (Option.bind_some _ _).symm.trans H; with_reducible exact H2_) | with_reducible exact H | (rw [hy142]; exact H) | exact H
     have Ny142 := Aside0.mk hy142
     clear hy142
     have H' := Aside0.mk H
     clear H
     go_enter Tryz.func115, Tryz.ntmps115
     go_wp2_with (first | ((with_reducible refine gate_callee (f := 167) rfl ?_); refine goesL_ (some 9) rfl rfl Tryz.func167 (by kernel_rfl) rfl #[.int .i64 a0] rfl (by (try simp only [List.map_toArray, List.map_cons, List.map_nil]); first | done | rfl | (simp only [List.length_drop, List.length_take]; rfl)) ?_; (with_reducible refine (oubref7_MayBits.calls a0 true _ A3.out).mono ?_); rintro e w' ⟨rfl, ⟨nd, rfl⟩⟩; refine ⟨_, rfl, ?_⟩) | ((with_reducible refine gate_dst (N := 18) rfl ?_); refine Kd.R_make (Kd.int .i64) _ 3 rfl (N := 18) rfl 33 _ _ rfl a0 rfl rfl Tryz.underlying33 (.int .i64 0) 8 info3 rfl (by decide) (by omega) 0 (ok := fun _ => True) (okp := fun _ => True) rfl (fun _ hk => hk) trivial (of_decide_eq_true (by first | (with_reducible assumption) | assumption)) (Nat.le_trans (Nat.mul_le_mul_right _ (of_decide_eq_true (by first | (with_reducible assumption) | assumption) : a0.toNat ≤ 35184372088832)) (by omega)) (Below.refl _ _) (Nat.le_refl _) ?_; intro v143 w8 ho9 hb hg_ hnew_; clear hg_ hnew_; (first | rw [← Ny142.out] at ho9 | (simp only [Int.reduceToNat] at ho9; rw [← Ny142.out] at ho9)); have n0_ := Aside0.mk (Kd.R_lower ho9 (below_size (by repeat (first | (with_reducible first | exact HB.out | apply below_alloc | apply pw_below_drewN | apply below_drew1) | exact HB.out)))); have n1_ := Aside0.mk (below_step (by repeat (first | (with_reducible first | exact HB.out | apply below_alloc | apply pw_below_drewN | apply below_drew1) | exact HB.out)) hb); clear HB; have HO144 := n0_; have HB := n1_; clear n0_ n1_; clear hb ho9))
     go_loopg [7] k (fun kq v7 w' => ∃ (x6_1 : List Int) (x7_1 : Int), v7 = .int .i64 x7_1 ∧ Aside0 (oubref7_ParseBits.l0 kq a0 l1 x6_1 x7_1 = some (r1, r2)) ∧ Aside0 (kq ≤ k) ∧ Aside0 (Kd.R (Kd.int .i64) 3 w' w.heap.size (fun _ => True) v143 x6_1) ∧ Aside0 (Below w.heap.size w w'))
     case atStart => exact ⟨(y142), (0), (by first | rfl | (simp; done) | (simp [*]; done)), H', ⟨Nat.le_refl _⟩, ⟨by (with_reducible repeat (first | apply Kd.R_alloc | apply Kd.R_drewN | apply Kd.R_drew)); exact HO144.out⟩, ⟨by repeat (first | (with_reducible first | exact HB.out | apply below_alloc | apply pw_below_drewN | apply below_drew1) | exact HB.out)⟩⟩
     case round =>
      clear H'
      try clear c1
      try clear p2
      try clear c4
      try clear c5
      try clear c5b0
      try clear c5b1
      try clear c6
      try clear c6b0
      try clear c6b1
      try clear p6
      try clear c7
      try clear c7b0
      try clear c7b1
      obtain ⟨x6_1, x7_1, rfl, HA, HK1, HO_6, HB⟩ := hrel
      cases gk with
      | zero => exact absurd HA.out (by simp [oubref7_ParseBits.l0])
      | succ k1 =>
       have H := HA.out
       clear HA
       simp only [oubref7_ParseBits.l0] at H
       by_cases c10 : x7_1 < a0
       ·rw [if_pos c10] at H
        have c10b0 : decide (x7_1 < a0) = true := decide_eq_true c10
        clear c10
        obtain ⟨ji11, hji11⟩ : ∃ j_ : Int, (wrap64 (Int.tdiv x7_1 8)) = j_ := ⟨_, rfl⟩
        replace H : (if 0 ≤ (ji11) then (if (ji11) < (l1.length : Int) then (if 0 ≤ (IntKind.u64.wrap (Int.tmod x7_1 8)) then (if 0 ≤ x7_1 then (if x7_1 < (x6_1.length : Int) then (oubref7_ParseBits.l0 k1 a0 l1 (x6_1.set (x7_1 : Int).toNat (Go.bits .and .i64 (shr .i64 (wrap64 (rd l1 (ji11))) (IntKind.u64.wrap (Int.tmod x7_1 8))) 1)) (wrap64 (x7_1 + 1))) else (none)) else (none)) else (none)) else (none)) else (none)) = some (r1, r2) := by first | (rw [hji11] at H; exact H) | (simp only [hji11] at H ⊢; exact H)
        have hji11w : (IntKind.i64.wrap (Int.tdiv x7_1 8)) = ji11 := (i64_w _).trans hji11
        by_cases c12 : 0 ≤ (ji11)
        ·rw [if_pos c12] at H
         have c12b0 : decide (0 ≤ (ji11)) = true := decide_eq_true c12
         clear c12
         by_cases c13 : (ji11) < (l1.length : Int)
         ·rw [if_pos c13] at H
          have c13b0 : decide ((ji11) < (l1.length : Int)) = true := decide_eq_true c13
          clear c13
          obtain ⟨ji14, hji14⟩ : ∃ j_ : Int, (IntKind.u64.wrap (Int.tmod x7_1 8)) = j_ := ⟨_, rfl⟩
          replace H : (if 0 ≤ (ji14) then (if 0 ≤ x7_1 then (if x7_1 < (x6_1.length : Int) then (oubref7_ParseBits.l0 k1 a0 l1 (x6_1.set (x7_1 : Int).toNat (Go.bits .and .i64 (shr .i64 (wrap64 (rd l1 (ji11))) (ji14)) 1)) (wrap64 (x7_1 + 1))) else (none)) else (none)) else (none)) = some (r1, r2) := by first | (rw [hji14] at H; exact H) | (simp only [hji14] at H ⊢; exact H)
          by_cases c15 : 0 ≤ (ji14)
          ·rw [if_pos c15] at H
           have c15b0 := eq_true c15
           have c15b1 : decide (0 ≤ (ji14)) = true := decide_eq_true c15
           clear c15
           obtain ⟨ji16, hji16⟩ : ∃ j_ : Int, (shr .i64 (wrap64 (rd l1 (ji11))) (ji14)) = j_ := ⟨_, rfl⟩
           replace H : (if 0 ≤ x7_1 then (if x7_1 < (x6_1.length : Int) then (oubref7_ParseBits.l0 k1 a0 l1 (x6_1.set (x7_1 : Int).toNat (Go.bits .and .i64 (ji16) 1)) (wrap64 (x7_1 + 1))) else (none)) else (none)) = some (r1, r2) := by first | (rw [hji16] at H; exact H) | (simp only [hji16] at H ⊢; exact H)
           have hji16_ : ((wrap64 (rd l1 (ji11))) / 2 ^ min (ji14).toNat 64) = ji16 := hji16
           have hji16z : (ji14) ≤ 64 → ((wrap64 (rd l1 (ji11))) / 2 ^ (ji14).toNat) = ji16 := shr_small hji16
           by_cases c17 : 0 ≤ x7_1
           ·rw [if_pos c17] at H
            have c17b0 : decide (0 ≤ x7_1) = true := decide_eq_true c17
            clear c17
            by_cases c18 : x7_1 < (x6_1.length : Int)
            ·rw [if_pos c18] at H
             have c18b0 : decide (x7_1 < (x6_1.length : Int)) = true := decide_eq_true c18
             clear c18
             obtain ⟨y146, hy146⟩ : ∃ y_ : List Int, y_ = (x6_1.set (x7_1 : Int).toNat (Go.bits .and .i64 (ji16) 1)) := ⟨_, rfl⟩
             replace H : (oubref7_ParseBits.l0 k1 a0 l1 y146 (wrap64 (x7_1 + 1))) = some (r1, r2) := by first | (rw [hy146]; with_reducible exact H) | (have H2_ := (Option.bind_some _ _).symm.trans H; rw [hy146]; with_reducible exact H2_) | (have H2_ := (Option.bind_some _ _).symm.trans H; with_reducible exact H2_) | with_reducible exact H | (rw [hy146]; exact H) | exact H
             have Ny146 := Aside0.mk hy146
             clear hy146
             have H' := Aside0.mk H
             clear H
             have p145 : 0 ≤ ((ji11) : Int) := of_decide_eq_true (by first | (with_reducible assumption) | assumption)
             have q145 : (ji11) < (l1.length : Int) := of_decide_eq_true (by first | (with_reducible assumption) | assumption)
             obtain ⟨ad145, e145, hx145_0⟩ := Kd.at_int HR1.out (ji11) p145 q145
             cases e145
             replace hx145_0 := (HB.out.cell (World.block_lt_of_cell? w _ hx145_0)).trans hx145_0
             replace p145 := eq_true p145
             replace q145 := eq_true q145
             have p19 : 0 ≤ (x7_1 : Int) := of_decide_eq_true (by first | (with_reducible assumption) | assumption)
             have q19 : (x7_1 : Int) < ((x6_1.length : Int) : Int) := of_decide_eq_true (by first | (with_reducible assumption) | assumption)
             obtain ⟨go19, co19, eo19, gb19, gl19, cl19, HG19⟩ := Kd.R_form HO_6.out (by omega)
             (first | cases eo19 | (injection eo19 with ea_ en_ ec_; (first | subst ea_ | (injection ea_ with ea_; subst ea_)); subst ec_; clear en_))
             have GB19 := Aside0.mk gb19
             have GG19 := Aside0.mk HG19
             clear gb19 gl19 HG19
             obtain ⟨hx19_0, hf19_0⟩ := Kd.R_celln 0 HO_6.out (x7_1 : Int) p19 q19
             replace p19 := eq_true p19
             replace q19 := eq_true q19
             have HP20 := Kd.R_putg HO_6.out (x7_1 : Int) (Go.bits .and .i64 (ji16) 1)
             go_wp2_with (first | ((with_reducible refine gate_store (t := 3) (p := 37) rfl ?_); refine store_event (t := 3) (p := 37) (v := ?vo_w21) (w1 := (wr.setCell ⟨go19, (x7_1 : Int).toNat, none⟩ (.int .i64 (Go.bits .and .i64 (ji16) 1)))) ?hg ?ho ?hn ?hr ?_; (case ho => rfl); (case hg => rfl); (case hn => rfl); (case hr => first | (go_simp; done) | (go_simp; rfl)); intro w21 hw; have hg : wr.grownBy w21 (some go19) := (by rw [hw]; exact HP20.2); have hp_ : Kd.R (Kd.int .i64) 3 w21 w.heap.size (fun _ => True) (.slice (some ⟨go19, 0, none⟩) x6_1.length co19) y146 := (by rw [hw, Ny146.out]; exact HP20.1); clear HP20; have n0_ := Aside0.mk (hp_); have n1_ := Aside0.mk ((by rw [hw]; exact below_set (HB.out) GB19.out : Below w.heap.size w w21)); clear HO_6; clear HB; have HO_6 := n0_; have HB := n1_; clear n0_ n1_; clear hg hw hp_))
             go_roundg k1
             case measure => have := HK1.out; omega
             case rel => exact ⟨(y146), (wrap64 (x7_1 + 1)), (by first | rfl | (simp; done) | (simp [*]; done)), H', ⟨by have := HK1.out; omega⟩, ⟨by (with_reducible repeat (first | apply Kd.R_alloc | apply Kd.R_drewN | apply Kd.R_drew)); exact HO_6.out⟩, ⟨by repeat (first | (with_reducible first | exact HB.out | apply below_alloc | apply pw_below_drewN | apply below_drew1) | exact HB.out)⟩⟩
            ·rw [if_neg c18] at H
             exact absurd H (by simp)
           ·rw [if_neg c17] at H
            exact absurd H (by simp)
          ·rw [if_neg c15] at H
           exact absurd H (by simp)
         ·rw [if_neg c13] at H
          exact absurd H (by simp)
        ·rw [if_neg c12] at H
         exact absurd H (by simp)
       ·rw [if_neg c10] at H
        have c10b0 : decide (x7_1 < a0) = false := decide_eq_false c10
        clear c10
        replace H := Option.bind_eq_some_iff.mp H
        obtain ⟨t147, A220, H⟩ := H
        replace H : ((oubref_Bytes.f t147 l1).bind fun t150 => (if t150 = true then (some (x6_1, 0)) else (some (([] : List Int), 2)))) = some (r1, r2) := H
        have A22 := Aside0.mk A220
        clear A220
        replace H := Option.bind_eq_some_iff.mp H
        obtain ⟨t150, A230, H⟩ := H
        replace H : (if t150 = true then (some (x6_1, 0)) else (some (([] : List Int), 2))) = some (r1, r2) := H
        have A23 := Aside0.mk A230
        clear A230
        by_cases c24 : t150 = true
        ·subst c24
         have H1 : (some (x6_1, 0)) = some (r1, r2) := by rw [if_pos rfl] at H; exact H
         clear H
         have H := H1
         clear H1
         simp only [Option.some.injEq, Prod.mk.injEq] at H
         obtain ⟨rfl, rfl⟩ := H
         obtain ⟨Ao25, co25, eo25⟩ := Kd.R_slice HO_6.out
         subst eo25
         go_wp2_with (first | ((with_reducible refine gate_callee (f := 118) rfl ?_); refine goesL_ (some 39) rfl rfl Tryz.func118 (by kernel_rfl) rfl #[.slice Ao25 x6_1.length co25] rfl (by (try simp only [List.map_toArray, List.map_cons, List.map_nil]); first | done | rfl | (simp only [List.length_drop, List.length_take]; rfl)) ?_; (with_reducible refine (oubref7_BitBytes.calls k1 _ _ x6_1 t147 _ ?side1 ?side2 A22.out).mono ?_); (case side1 => repeat (first | exact (Kd.R_reads' HO_6.out).2.2 | (with_reducible refine Kd.C_alloc ?_ _) | (with_reducible refine Kd.C_drewN ?_ _) | (with_reducible refine Kd.C_drew ?_))); (case side2 => exact (Kd.R_reads' HO_6.out).2.1); rintro e w26 ⟨v148, rfl, ho0, hb⟩; refine ⟨_, rfl, ?_⟩; have n0_ := Aside0.mk (Kd.R_below (by (with_reducible repeat (first | apply Kd.R_alloc | apply Kd.R_drewN | apply Kd.R_drew)); exact HO_6.out) hb); have n1_ := Aside0.mk (Kd.R_lower ho0 (below_size (by repeat (first | (with_reducible first | exact HB.out | apply below_alloc | apply pw_below_drewN | apply below_drew1) | exact HB.out)))); have n2_ := Aside0.mk (below_step (by repeat (first | (with_reducible first | exact HB.out | apply below_alloc | apply pw_below_drewN | apply below_drew1) | exact HB.out)) hb); clear HO_6; clear HB; have HO_6 := n0_; have HO149 := n1_; have HB := n2_; clear n0_ n1_ n2_; (try clear hb); (try clear hb2); (try clear hk); (try clear hi); (try clear ho0); obtain ⟨Ao27, co27, eo27⟩ := Kd.R_slice HO149.out; subst eo27) | ((with_reducible refine gate_callee (f := 15) rfl ?_); refine goesL_ (some 41) rfl rfl Tryz.func15 (by kernel_rfl) rfl #[.slice Ao27 t147.length co27, .slice A1 l1.length c1] rfl (by (try simp only [List.map_toArray, List.map_cons, List.map_nil]); first | done | rfl | (simp only [List.length_drop, List.length_take]; rfl)) ?_; (with_reducible refine (oubref_Bytes.calls _ _ t147 _ _ l1 true _ ?side1 ?side2 ?side3 ?side4 A23.out).mono ?_); (case side1 => repeat (first | exact (Kd.R_reads' HO149.out).2.2 | (with_reducible refine Kd.C_alloc ?_ _) | (with_reducible refine Kd.C_drewN ?_ _) | (with_reducible refine Kd.C_drew ?_))); (case side2 => exact (Kd.R_reads' HO149.out).2.1); (case side3 => repeat (first | exact (Kd.C_below HR1.out HB.out) | (with_reducible refine Kd.C_alloc ?_ _) | (with_reducible refine Kd.C_drewN ?_ _) | (with_reducible refine Kd.C_drew ?_))); (case side4 => exact HC1.out); rintro e w' ⟨rfl, ⟨nd, rfl⟩⟩; refine ⟨_, rfl, ?_⟩))
         go_ret2
         exact ⟨_, by first | rfl | (simp [errW_none, errW_some] <;> rfl) | (simp [*, errW_none, errW_some] <;> rfl), by (with_reducible repeat (first | apply Kd.R_alloc | apply Kd.R_drewN | apply Kd.R_drew)); exact HO_6.out, by repeat (first | (with_reducible first | exact HB.out | apply below_alloc | apply pw_below_drewN | apply below_drew1) | exact HB.out)⟩
        ·replace c24 := Bool.eq_false_iff.mpr c24
         subst c24
         have H1 : (some (([] : List Int), 2)) = some (r1, r2) := by rw [if_neg (show ¬ (false = true) by decide)] at H; exact H
         clear H
         have H := H1
         clear H1
         simp only [Option.some.injEq, Prod.mk.injEq] at H
         obtain ⟨rfl, rfl⟩ := H
         obtain ⟨Ao28, co28, eo28⟩ := Kd.R_slice HO_6.out
         subst eo28
         go_wp2_with (first | ((with_reducible refine gate_callee (f := 118) rfl ?_); refine goesL_ (some 39) rfl rfl Tryz.func118 (by kernel_rfl) rfl #[.slice Ao28 x6_1.length co28] rfl (by (try simp only [List.map_toArray, List.map_cons, List.map_nil]); first | done | rfl | (simp only [List.length_drop, List.length_take]; rfl)) ?_; (with_reducible refine (oubref7_BitBytes.calls k1 _ _ x6_1 t147 _ ?side1 ?side2 A22.out).mono ?_); (case side1 => repeat (first | exact (Kd.R_reads' HO_6.out).2.2 | (with_reducible refine Kd.C_alloc ?_ _) | (with_reducible refine Kd.C_drewN ?_ _) | (with_reducible refine Kd.C_drew ?_))); (case side2 => exact (Kd.R_reads' HO_6.out).2.1); rintro e w29 ⟨v148, rfl, ho0, hb⟩; refine ⟨_, rfl, ?_⟩; have n0_ := Aside0.mk (Kd.R_below (by (with_reducible repeat (first | apply Kd.R_alloc | apply Kd.R_drewN | apply Kd.R_drew)); exact HO_6.out) hb); have n1_ := Aside0.mk (Kd.R_lower ho0 (below_size (by repeat (first | (with_reducible first | exact HB.out | apply below_alloc | apply pw_below_drewN | apply below_drew1) | exact HB.out)))); have n2_ := Aside0.mk (below_step (by repeat (first | (with_reducible first | exact HB.out | apply below_alloc | apply pw_below_drewN | apply below_drew1) | exact HB.out)) hb); clear HO_6; clear HB; have HO_6 := n0_; have HO149 := n1_; have HB := n2_; clear n0_ n1_ n2_; (try clear hb); (try clear hb2); (try clear hk); (try clear hi); (try clear ho0); obtain ⟨Ao30, co30, eo30⟩ := Kd.R_slice HO149.out; subst eo30) | ((with_reducible refine gate_callee (f := 15) rfl ?_); refine goesL_ (some 41) rfl rfl Tryz.func15 (by kernel_rfl) rfl #[.slice Ao30 t147.length co30, .slice A1 l1.length c1] rfl (by (try simp only [List.map_toArray, List.map_cons, List.map_nil]); first | done | rfl | (simp only [List.length_drop, List.length_take]; rfl)) ?_; (with_reducible refine (oubref_Bytes.calls _ _ t147 _ _ l1 false _ ?side1 ?side2 ?side3 ?side4 A23.out).mono ?_); (case side1 => repeat (first | exact (Kd.R_reads' HO149.out).2.2 | (with_reducible refine Kd.C_alloc ?_ _) | (with_reducible refine Kd.C_drewN ?_ _) | (with_reducible refine Kd.C_drew ?_))); (case side2 => exact (Kd.R_reads' HO149.out).2.1); (case side3 => repeat (first | exact (Kd.C_below HR1.out HB.out) | (with_reducible refine Kd.C_alloc ?_ _) | (with_reducible refine Kd.C_drewN ?_ _) | (with_reducible refine Kd.C_drew ?_))); (case side4 => exact HC1.out); rintro e w' ⟨rfl, ⟨nd, rfl⟩⟩; refine ⟨_, rfl, ?_⟩))
         go_ret2
         exact ⟨_, by first | rfl | (simp [errW_none, errW_some] <;> rfl) | (simp [*, errW_none, errW_some] <;> rfl), by first | exact Kd.R_nil _ _ _ _ _ | exact Kd.N_nil _ _ _ _ _ | exact Kd.V_nil _ _ _ _ _ | exact Kd.Q_nil _ _ _ _ _ | exact Kd.S_nil _ _ _ _ _, by repeat (first | (with_reducible first | exact HB.out | apply below_alloc | apply pw_below_drewN | apply below_drew1) | exact HB.out)⟩
    ·rw [if_neg c7] at H
     exact absurd H (by simp)
   ·rw [if_neg c6] at H
    exact absurd H (by simp)
  ·rw [if_neg c5] at H
   have c5b0 : ((l1.length : Int) == (wrap64 (Int.tdiv (wrap64 (a0 + 7)) 8))) = false := beq_eq_false_iff_ne.mpr c5
   have c5b1 : ((l1.length : Int) != (wrap64 (Int.tdiv (wrap64 (a0 + 7)) 8))) = true := bne_iff_ne.mpr c5
   simp only [Option.some.injEq, Prod.mk.injEq] at H
   obtain ⟨rfl, rfl⟩ := H
   go_enter Tryz.func115, Tryz.ntmps115
   go_wp2_with (first | ((with_reducible refine gate_callee (f := 167) rfl ?_); refine goesL_ (some 9) rfl rfl Tryz.func167 (by kernel_rfl) rfl #[.int .i64 a0] rfl (by (try simp only [List.map_toArray, List.map_cons, List.map_nil]); first | done | rfl | (simp only [List.length_drop, List.length_take]; rfl)) ?_; (with_reducible refine (oubref7_MayBits.calls a0 true _ A3.out).mono ?_); rintro e w' ⟨rfl, ⟨nd, rfl⟩⟩; refine ⟨_, rfl, ?_⟩))
   go_ret2
   exact ⟨_, by first | rfl | (simp [errW_none, errW_some] <;> rfl) | (simp [*, errW_none, errW_some] <;> rfl), by first | exact Kd.R_nil _ _ _ _ _ | exact Kd.N_nil _ _ _ _ _ | exact Kd.V_nil _ _ _ _ _ | exact Kd.Q_nil _ _ _ _ _ | exact Kd.S_nil _ _ _ _ _, by repeat (first | (with_reducible first | exact HB.out | apply below_alloc | apply pw_below_drewN | apply below_drew1) | exact HB.out)⟩
 ·replace c4 := Bool.eq_false_iff.mpr c4
  subst c4
  have H1 : (some (([] : List Int), 1)) = some (r1, r2) := by rw [if_neg (show ¬ (false = true) by decide)] at H; exact H
  clear H
  have H := H1
  clear H1
  simp only [Option.some.injEq, Prod.mk.injEq] at H
  obtain ⟨rfl, rfl⟩ := H
  go_enter Tryz.func115, Tryz.ntmps115
  go_wp2_with (first | ((with_reducible refine gate_callee (f := 167) rfl ?_); refine goesL_ (some 9) rfl rfl Tryz.func167 (by kernel_rfl) rfl #[.int .i64 a0] rfl (by (try simp only [List.map_toArray, List.map_cons, List.map_nil]); first | done | rfl | (simp only [List.length_drop, List.length_take]; rfl)) ?_; (with_reducible refine (oubref7_MayBits.calls a0 false _ A3.out).mono ?_); rintro e w' ⟨rfl, ⟨nd, rfl⟩⟩; refine ⟨_, rfl, ?_⟩))
  go_ret2
  exact ⟨_, by first | rfl | (simp [errW_none, errW_some] <;> rfl) | (simp [*, errW_none, errW_some] <;> rfl), by first | exact Kd.R_nil _ _ _ _ _ | exact Kd.N_nil _ _ _ _ _ | exact Kd.V_nil _ _ _ _ _ | exact Kd.Q_nil _ _ _ _ _ | exact Kd.S_nil _ _ _ _ _, by repeat (first | (with_reducible first | exact HB.out | apply below_alloc | apply pw_below_drewN | apply below_drew1) | exact HB.out)⟩
end Go.Proofs.YtmbnomlkhmcmaaaGreat.D
end
