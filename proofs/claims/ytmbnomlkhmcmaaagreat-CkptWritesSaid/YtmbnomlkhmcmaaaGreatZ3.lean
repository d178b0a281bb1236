/- Part of the proof of LawCkptWrites. -/
import Derived.Test.YtmbnomlkhmcmaaaGreatZ0
import Derived.Test.YtmbnomlkhmcmaaaGreatZ1
import Derived.Test.YtmbnomlkhmcmaaaGreatZ2
section
namespace Go.Proofs.YtmbnomlkhmcmaaaGreat.A
open Go.RowKit Go.Shelf Go.Proofs.YtmbnomlkhmcmaaaGreatW.PrintWords Go.Proofs.YtmbnomlkhmcmaaaGreatW.PrintLast Go.Proofs.YtmbnomlkhmcmaaaGreat.B Go.Proofs.YtmbnomlkhmcmaaaGreat.Z
set_option linter.unusedVariables false
set_option linter.unusedSimpArgs false
def Sr (w0 : World) (rows : List (Nat × Obj)) (w : World) : Prop :=
  Below w0.heap.size w0 w ∧ ∀ r ∈ rows, w0.heap.size ≤ r.1 ∧ w.heap[r.1]? = some r.2
theorem size_alloc (w : World) (o : Obj) : (w.alloc o).heap.size = w.heap.size + 1 := by
  show (w.heap.push _).size = _
  rw [Array.size_push]
section
variable {w0 w w' : World} {g : Nat} {xs : List Int} {rows rows' : List (Nat × Obj)}
theorem Sr.nil (w0 : World) : Sr w0 [] w0 := ⟨Below.refl _ _, fun _ h => by cases h⟩
theorem Sr.less (h : Sr w0 rows w) (hr : ∀ r ∈ rows', r ∈ rows) : Sr w0 rows' w := ⟨h.1, fun r hm => h.2 r (hr r hm)⟩
theorem Sr.lt (h : Sr w0 rows w) {r : Nat × Obj} (hr : r ∈ rows) : r.1 < w.heap.size := blk_lt (h.2 r hr).2
theorem Sr.below (h : Sr w0 rows w) (hb : Below w.heap.size w w') : Sr w0 rows w' :=
  ⟨below_step h.1 hb, fun r hr => ⟨(h.2 r hr).1, blk_below (h.2 r hr).2 hb⟩⟩
theorem Sr.row (h : Sr w0 rows w) (o : Obj) : Sr w0 ((w.heap.size, o) :: rows) (w.alloc o) := by
  refine ⟨below_step h.1 (allocB w o), fun r hr => ?_⟩
  rcases List.mem_cons.1 hr with rfl | hr
  · exact ⟨h.1.size, heap_top w o⟩
  · exact (h.below (allocB w o)).2 r hr
theorem Sr.box (h : Sr w0 rows w) {g : Nat} {o : Obj} (hg : g = w.heap.size) (ho : w'.heap[g]? = some o) (hb : Below w.heap.size w w') : Sr w0 ((g, o) :: rows) w' := by
  refine ⟨below_step h.1 hb, fun r hr => ?_⟩
  rcases List.mem_cons.1 hr with rfl | hr
  · exact ⟨by rw [hg]; exact h.1.size, ho⟩
  · exact (h.below hb).2 r hr
theorem mh {α : Type} {a : α} {l : List α} : a ∈ a :: l := .head _
theorem mt {α : Type} {a b : α} {l : List α} (h : a ∈ l) : a ∈ b :: l := .tail _ h
theorem mc {α : Type} {a : α} {l l' : List α} (h : a ∈ l') (k : ∀ x ∈ l, x ∈ l') : ∀ x ∈ a :: l, x ∈ l' := List.forall_mem_cons.2 ⟨h, k⟩
theorem Sr.bel (h : Sr w0 rows w) : Below w0.heap.size w0 w := h.1
theorem Sr.cell (h : Sr w0 rows w) {b : Nat} {cs : Array Value} {t : TypeId} (hr : (b, Obj.cells cs t) ∈ rows) (j : Nat) {v : Value} (hj : cs[j]? = some v) : w.cell? ⟨b, j, none⟩ = some v := cell_at (h.2 _ hr).2 j hj
end
structure Ly where
  (c0 c1 c2 c3 c4 c5 c6 c7 c8 c9 : Int)
  A : Option Addr
  cap : Nat
  l : List (List Int)
namespace Ly
abbrev v (y : Ly) : Value := .agg #[.int .i64 y.c0, .int .i64 y.c1, .int .i64 y.c2, .int .i64 y.c3, .int .i64 y.c4, .int .i64 y.c5, .int .i64 y.c6, .int .i64 y.c7, .int .i64 y.c8, .int .i64 y.c9, .slice y.A y.l.length y.cap]
abbrev obj (y : Ly) : Obj := .cells #[.int .i64 y.c0, .int .i64 y.c1, .int .i64 y.c2, .int .i64 y.c3, .int .i64 y.c4, .int .i64 y.c5, .int .i64 y.c6, .int .i64 y.c7, .int .i64 y.c8, .int .i64 y.c9, .slice y.A y.l.length y.cap] 46
def R (y : Ly) (w : World) : Prop := Kd.C (Kd.slice 3 (Kd.int .i64)) w y.A y.l.length y.l ∧ y.l.length ≤ y.cap
theorem R.below {y : Ly} {w w' : World} (h : y.R w) (hb : Below w.heap.size w w') : y.R w' := ⟨Kd.C_below h.1 hb, h.2⟩
def Ok (y : Ly) : Prop := 0 ≤ y.c0 ∧ y.c0 ≤ 6 ∧ 1 ≤ y.c1 ∧ y.c1 ≤ 4 ∧ 1 ≤ y.c2 ∧ y.c2 ≤ 64 ∧ 1 ≤ y.c3 ∧ y.c3 ≤ 4 ∧ 1 ≤ y.c4 ∧ y.c4 ≤ 8 ∧ 1 ≤ y.c5 ∧ y.c5 ≤ 8 ∧ 0 ≤ y.c6 ∧ y.c6 ≤ 64
def slots (y : Ly) : Int := y.c3 * y.c4 + y.c5
theorem slots_le {y : Ly} (h : y.Ok) : 2 ≤ y.slots ∧ y.slots ≤ 40 := by
  obtain ⟨_, _, _, _, _, _, h1, h2, h3, h4, h5, h6, _⟩ := h
  unfold slots
  have a : y.c3 * y.c4 ≤ 4 * 8 := Int.mul_le_mul h2 h4 (by omega) (by omega)
  have b : 1 * 1 ≤ y.c3 * y.c4 := Int.mul_le_mul h1 h3 (by omega) (by omega)
  omega
def lv (y : Ly) : Int := 2 ^ y.c0.toNat
theorem lv_le {y : Ly} (h : y.Ok) : 1 ≤ y.lv ∧ y.lv ≤ 64 := by
  obtain ⟨h1, h2, _⟩ := h
  unfold lv
  obtain ⟨m, hm⟩ : ∃ m : Nat, y.c0 = m := ⟨y.c0.toNat, by omega⟩
  rw [hm, Int.toNat_natCast]
  rcases (by omega : m = 0 ∨ m = 1 ∨ m = 2 ∨ m = 3 ∨ m = 4 ∨ m = 5 ∨ m = 6) with rfl | rfl | rfl | rfl | rfl | rfl | rfl <;> decide
def whole (y : Ly) (n : Int) : Int := ((n - 1) / (y.c1 * 38) + 1) * (y.c1 * 38)
def vl (y : Ly) : Int := (2 * y.lv - 2) / 8 + 1
theorem vl_le {y : Ly} (h : y.Ok) : 1 ≤ y.vl ∧ y.vl ≤ 16 := by
  have h1 := Ly.lv_le h
  unfold Ly.vl
  omega
def deltaLen (y : Ly) : Int := 15 + 7 * y.slots + 12 * y.c5 + 38 * y.c6
def fullLen (y : Ly) : Int := 13 + 16 * y.c2 + y.vl + 38 * y.c6
end Ly
theorem deltaLen_le {y : Ly} (ok : y.Ok) : 15 ≤ y.deltaLen ∧ y.deltaLen ≤ 2823 := by
  have h1 := Ly.slots_le ok
  unfold Ly.deltaLen
  unfold Ly.Ok at ok
  omega
theorem fullLen_le {y : Ly} (ok : y.Ok) : 13 ≤ y.fullLen ∧ y.fullLen ≤ 3485 := by
  have h1 := Ly.vl_le ok
  unfold Ly.fullLen
  unfold Ly.Ok at ok
  omega
theorem wr64 {z : Int} (h0 : -9223372036854775808 ≤ z) (h1 : z ≤ 9223372036854775807) : wrap64 z = z := by unfold wrap64; omega
def amB (a b : Int) : Bool := decide (0 ≤ a ∧ a ≤ b)
theorem among_f (a b : Int) : ckpt_among.f a b = some (amB a b) := by
  unfold ckpt_among.f amB
  by_cases h : a ≥ 0
  · rw [if_pos h]; congr 1; exact decide_eq_decide.2 (by omega)
  · rw [if_neg h, decide_eq_false (by omega)]
theorem among_call (a b : Int) (r : Bool) (hr : amB a b = r) (w : World) : Calls Tryz.prog 68 #[.int .i64 a, .int .i64 b] w fun e w' => e = .returned (.bool r) ∧ Below w.heap.size w w' := by
  refine (ckpt_among.calls a b r w (by rw [among_f, hr])).mono ?_
  rintro e w' ⟨rfl, h⟩
  exact ⟨rfl, h.below⟩
def plB (y : Ly) (leaf tag : Int) : Bool := amB leaf (y.lv - 1) && amB tag 4294967294
theorem leaves_f {y : Ly} (h0 : 0 ≤ y.c0) (h6 : y.c0 ≤ 6) : tree_Leaves.f y.c0 = some y.lv := by
  unfold Ly.lv
  obtain ⟨m, hm⟩ : ∃ m : Nat, y.c0 = m := ⟨y.c0.toNat, by omega⟩
  rw [hm, Int.toNat_natCast]
  rcases (by omega : m = 0 ∨ m = 1 ∨ m = 2 ∨ m = 3 ∨ m = 4 ∨ m = 5 ∨ m = 6) with rfl | rfl | rfl | rfl | rfl | rfl | rfl <;> decide +kernel
theorem Buckets_f {y : Ly} (ok : y.Ok) : tree_Buckets.f y.c0 = some (2 * y.lv - 1) := by
  have h1 := Ly.lv_le ok
  unfold tree_Buckets.f
  rw [leaves_f ok.1 ok.2.1, Option.bind_some, wr64 (z := 2 * y.lv) (by omega) (by omega), wr64 (by omega) (by omega)]
  unfold mx
  split <;> first | rfl | (congr 1; omega)
theorem cells_f (n c : Int) (hn : 1 ≤ n) (hn2 : n ≤ 1048576) (hc : 1 ≤ c) (hc2 : c ≤ 1048576) : slab_Cells.f n c = some ((n - 1) / c + 1) := by
  unfold slab_Cells.f
  have h1 : (n - 1) / c ≤ n - 1 := Int.ediv_le_self _ (by omega)
  have h0 : 0 ≤ (n - 1) / c := Int.ediv_nonneg (by omega) (by omega)
  rw [if_neg (by omega), if_neg (by omega), if_neg (by omega), wr64 (z := n - 1) (by omega) (by omega), Int.tdiv_eq_ediv_of_nonneg (by omega), wr64 (z := (n - 1) / c) (by omega) (by omega), wr64 (by omega) (by omega)]
theorem vl_f {y : Ly} (ok : y.Ok) : slab_Cells.f (2 * y.lv - 1) 8 = some y.vl := by
  have h1 := Ly.lv_le ok
  rw [cells_f _ _ (by omega) (by omega) (by omega) (by omega)]
  unfold Ly.vl
  rw [show 2 * y.lv - 1 - 1 = 2 * y.lv - 2 by omega]
theorem whole_le {y : Ly} (ok : y.Ok) (n : Int) (hn : 1 ≤ n) (hn2 : n ≤ 100000) : n ≤ y.whole n ∧ y.whole n ≤ n + 152 := by
  obtain ⟨_, _, h1, h2, _⟩ := ok
  unfold Ly.whole
  obtain ⟨c, hc⟩ : ∃ c, y.c1 * 38 = c := ⟨_, rfl⟩
  rw [hc]
  have h3 := Int.mul_ediv_add_emod (n - 1) c
  have h4 := Int.emod_nonneg (n - 1) (show c ≠ 0 by omega)
  have h5 := Int.emod_lt_of_pos (n - 1) (show 0 < c by omega)
  have h6 : ((n - 1) / c + 1) * c = c * ((n - 1) / c) + c := by rw [Int.add_mul, Int.one_mul, Int.mul_comm]
  omega
set_option maxHeartbeats 4000000 in
set_option maxRecDepth 100000 in
theorem Payload_ly (y : Ly) (h1 : 1 ≤ y.c1) (h2 : y.c1 ≤ 4) (w : World) : Calls Tryz.prog 38 #[y.v] w fun e w' => e = .returned (.int .i64 (y.c1 * 38)) ∧ Below w.heap.size w w' := by
  have HL := Lib.hid (show bucket_Length.f y.c1 = some (y.c1 * 38) by
    have h3 : wrap64 (y.c1 * 38) = y.c1 * 38 := by unfold wrap64; omega
    simp [bucket_Length.f, bucket_may.f, h1, h2, h3])
  go_enter Tryz.func38, Tryz.ntmps38
  go_wp2_with (first | ((with_reducible refine gate_dst (N := 1) rfl ?_); refine box_event ?hg (N := 1) ?hd (cs := #[.int .i64 y.c0, .int .i64 y.c1, .int .i64 y.c2, .int .i64 y.c3, .int .i64 y.c4, .int .i64 y.c5, .int .i64 y.c6, .int .i64 y.c7, .int .i64 y.c8, .int .i64 y.c9, .slice y.A y.l.length y.cap]) (t := 46) ?hr ?_; (case hd => rfl); (case hg => rfl); (case hr => first | (go_simp; done) | (go_simp; rfl)); intro gl hg_ w1 hbox_ hb_; have HX1 := Lib.hid (Sr.box (Sr.nil w) hg_ hbox_ hb_); have q1 := HX1.out.cell mh 1 rfl; clear hbox_ hb_ hg_) | fail)
  with_reducible refine (bucket_Length.calls _ _ _ HL.out).mono ?_
  rintro e w' ⟨rfl, hb⟩
  replace hb := hb.below
  go_wp2_with fail
  go_ret
  exact ⟨rfl, below_step HX1.out.bel hb⟩
set_option maxHeartbeats 4000000 in
set_option maxRecDepth 100000 in
theorem LogLen_ly (y : Ly) (w : World) : Calls Tryz.prog 72 #[y.v] w fun e w' => e = .returned (.int .i64 12) ∧ Below w.heap.size w w' := by
  go_enter Tryz.func72, Tryz.ntmps72
  go_wp2_with (first | ((with_reducible refine gate_dst (N := 1) rfl ?_); refine box_event ?hg (N := 1) ?hd (cs := #[.int .i64 y.c0, .int .i64 y.c1, .int .i64 y.c2, .int .i64 y.c3, .int .i64 y.c4, .int .i64 y.c5, .int .i64 y.c6, .int .i64 y.c7, .int .i64 y.c8, .int .i64 y.c9, .slice y.A y.l.length y.cap]) (t := 46) ?hr ?_; (case hd => rfl); (case hg => rfl); (case hr => first | (go_simp; done) | (go_simp; rfl)); intro gl hg_ w1 hbox_ hb_; have HX1 := Lib.hid (Sr.box (Sr.nil w) hg_ hbox_ hb_); clear hbox_ hb_ hg_) | fail)
  go_ret
  exact ⟨rfl, HX1.out.bel⟩
set_option maxHeartbeats 4000000 in
set_option maxRecDepth 100000 in
theorem Slots_ly (y : Ly) (ok : y.Ok) (w : World) : Calls Tryz.prog 62 #[y.v] w fun e w' => e = .returned (.int .i64 y.slots) ∧ Below w.heap.size w w' := by
  have hs := Ly.slots_le ok
  have h2 : y.slots = y.c3 * y.c4 + y.c5 := rfl
  unfold Ly.Ok at ok
  have e1 : wrap64 (y.c3 * y.c4) = y.c3 * y.c4 := wr64 (by omega) (by omega)
  have e2 : wrap64 (y.c3 * y.c4 + y.c5) = y.slots := wr64 (by omega) (by omega)
  have HE := Lib.hid (And.intro e1 e2)
  clear hs ok e1 e2
  go_enter Tryz.func62, Tryz.ntmps62
  go_wp2_with (first | ((with_reducible refine gate_dst (N := 1) rfl ?_); refine box_event ?hg (N := 1) ?hd (cs := #[.int .i64 y.c0, .int .i64 y.c1, .int .i64 y.c2, .int .i64 y.c3, .int .i64 y.c4, .int .i64 y.c5, .int .i64 y.c6, .int .i64 y.c7, .int .i64 y.c8, .int .i64 y.c9, .slice y.A y.l.length y.cap]) (t := 46) ?hr ?_; (case hd => rfl); (case hg => rfl); (case hr => first | (go_simp; done) | (go_simp; rfl)); intro gl hg_ w1 hbox_ hb_; have HX1 := Lib.hid (Sr.box (Sr.nil w) hg_ hbox_ hb_); have q3 := HX1.out.cell mh 3 rfl; have q4 := HX1.out.cell mh 4 rfl; have q5 := HX1.out.cell mh 5 rfl; clear hbox_ hb_ hg_) | fail)
  go_ret
  exact ⟨show Ending.returned (.int .i64 (wrap64 (wrap64 (y.c3 * y.c4) + y.c5))) = .returned (.int .i64 y.slots) from by rw [HE.out.1, HE.out.2], HX1.out.bel⟩
set_option maxHeartbeats 4000000 in
set_option maxRecDepth 100000 in
theorem stash_ly (y : Ly) (ok : y.Ok) (w : World) : Calls Tryz.prog 137 #[y.v] w fun e w' => e = .returned (.int .i64 (1 + y.c6 * 38)) ∧ Below w.heap.size w w' := by
  unfold Ly.Ok at ok
  have e1 : wrap64 (y.c6 * 38) = y.c6 * 38 := wr64 (by omega) (by omega)
  have e2 : wrap64 (1 + y.c6 * 38) = 1 + y.c6 * 38 := wr64 (by omega) (by omega)
  have HE := Lib.hid (And.intro e1 e2)
  clear ok e1 e2
  go_enter Tryz.func137, Tryz.ntmps137
  go_wp2_with (first | ((with_reducible refine gate_dst (N := 1) rfl ?_); refine box_event ?hg (N := 1) ?hd (cs := #[.int .i64 y.c0, .int .i64 y.c1, .int .i64 y.c2, .int .i64 y.c3, .int .i64 y.c4, .int .i64 y.c5, .int .i64 y.c6, .int .i64 y.c7, .int .i64 y.c8, .int .i64 y.c9, .slice y.A y.l.length y.cap]) (t := 46) ?hr ?_; (case hd => rfl); (case hg => rfl); (case hr => first | (go_simp; done) | (go_simp; rfl)); intro gl hg_ w1 hbox_ hb_; have HX1 := Lib.hid (Sr.box (Sr.nil w) hg_ hbox_ hb_); have q6 := HX1.out.cell mh 6 rfl; clear hbox_ hb_ hg_) | fail)
  go_ret
  exact ⟨show Ending.returned (.int .i64 (wrap64 (1 + wrap64 (y.c6 * 38)))) = .returned (.int .i64 (1 + y.c6 * 38)) from by rw [HE.out.1, HE.out.2], HX1.out.bel⟩
theorem delta_sum {y : Ly} (ok : y.Ok) : wrap64 (wrap64 (wrap64 (wrap64 (wrap64 (wrap64 (12 + y.slots) + 1) + wrap64 (6 * y.slots)) + 1) + wrap64 (12 * y.c5)) + (1 + y.c6 * 38)) = y.deltaLen := by
  have h1 := Ly.slots_le ok
  unfold Ly.Ok at ok
  rw [wr64 (z := 12 + y.slots) (by omega) (by omega), wr64 (z := 12 + y.slots + 1) (by omega) (by omega), wr64 (z := 6 * y.slots) (by omega) (by omega), wr64 (z := 12 + y.slots + 1 + 6 * y.slots) (by omega) (by omega), wr64 (z := 12 + y.slots + 1 + 6 * y.slots + 1) (by omega) (by omega), wr64 (z := 12 * y.c5) (by omega) (by omega), wr64 (z := 12 + y.slots + 1 + 6 * y.slots + 1 + 12 * y.c5) (by omega) (by omega), wr64 (by omega) (by omega)]
  unfold Ly.deltaLen
  omega
theorem full_sum {y : Ly} (ok : y.Ok) : wrap64 (wrap64 (wrap64 (wrap64 (wrap64 (11 + wrap64 (5 * y.c2)) + 1) + wrap64 (11 * y.c2)) + y.vl) + (1 + y.c6 * 38)) = y.fullLen := by
  have h1 := Ly.vl_le ok
  unfold Ly.Ok at ok
  rw [wr64 (z := 5 * y.c2) (by omega) (by omega), wr64 (z := 11 + 5 * y.c2) (by omega) (by omega), wr64 (z := 11 + 5 * y.c2 + 1) (by omega) (by omega), wr64 (z := 11 * y.c2) (by omega) (by omega), wr64 (z := 11 + 5 * y.c2 + 1 + 11 * y.c2) (by omega) (by omega), wr64 (z := 11 + 5 * y.c2 + 1 + 11 * y.c2 + y.vl) (by omega) (by omega), wr64 (by omega) (by omega)]
  unfold Ly.fullLen
  omega
set_option maxHeartbeats 4000000 in
set_option maxRecDepth 100000 in
theorem DeltaLen_ly (y : Ly) (ok : y.Ok) (w : World) : Calls Tryz.prog 63 #[y.v] w fun e w' => e = .returned (.int .i64 y.deltaLen) ∧ Below w.heap.size w w' := by
  have HE := Lib.hid (delta_sum ok)
  go_enter Tryz.func63, Tryz.ntmps63
  go_wp2_with (first | ((with_reducible refine gate_dst (N := 1) rfl ?_); refine box_event ?hg (N := 1) ?hd (cs := #[.int .i64 y.c0, .int .i64 y.c1, .int .i64 y.c2, .int .i64 y.c3, .int .i64 y.c4, .int .i64 y.c5, .int .i64 y.c6, .int .i64 y.c7, .int .i64 y.c8, .int .i64 y.c9, .slice y.A y.l.length y.cap]) (t := 46) ?hr ?_; (case hd => rfl); (case hg => rfl); (case hr => first | (go_simp; done) | (go_simp; rfl)); intro gl hg_ w1 hbox_ hb_; have HX1 := Lib.hid (Sr.box (Sr.nil w) hg_ hbox_ hb_); have q0 := HX1.out.cell mh 0 rfl; have q1 := HX1.out.cell mh 1 rfl; have q2 := HX1.out.cell mh 2 rfl; have q3 := HX1.out.cell mh 3 rfl; have q4 := HX1.out.cell mh 4 rfl; have q5 := HX1.out.cell mh 5 rfl; have q6 := HX1.out.cell mh 6 rfl; have q7 := HX1.out.cell mh 7 rfl; have q8 := HX1.out.cell mh 8 rfl; have q9 := HX1.out.cell mh 9 rfl; have q10 := HX1.out.cell mh 10 rfl; clear hbox_ hb_ hg_) | fail)
  with_reducible refine (Slots_ly y ok _).mono ?_
  rintro e w3 ⟨rfl, hb⟩
  have HX3 := Lib.hid (HX1.out.below hb)
  clear hb q0 q1 q2 q3 q4 q5 q6 q7 q8 q9 q10
  go_upto_region 2 with fail
  have HS : ∀ w', Sr w [(gl, Obj.cells #[.int .i64 y.c0, .int .i64 y.c1, .int .i64 y.c2, .int .i64 y.c3, .int .i64 y.c4, .int .i64 y.c5, .int .i64 y.c6, .int .i64 y.c7, .int .i64 y.c8, .int .i64 y.c9, .slice y.A y.l.length y.cap] 46)] w' → w'.cell? ⟨gl, 0, none⟩ = some (.int .i64 y.c0) ∧ w'.cell? ⟨gl, 1, none⟩ = some (.int .i64 y.c1) ∧ w'.cell? ⟨gl, 2, none⟩ = some (.int .i64 y.c2) ∧ w'.cell? ⟨gl, 3, none⟩ = some (.int .i64 y.c3) ∧ w'.cell? ⟨gl, 4, none⟩ = some (.int .i64 y.c4) ∧ w'.cell? ⟨gl, 5, none⟩ = some (.int .i64 y.c5) ∧ w'.cell? ⟨gl, 6, none⟩ = some (.int .i64 y.c6) ∧ w'.cell? ⟨gl, 7, none⟩ = some (.int .i64 y.c7) ∧ w'.cell? ⟨gl, 8, none⟩ = some (.int .i64 y.c8) ∧ w'.cell? ⟨gl, 9, none⟩ = some (.int .i64 y.c9) ∧ w'.cell? ⟨gl, 10, none⟩ = some (.slice y.A y.l.length y.cap) := fun w' h => ⟨h.cell mh 0 rfl, h.cell mh 1 rfl, h.cell mh 2 rfl, h.cell mh 3 rfl, h.cell mh 4 rfl, h.cell mh 5 rfl, h.cell mh 6 rfl, h.cell mh 7 rfl, h.cell mh 8 rfl, h.cell mh 9 rfl, h.cell mh 10 rfl⟩
  refine stq 16 0 (fun w' => w'.cell? ⟨gl, 0, none⟩ = some (.int .i64 y.c0) ∧ w'.cell? ⟨gl, 1, none⟩ = some (.int .i64 y.c1) ∧ w'.cell? ⟨gl, 2, none⟩ = some (.int .i64 y.c2) ∧ w'.cell? ⟨gl, 3, none⟩ = some (.int .i64 y.c3) ∧ w'.cell? ⟨gl, 4, none⟩ = some (.int .i64 y.c4) ∧ w'.cell? ⟨gl, 5, none⟩ = some (.int .i64 y.c5) ∧ w'.cell? ⟨gl, 6, none⟩ = some (.int .i64 y.c6) ∧ w'.cell? ⟨gl, 7, none⟩ = some (.int .i64 y.c7) ∧ w'.cell? ⟨gl, 8, none⟩ = some (.int .i64 y.c8) ∧ w'.cell? ⟨gl, 9, none⟩ = some (.int .i64 y.c9) ∧ w'.cell? ⟨gl, 10, none⟩ = some (.slice y.A y.l.length y.cap)) (HS _ (HX3.out.below (drewB _))) (fun hHeld => ?_)
  refine pq 0 6 16 1 ?_
  refine pq 1 7 16 3 ?_
  refine pq 2 8 16 7 ?_
  refine pq 3 9 16 15 ?_
  refine pq 4 10 16 31 ?_
  refine pq 5 11 16 63 ?_
  refine pq 6 12 16 127 ?_
  refine pq 7 13 16 255 ?_
  refine pq 8 14 16 511 ?_
  refine tq 9 15 16 1023 hHeld ?_
  refine pq 10 16 16 2047 ?_
  refine pq 11 17 16 4095 ?_
  refine tq 12 18 16 8191 hHeld ?_
  refine oq 13 19 16 16383 (fun K hK => ?_)
  refine gq Tryz.func137 #[y.v] ?_
  with_reducible refine ((stash_ly y ok _)).mono ?_
  rintro e wb ⟨rfl, hb_⟩
  refine ⟨_, rfl, ?_⟩
  have HX4 := Lib.hid ((HX3.out.below (drewB _)).below hb_)
  clear hb_
  refine hK.out _ _ (HS _ HX4.out) (fun hHeld => ?_)
  clear hK K
  refine nx 19 ?_
  refine pq 14 20 16 32767 ?_
  refine pq 15 2 16 65535 ?_
  refine done_ (by kernel_rfl) ?_
  go_wp2_with fail
  go_ret
  exact ⟨show Ending.returned (.int .i64 (wrap64 (wrap64 (wrap64 (wrap64 (wrap64 (wrap64 (12 + y.slots) + 1) + wrap64 (6 * y.slots)) + 1) + wrap64 (12 * y.c5)) + (1 + y.c6 * 38)))) = .returned (.int .i64 y.deltaLen) from by rw [HE.out], HX4.out.bel⟩
set_option maxHeartbeats 4000000 in
set_option maxRecDepth 100000 in
theorem FullLen_ly (y : Ly) (ok : y.Ok) (w : World) : Calls Tryz.prog 51 #[y.v] w fun e w' => e = .returned (.int .i64 y.fullLen) ∧ Below w.heap.size w w' := by
  have HE := Lib.hid (full_sum ok)
  go_enter Tryz.func51, Tryz.ntmps51
  go_upto_region 1 with (first | ((with_reducible refine gate_dst (N := 1) rfl ?_); refine box_event ?hg (N := 1) ?hd (cs := #[.int .i64 y.c0, .int .i64 y.c1, .int .i64 y.c2, .int .i64 y.c3, .int .i64 y.c4, .int .i64 y.c5, .int .i64 y.c6, .int .i64 y.c7, .int .i64 y.c8, .int .i64 y.c9, .slice y.A y.l.length y.cap]) (t := 46) ?hr ?_; (case hd => rfl); (case hg => rfl); (case hr => first | (go_simp; done) | (go_simp; rfl)); intro gl hg_ w1 hbox_ hb_; have HX1 := Lib.hid (Sr.box (Sr.nil w) hg_ hbox_ hb_); clear hbox_ hb_ hg_) | fail)
  have HS : ∀ w', Sr w [(gl, Obj.cells #[.int .i64 y.c0, .int .i64 y.c1, .int .i64 y.c2, .int .i64 y.c3, .int .i64 y.c4, .int .i64 y.c5, .int .i64 y.c6, .int .i64 y.c7, .int .i64 y.c8, .int .i64 y.c9, .slice y.A y.l.length y.cap] 46)] w' → w'.cell? ⟨gl, 0, none⟩ = some (.int .i64 y.c0) ∧ w'.cell? ⟨gl, 1, none⟩ = some (.int .i64 y.c1) ∧ w'.cell? ⟨gl, 2, none⟩ = some (.int .i64 y.c2) ∧ w'.cell? ⟨gl, 3, none⟩ = some (.int .i64 y.c3) ∧ w'.cell? ⟨gl, 4, none⟩ = some (.int .i64 y.c4) ∧ w'.cell? ⟨gl, 5, none⟩ = some (.int .i64 y.c5) ∧ w'.cell? ⟨gl, 6, none⟩ = some (.int .i64 y.c6) ∧ w'.cell? ⟨gl, 7, none⟩ = some (.int .i64 y.c7) ∧ w'.cell? ⟨gl, 8, none⟩ = some (.int .i64 y.c8) ∧ w'.cell? ⟨gl, 9, none⟩ = some (.int .i64 y.c9) ∧ w'.cell? ⟨gl, 10, none⟩ = some (.slice y.A y.l.length y.cap) := fun w' h => ⟨h.cell mh 0 rfl, h.cell mh 1 rfl, h.cell mh 2 rfl, h.cell mh 3 rfl, h.cell mh 4 rfl, h.cell mh 5 rfl, h.cell mh 6 rfl, h.cell mh 7 rfl, h.cell mh 8 rfl, h.cell mh 9 rfl, h.cell mh 10 rfl⟩
  refine stq 21 0 (fun w' => w'.cell? ⟨gl, 0, none⟩ = some (.int .i64 y.c0) ∧ w'.cell? ⟨gl, 1, none⟩ = some (.int .i64 y.c1) ∧ w'.cell? ⟨gl, 2, none⟩ = some (.int .i64 y.c2) ∧ w'.cell? ⟨gl, 3, none⟩ = some (.int .i64 y.c3) ∧ w'.cell? ⟨gl, 4, none⟩ = some (.int .i64 y.c4) ∧ w'.cell? ⟨gl, 5, none⟩ = some (.int .i64 y.c5) ∧ w'.cell? ⟨gl, 6, none⟩ = some (.int .i64 y.c6) ∧ w'.cell? ⟨gl, 7, none⟩ = some (.int .i64 y.c7) ∧ w'.cell? ⟨gl, 8, none⟩ = some (.int .i64 y.c8) ∧ w'.cell? ⟨gl, 9, none⟩ = some (.int .i64 y.c9) ∧ w'.cell? ⟨gl, 10, none⟩ = some (.slice y.A y.l.length y.cap)) (HS _ (HX1.out.below (drewB _))) (fun hHeld => ?_)
  refine pq 0 3 21 1 ?_
  refine pq 1 4 21 3 ?_
  refine pq 6 9 21 67 ?_
  refine pq 7 10 21 195 ?_
  refine pq 11 14 21 2243 ?_
  refine pq 12 15 21 6339 ?_
  refine tq 2 5 21 6343 hHeld ?_
  refine pq 3 6 21 6351 ?_
  refine pq 4 7 21 6367 ?_
  refine pq 5 8 21 6399 ?_
  refine tq 8 11 21 6655 hHeld ?_
  refine pq 9 12 21 7167 ?_
  refine pq 10 13 21 8191 ?_
  refine tq 13 16 21 16383 hHeld ?_
  refine tq 17 20 21 147455 hHeld ?_
  refine oq 14 17 21 163839 (fun K hK => ?_)
  refine gq Tryz.func100 #[.int .i64 y.c0] ?_
  with_reducible refine ((tree_Buckets.calls _ _ _ (Buckets_f ok))).mono ?_
  rintro e wa ⟨rfl, hb_⟩
  refine ⟨_, rfl, ?_⟩
  have HX2 := Lib.hid ((HX1.out.below (drewB _)).below hb_)
  clear hb_
  refine hK.out _ _ (HS _ HX2.out) (fun hHeld => ?_)
  clear hK K
  refine nx 17 ?_
  refine oq 15 18 21 196607 (fun K hK => ?_)
  refine gq Tryz.func99 #[.int .i64 (2 * y.lv - 1), .int .i64 8] ?_
  with_reducible refine ((slab_Cells.calls _ _ y.vl _ (vl_f ok))).mono ?_
  rintro e wb ⟨rfl, hb_⟩
  refine ⟨_, rfl, ?_⟩
  replace hb_ := hb_.below
  have HX3 := Lib.hid (HX2.out.below hb_)
  clear hb_
  refine hK.out _ _ (HS _ HX3.out) (fun hHeld => ?_)
  clear hK K
  refine nx 18 ?_
  refine pq 16 19 21 262143 ?_
  refine oq 18 21 21 524287 (fun K hK => ?_)
  refine gq Tryz.func137 #[y.v] ?_
  with_reducible refine ((stash_ly y ok _)).mono ?_
  rintro e wc ⟨rfl, hb_⟩
  refine ⟨_, rfl, ?_⟩
  have HX4 := Lib.hid (HX3.out.below hb_)
  clear hb_
  refine hK.out _ _ (HS _ HX4.out) (fun hHeld => ?_)
  clear hK K
  refine nx 21 ?_
  refine pq 19 22 21 1048575 ?_
  refine pq 20 2 21 2097151 ?_
  refine done_ (by kernel_rfl) ?_
  go_wp2_with fail
  go_ret
  exact ⟨show Ending.returned (.int .i64 (wrap64 (wrap64 (wrap64 (wrap64 (wrap64 (11 + wrap64 (5 * y.c2)) + 1) + wrap64 (11 * y.c2)) + y.vl) + (1 + y.c6 * 38)))) = .returned (.int .i64 y.fullLen) from by rw [HE.out], HX4.out.bel⟩
set_option maxHeartbeats 4000000 in
set_option maxRecDepth 100000 in
theorem whole_ly (y : Ly) (ok : y.Ok) (n : Int) (hn : 1 ≤ n) (hn2 : n ≤ 100000) (w : World) : Calls Tryz.prog 71 #[y.v, .int .i64 n] w fun e w' => e = .returned (.int .i64 (y.whole n)) ∧ Below w.heap.size w w' := by
  have hw := whole_le ok n hn hn2
  have HK := Lib.hid (show 1 ≤ y.c1 ∧ y.c1 ≤ 4 from ⟨ok.2.2.1, ok.2.2.2.1⟩)
  obtain ⟨m, hm⟩ : ∃ m, (n - 1) / (y.c1 * 38) + 1 = m := ⟨_, rfl⟩
  have HC := Lib.hid (show slab_Cells.f n (y.c1 * 38) = some m by
    have h1 := HK.out.1
    have h2 := HK.out.2
    rw [cells_f n _ hn (by omega) (by omega) (by omega), hm])
  have HE := Lib.hid (show wrap64 (m * (y.c1 * 38)) = y.whole n by
    unfold Ly.whole at hw ⊢
    rw [hm] at hw ⊢
    exact wr64 (by omega) (by omega))
  clear hw hm ok hn hn2
  go_enter Tryz.func71, Tryz.ntmps71
  go_upto_region 1 with (first | ((with_reducible refine gate_dst (N := 2) rfl ?_); refine box_event ?hg (N := 2) ?hd (cs := #[.int .i64 y.c0, .int .i64 y.c1, .int .i64 y.c2, .int .i64 y.c3, .int .i64 y.c4, .int .i64 y.c5, .int .i64 y.c6, .int .i64 y.c7, .int .i64 y.c8, .int .i64 y.c9, .slice y.A y.l.length y.cap]) (t := 46) ?hr ?_; (case hd => rfl); (case hg => rfl); (case hr => first | (go_simp; done) | (go_simp; rfl)); intro gl hg_ w1 hbox_ hb_; have HX1 := Lib.hid (Sr.box (Sr.nil w) hg_ hbox_ hb_); clear hbox_ hb_ hg_) | fail)
  have HS : ∀ w', Sr w [(gl, Obj.cells #[.int .i64 y.c0, .int .i64 y.c1, .int .i64 y.c2, .int .i64 y.c3, .int .i64 y.c4, .int .i64 y.c5, .int .i64 y.c6, .int .i64 y.c7, .int .i64 y.c8, .int .i64 y.c9, .slice y.A y.l.length y.cap] 46)] w' → w'.cell? ⟨gl, 0, none⟩ = some (.int .i64 y.c0) ∧ w'.cell? ⟨gl, 1, none⟩ = some (.int .i64 y.c1) ∧ w'.cell? ⟨gl, 2, none⟩ = some (.int .i64 y.c2) ∧ w'.cell? ⟨gl, 3, none⟩ = some (.int .i64 y.c3) ∧ w'.cell? ⟨gl, 4, none⟩ = some (.int .i64 y.c4) ∧ w'.cell? ⟨gl, 5, none⟩ = some (.int .i64 y.c5) ∧ w'.cell? ⟨gl, 6, none⟩ = some (.int .i64 y.c6) ∧ w'.cell? ⟨gl, 7, none⟩ = some (.int .i64 y.c7) ∧ w'.cell? ⟨gl, 8, none⟩ = some (.int .i64 y.c8) ∧ w'.cell? ⟨gl, 9, none⟩ = some (.int .i64 y.c9) ∧ w'.cell? ⟨gl, 10, none⟩ = some (.slice y.A y.l.length y.cap) := fun w' h => ⟨h.cell mh 0 rfl, h.cell mh 1 rfl, h.cell mh 2 rfl, h.cell mh 3 rfl, h.cell mh 4 rfl, h.cell mh 5 rfl, h.cell mh 6 rfl, h.cell mh 7 rfl, h.cell mh 8 rfl, h.cell mh 9 rfl, h.cell mh 10 rfl⟩
  refine stq 8 0 (fun w' => w'.cell? ⟨gl, 0, none⟩ = some (.int .i64 y.c0) ∧ w'.cell? ⟨gl, 1, none⟩ = some (.int .i64 y.c1) ∧ w'.cell? ⟨gl, 2, none⟩ = some (.int .i64 y.c2) ∧ w'.cell? ⟨gl, 3, none⟩ = some (.int .i64 y.c3) ∧ w'.cell? ⟨gl, 4, none⟩ = some (.int .i64 y.c4) ∧ w'.cell? ⟨gl, 5, none⟩ = some (.int .i64 y.c5) ∧ w'.cell? ⟨gl, 6, none⟩ = some (.int .i64 y.c6) ∧ w'.cell? ⟨gl, 7, none⟩ = some (.int .i64 y.c7) ∧ w'.cell? ⟨gl, 8, none⟩ = some (.int .i64 y.c8) ∧ w'.cell? ⟨gl, 9, none⟩ = some (.int .i64 y.c9) ∧ w'.cell? ⟨gl, 10, none⟩ = some (.slice y.A y.l.length y.cap)) (HS _ (HX1.out.below (drewB _))) (fun hHeld => ?_)
  refine pq 0 5 8 1 ?_
  refine tq 1 6 8 3 hHeld ?_
  refine tq 4 9 8 19 hHeld ?_
  refine oq 2 7 8 23 (fun K hK => ?_)
  refine gq Tryz.func38 #[y.v] ?_
  with_reducible refine ((Payload_ly y HK.out.1 HK.out.2 _)).mono ?_
  rintro e wa ⟨rfl, hb_⟩
  refine ⟨_, rfl, ?_⟩
  have HX2 := Lib.hid ((HX1.out.below (drewB _)).below hb_)
  clear hb_
  refine hK.out _ _ (HS _ HX2.out) (fun hHeld => ?_)
  clear hK K
  refine nx 7 ?_
  refine oq 3 8 8 31 (fun K hK => ?_)
  refine gq Tryz.func99 #[.int .i64 n, .int .i64 (y.c1 * 38)] ?_
  with_reducible refine ((slab_Cells.calls _ _ m _ HC.out)).mono ?_
  rintro e wb ⟨rfl, hb_⟩
  refine ⟨_, rfl, ?_⟩
  replace hb_ := hb_.below
  have HX3 := Lib.hid (HX2.out.below hb_)
  clear hb_
  refine hK.out _ _ (HS _ HX3.out) (fun hHeld => ?_)
  clear hK K
  refine nx 8 ?_
  refine oq 5 10 8 63 (fun K hK => ?_)
  refine gq Tryz.func38 #[y.v] ?_
  with_reducible refine ((Payload_ly y HK.out.1 HK.out.2 _)).mono ?_
  rintro e wc ⟨rfl, hb_⟩
  refine ⟨_, rfl, ?_⟩
  have HX4 := Lib.hid (HX3.out.below hb_)
  clear hb_
  refine hK.out _ _ (HS _ HX4.out) (fun hHeld => ?_)
  clear hK K
  refine nx 10 ?_
  refine pq 6 11 8 127 ?_
  refine pq 7 4 8 255 ?_
  refine done_ (by kernel_rfl) ?_
  go_wp2_with fail
  go_ret
  exact ⟨show Ending.returned (.int .i64 (wrap64 (m * (y.c1 * 38)))) = .returned (.int .i64 (y.whole n)) from by rw [HE.out], HX4.out.bel⟩
set_option maxHeartbeats 4000000 in
set_option maxRecDepth 100000 in
theorem place_ly (y : Ly) (ok : y.Ok) (leaf tag : Int) (w : World) : Calls Tryz.prog 69 #[y.v, .agg #[.int .i64 leaf, .int .i64 tag]] w fun e w' => e = .returned (.bool (plB y leaf tag)) ∧ Below w.heap.size w w' := by
  have HL := Lib.hid (leaves_f ok.1 ok.2.1)
  have hv := Ly.lv_le ok
  obtain ⟨b1, hb1⟩ : ∃ b, amB leaf (y.lv - 1) = b := ⟨_, rfl⟩
  obtain ⟨b2, hb2⟩ : ∃ b, amB tag 4294967294 = b := ⟨_, rfl⟩
  have H1 := Lib.hid (show amB leaf (wrap64 (y.lv - 1)) = b1 by rw [wr64 (by omega) (by omega)]; exact hb1)
  have H2 := Lib.hid hb2
  have HE := Lib.hid (show plB y leaf tag = (b1 && b2) by unfold plB; rw [hb1, hb2])
  rw [HE.out]
  clear hv hb1 hb2 ok HE
  go_enter Tryz.func69, Tryz.ntmps69
  go_upto_region 1 with (first | ((with_reducible refine gate_dst (N := 2) rfl ?_); refine box_event ?hg (N := 2) ?hd (cs := #[.int .i64 y.c0, .int .i64 y.c1, .int .i64 y.c2, .int .i64 y.c3, .int .i64 y.c4, .int .i64 y.c5, .int .i64 y.c6, .int .i64 y.c7, .int .i64 y.c8, .int .i64 y.c9, .slice y.A y.l.length y.cap]) (t := 46) ?hr ?_; (case hd => rfl); (case hg => rfl); (case hr => first | (go_simp; done) | (go_simp; rfl)); intro gl hg_ w1 hbox_ hb_; have HX1 := Lib.hid (Sr.box (Sr.nil w) hg_ hbox_ hb_); clear hbox_ hb_ hg_) | ((with_reducible refine gate_dst (N := 3) rfl ?_); refine box_event ?hg (N := 3) ?hd (cs := #[.int .i64 leaf, .int .i64 tag]) (t := 39) ?hr ?_; (case hd => rfl); (case hg => rfl); (case hr => first | (go_simp; done) | (go_simp; rfl)); intro gp hg_ w2 hbox_ hb_; have HX2 := Lib.hid (Sr.box HX1.out hg_ hbox_ hb_); clear hbox_ hb_ hg_) | fail)
  have HS : ∀ w', Sr w [(gp, Obj.cells #[.int .i64 leaf, .int .i64 tag] 39), (gl, Obj.cells #[.int .i64 y.c0, .int .i64 y.c1, .int .i64 y.c2, .int .i64 y.c3, .int .i64 y.c4, .int .i64 y.c5, .int .i64 y.c6, .int .i64 y.c7, .int .i64 y.c8, .int .i64 y.c9, .slice y.A y.l.length y.cap] 46)] w' → w'.cell? ⟨gp, 0, none⟩ = some (.int .i64 leaf) ∧ w'.cell? ⟨gp, 1, none⟩ = some (.int .i64 tag) ∧ w'.cell? ⟨gl, 0, none⟩ = some (.int .i64 y.c0) := fun w' h => ⟨h.cell mh 0 rfl, h.cell mh 1 rfl, h.cell (mt mh) 0 rfl⟩
  cases b1 with
  | true =>
    refine stq 14 0 (fun w' => w'.cell? ⟨gp, 0, none⟩ = some (.int .i64 leaf) ∧ w'.cell? ⟨gp, 1, none⟩ = some (.int .i64 tag) ∧ w'.cell? ⟨gl, 0, none⟩ = some (.int .i64 y.c0)) (HS _ (HX2.out.below (drewB _))) (fun hHeld => ?_)
    refine pq 0 5 14 1 ?_
    refine pq 2 7 14 5 ?_
    refine pq 3 8 14 13 ?_
    refine tq 1 6 14 15 hHeld ?_
    refine tq 4 9 14 31 hHeld ?_
    refine oq 5 10 14 63 (fun K hK => ?_)
    refine gq Tryz.func145 #[.int .i64 y.c0] ?_
    with_reducible refine ((tree_Leaves.calls _ _ _ HL.out)).mono ?_
    rintro e wa ⟨rfl, hb_⟩
    refine ⟨_, rfl, ?_⟩
    replace hb_ := hb_.below
    have HX3 := Lib.hid ((HX2.out.below (drewB _)).below hb_)
    clear hb_
    refine hK.out _ _ (HS _ HX3.out) (fun hHeld => ?_)
    clear hK K
    refine nx 10 ?_
    refine pq 6 11 14 127 ?_
    refine oq 7 12 14 255 (fun K hK => ?_)
    refine gq Tryz.func68 #[.int .i64 leaf, .int .i64 (wrap64 (y.lv - 1))] ?_
    with_reducible refine ((among_call _ _ _ H1.out _)).mono ?_
    rintro e wb ⟨rfl, hb_⟩
    refine ⟨_, rfl, ?_⟩
    have HX4 := Lib.hid (HX3.out.below hb_)
    clear hb_
    refine hK.out _ _ (HS _ HX4.out) (fun hHeld => ?_)
    clear hK K
    refine nx 12 ?_
    refine pq 8 13 14 511 ?_
    refine pq 9 14 14 1023 ?_
    refine tq 10 15 14 2047 hHeld ?_
    refine oq 11 16 14 4095 (fun K hK => ?_)
    refine gq Tryz.func68 #[.int .i64 tag, .int .i64 4294967294] ?_
    with_reducible refine ((among_call _ _ _ H2.out _)).mono ?_
    rintro e wc ⟨rfl, hb_⟩
    refine ⟨_, rfl, ?_⟩
    have HX5 := Lib.hid (HX4.out.below hb_)
    clear hb_
    refine hK.out _ _ (HS _ HX5.out) (fun hHeld => ?_)
    clear hK K
    refine nx 16 ?_
    refine pq 12 17 14 8191 ?_
    refine pq 13 4 14 16383 ?_
    refine done_ (by kernel_rfl) ?_
    go_wp2_with fail
    go_ret
    exact ⟨rfl, HX5.out.bel⟩
  | false =>
    refine stq 14 0 (fun w' => w'.cell? ⟨gp, 0, none⟩ = some (.int .i64 leaf) ∧ w'.cell? ⟨gp, 1, none⟩ = some (.int .i64 tag) ∧ w'.cell? ⟨gl, 0, none⟩ = some (.int .i64 y.c0)) (HS _ (HX2.out.below (drewB _))) (fun hHeld => ?_)
    refine pq 0 5 14 1 ?_
    refine pq 2 7 14 5 ?_
    refine pq 3 8 14 13 ?_
    refine tq 1 6 14 15 hHeld ?_
    refine tq 4 9 14 31 hHeld ?_
    refine oq 5 10 14 63 (fun K hK => ?_)
    refine gq Tryz.func145 #[.int .i64 y.c0] ?_
    with_reducible refine ((tree_Leaves.calls _ _ _ HL.out)).mono ?_
    rintro e wa ⟨rfl, hb_⟩
    refine ⟨_, rfl, ?_⟩
    replace hb_ := hb_.below
    have HX3 := Lib.hid ((HX2.out.below (drewB _)).below hb_)
    clear hb_
    refine hK.out _ _ (HS _ HX3.out) (fun hHeld => ?_)
    clear hK K
    refine nx 10 ?_
    refine pq 6 11 14 127 ?_
    refine oq 7 12 14 255 (fun K hK => ?_)
    refine gq Tryz.func68 #[.int .i64 leaf, .int .i64 (wrap64 (y.lv - 1))] ?_
    with_reducible refine ((among_call _ _ _ H1.out _)).mono ?_
    rintro e wb ⟨rfl, hb_⟩
    refine ⟨_, rfl, ?_⟩
    have HX4 := Lib.hid (HX3.out.below hb_)
    clear hb_
    refine hK.out _ _ (HS _ HX4.out) (fun hHeld => ?_)
    clear hK K
    refine nx 12 ?_
    refine pq 8 13 14 511 ?_
    refine pqo 9 14 14 1023 ?_
    refine pqo 10 15 14 2047 ?_
    refine pqo 11 16 14 4095 ?_
    refine pq 12 17 14 8191 ?_
    refine pq 13 4 14 16383 ?_
    refine done_ (by kernel_rfl) ?_
    go_wp2_with fail
    go_ret
    exact ⟨rfl, HX4.out.bel⟩
def enB (y : Ly) (k : ByteArray) (id : Int) : Bool := decide ((k.size : Int) = 10) && amB id (y.c2 - 1)
set_option maxHeartbeats 4000000 in
set_option maxRecDepth 100000 in
theorem entry_ly (y : Ly) (ok : y.Ok) (k : ByteArray) (id : Int) (w : World) : Calls Tryz.prog 128 #[y.v, .agg #[.string k, .int .i64 id]] w fun e w' => e = .returned (.bool (enB y k id)) ∧ Below w.heap.size w w' := by
  have HK := Lib.hid (show wrap64 (y.c2 - 1) = y.c2 - 1 by unfold Ly.Ok at ok; exact wr64 (by omega) (by omega))
  obtain ⟨b1, hb1⟩ : ∃ b, amB id (wrap64 (y.c2 - 1)) = b := ⟨_, rfl⟩
  have H1 := Lib.hid hb1
  have HE := Lib.hid (show amB id (y.c2 - 1) = b1 by rw [← HK.out]; exact hb1)
  clear hb1 ok
  go_enter Tryz.func128, Tryz.ntmps128
  by_cases hk : k.size = 10
  · have hk2 : (k.size : Int) = 10 := by omega
    go_wp2_with (first | ((with_reducible refine gate_dst (N := 2) rfl ?_); refine box_event ?hg (N := 2) ?hd (cs := #[.int .i64 y.c0, .int .i64 y.c1, .int .i64 y.c2, .int .i64 y.c3, .int .i64 y.c4, .int .i64 y.c5, .int .i64 y.c6, .int .i64 y.c7, .int .i64 y.c8, .int .i64 y.c9, .slice y.A y.l.length y.cap]) (t := 46) ?hr ?_; (case hd => rfl); (case hg => rfl); (case hr => first | (go_simp; done) | (go_simp; rfl)); intro gl hg_ w1 hbox_ hb_; have HX1 := Lib.hid (Sr.box (Sr.nil w) hg_ hbox_ hb_); clear hbox_ hb_ hg_) | ((with_reducible refine gate_dst (N := 3) rfl ?_); refine box_event ?hg (N := 3) ?hd (cs := #[.string k, .int .i64 id]) (t := 107) ?hr ?_; (case hd => rfl); (case hg => rfl); (case hr => first | (go_simp; done) | (go_simp; rfl)); intro ge hg_ w2 hbox_ hb_; have HX2 := Lib.hid (Sr.box HX1.out hg_ hbox_ hb_); have e0 := HX2.out.cell mh 0 rfl; have e1 := HX2.out.cell mh 1 rfl; have q2 := HX2.out.cell (mt mh) 2 rfl; clear hbox_ hb_ hg_) | fail)
    with_reducible refine (among_call _ _ _ H1.out _).mono ?_
    rintro e w3 ⟨rfl, hb⟩
    have HX3 := Lib.hid (HX2.out.below hb)
    clear hb
    go_wp2_with fail
    go_ret
    exact ⟨by unfold enB; rw [HE.out, decide_eq_true hk2]; cases b1 <;> rfl, HX3.out.bel⟩
  · have hk2 : ¬ (k.size : Int) = 10 := by omega
    go_wp2_with (first | ((with_reducible refine gate_dst (N := 2) rfl ?_); refine box_event ?hg (N := 2) ?hd (cs := #[.int .i64 y.c0, .int .i64 y.c1, .int .i64 y.c2, .int .i64 y.c3, .int .i64 y.c4, .int .i64 y.c5, .int .i64 y.c6, .int .i64 y.c7, .int .i64 y.c8, .int .i64 y.c9, .slice y.A y.l.length y.cap]) (t := 46) ?hr ?_; (case hd => rfl); (case hg => rfl); (case hr => first | (go_simp; done) | (go_simp; rfl)); intro gl hg_ w1 hbox_ hb_; have HX1 := Lib.hid (Sr.box (Sr.nil w) hg_ hbox_ hb_); clear hbox_ hb_ hg_) | ((with_reducible refine gate_dst (N := 3) rfl ?_); refine box_event ?hg (N := 3) ?hd (cs := #[.string k, .int .i64 id]) (t := 107) ?hr ?_; (case hd => rfl); (case hg => rfl); (case hr => first | (go_simp; done) | (go_simp; rfl)); intro ge hg_ w2 hbox_ hb_; have HX2 := Lib.hid (Sr.box HX1.out hg_ hbox_ hb_); have e0 := HX2.out.cell mh 0 rfl; have e1 := HX2.out.cell mh 1 rfl; have q2 := HX2.out.cell (mt mh) 2 rfl; clear hbox_ hb_ hg_) | fail)
    go_ret
    exact ⟨by unfold enB; rw [decide_eq_false hk2]; rfl, HX2.out.bel⟩
def okC (s e : Int) : Bool := decide (0 ≤ s ∧ s ≤ 1099511627774 ∧ 0 ≤ e ∧ e ≤ 1099511627774)
set_option maxHeartbeats 4000000 in
set_option maxRecDepth 100000 in
theorem Commit_may_call (s e0 : Int) (w : World) : Calls Tryz.prog 75 #[.agg #[.int .i64 s, .int .i64 e0]] w fun e w' => e = .returned (.bool (okC s e0)) ∧ Below w.heap.size w w' := by
  obtain ⟨b1, hb1⟩ : ∃ b, amB s 1099511627774 = b := ⟨_, rfl⟩
  obtain ⟨b2, hb2⟩ : ∃ b, amB e0 1099511627774 = b := ⟨_, rfl⟩
  have H1 := Lib.hid hb1
  have H2 := Lib.hid hb2
  have HE := Lib.hid (show okC s e0 = (b1 && b2) by
    rw [← hb1, ← hb2]
    unfold okC amB
    rw [← Bool.decide_and]
    exact decide_eq_decide.2 (by omega))
  rw [HE.out]
  clear hb1 hb2 HE
  go_enter Tryz.func75, Tryz.ntmps75
  go_wp2_with (first | ((with_reducible refine gate_dst (N := 1) rfl ?_); refine box_event ?hg (N := 1) ?hd (cs := #[.int .i64 s, .int .i64 e0]) (t := 26) ?hr ?_; (case hd => rfl); (case hg => rfl); (case hr => first | (go_simp; done) | (go_simp; rfl)); intro gl hg_ w1 hbox_ hb_; have HX1 := Lib.hid (Sr.box (Sr.nil w) hg_ hbox_ hb_); have q0 := HX1.out.cell mh 0 rfl; have q1 := HX1.out.cell mh 1 rfl; clear hbox_ hb_ hg_) | fail)
  with_reducible refine (among_call _ _ _ H1.out _).mono ?_
  rintro e w3 ⟨rfl, hb⟩
  have HX3 := Lib.hid (HX1.out.below hb)
  clear hb q0 q1
  have q1 := HX3.out.cell mh 1 rfl
  cases b1 with
  | true =>
    go_wp2_with fail
    with_reducible refine (among_call _ _ _ H2.out _).mono ?_
    rintro e w4 ⟨rfl, hb⟩
    have HX4 := Lib.hid (HX3.out.below hb)
    clear hb
    go_wp2_with fail
    go_ret
    exact ⟨by cases b2 <;> rfl, HX4.out.bel⟩
  | false =>
    go_wp2_with fail
    go_ret
    exact ⟨rfl, HX3.out.bel⟩
theorem Commit_may_r (s e0 : Int) (r : Bool) (hr : okC s e0 = r) (w : World) : Calls Tryz.prog 75 #[.agg #[.int .i64 s, .int .i64 e0]] w fun e w' => e = .returned (.bool r) ∧ Below w.heap.size w w' := hr ▸ Commit_may_call s e0 w
section
variable {y : Ly} {w : World}
theorem Slots_call (h : y.R w) (ok : y.Ok) : Calls Tryz.prog 62 #[y.v] w fun e w' => e = .returned (.int .i64 y.slots) ∧ Below w.heap.size w w' := Slots_ly y ok w
theorem LogLen_call (h : y.R w) : Calls Tryz.prog 72 #[y.v] w fun e w' => e = .returned (.int .i64 12) ∧ Below w.heap.size w w' := LogLen_ly y w
theorem place_call (h : y.R w) (ok : y.Ok) (leaf tag : Int) (r : Bool) (hr : plB y leaf tag = r) : Calls Tryz.prog 69 #[y.v, .agg #[.int .i64 leaf, .int .i64 tag]] w fun e w' => e = .returned (.bool r) ∧ Below w.heap.size w w' := hr ▸ place_ly y ok leaf tag w
theorem whole_call (h : y.R w) (ok : y.Ok) (n : Int) (hn : 1 ≤ n) (hn2 : n ≤ 100000) : Calls Tryz.prog 71 #[y.v, .int .i64 n] w fun e w' => e = .returned (.int .i64 (y.whole n)) ∧ Below w.heap.size w w' := whole_ly y ok n hn hn2 w
theorem DeltaLen_call (h : y.R w) (ok : y.Ok) : Calls Tryz.prog 63 #[y.v] w fun e w' => e = .returned (.int .i64 y.deltaLen) ∧ Below w.heap.size w w' := DeltaLen_ly y ok w
theorem FullLen_call (h : y.R w) (ok : y.Ok) : Calls Tryz.prog 51 #[y.v] w fun e w' => e = .returned (.int .i64 y.fullLen) ∧ Below w.heap.size w w' := FullLen_ly y ok w
theorem entry_call (h : y.R w) (ok : y.Ok) (k : ByteArray) (id : Int) (r : Bool) (hr : enB y k id = r) : Calls Tryz.prog 128 #[y.v, .agg #[.string k, .int .i64 id]] w fun e w' => e = .returned (.bool r) ∧ Below w.heap.size w w' := hr ▸ entry_ly y ok k id w
end
def tabB (l : List (List Int)) : Bool := l.all (fun r => r.all (fun k => decide (k = 1 ∨ k = 2)) && decide (1 ≤ (r.length : Int) ∧ (r.length : Int) ≤ 4)) && decide (1 ≤ (l.length : Int) ∧ (l.length : Int) ≤ 4)
theorem within_d (a b c : Int) : lay_within.f a b c = some (decide (b ≤ a ∧ a ≤ c)) := by
  unfold lay_within.f
  by_cases h : a ≥ b
  · rw [if_pos h]; congr 1; exact decide_eq_decide.2 (by omega)
  · rw [if_neg h, decide_eq_false (by omega)]
theorem treeMay_d (a : Int) : tree_May.f a = some (decide (0 ≤ a ∧ a ≤ 6)) := by
  unfold tree_May.f
  by_cases h : a ≥ 0
  · rw [if_pos h]; congr 1; exact decide_eq_decide.2 (by omega)
  · rw [if_neg h, decide_eq_false (by omega)]
theorem all_no {α : Type} (f : α → Bool) {l : List α} {x : α} (hx : x ∈ l) (hf : f x = false) : l.all f = false := by
  rw [List.all_eq_false]
  exact ⟨x, hx, by rw [hf]; decide⟩
theorem all_take {α : Type} (f : α → Bool) {l : List α} {k : Nat} {x : α} (ht : l.take (k + 1) = l.take k ++ [x]) (h : (l.take k).all f = true) (hx : f x = true) : (l.take (k + 1)).all f = true := by
  rw [ht, List.all_append, h]
  simp [hx]
theorem row_at {w : World} {A : Option Addr} {n : Nat} {l : List (List Int)} (h : Kd.C (Kd.slice 3 (Kd.int .i64)) w A n l) {k : Nat} (hk : k < n) : ∃ ad A1 c1 r, A = some ad ∧ l[k]? = some r ∧ w.cell? (ad.add k) = some (.slice A1 r.length c1) ∧ Kd.C (Kd.int .i64) w A1 r.length r := by
  obtain ⟨ad, ce, e, _, hK, hc0⟩ := Kd.C_get h ([] : List Int) (k : Int) (by omega) (by omega)
  obtain ⟨A1, c1, rfl, _, h3⟩ := hK
  have hl : k < l.length := by rw [h.1]; exact hk
  have hr : l.getD (Int.toNat (k : Int)) [] = l[k] := by rw [Int.toNat_natCast, List.getD_eq_getElem?_getD, List.getElem?_eq_getElem hl]; rfl
  have h1 := hc0 0 _ rfl
  rw [hr] at h1 h3
  simp only [Int.toNat_natCast, show (Kd.slice 3 (Kd.int .i64)).sz = 1 from rfl, Nat.mul_one, Nat.add_zero] at h1
  exact ⟨ad, A1, c1, l[k], e, List.getElem?_eq_getElem hl, h1, h3⟩
theorem takeOf {α : Type} {l : List α} {k : Nat} {x : α} (h : l[k]? = some x) : l.take (k + 1) = l.take k ++ [x] := by rw [List.take_add_one, h]; rfl
set_option maxHeartbeats 4000000 in
set_option maxRecDepth 100000 in
theorem tables_call {l : List (List Int)} {w : World} {A : Option Addr} {n c : Nat} (hn : l.length = n) (hC : Kd.C (Kd.slice 3 (Kd.int .i64)) w A n l) : Calls Tryz.prog 178 #[.slice A n c] w fun e w' => e = .returned (.bool (tabB l)) ∧ Below w.heap.size w w' := by
  have HC := Lib.hid hC
  have HN := Lib.hid hn
  have HM := hC.2.1
  clear hn hC
  go_enter Tryz.func178, Tryz.ntmps178
  go_wp2_with fail
  go_loopw [9] (fun i wr => ∃ k : Nat, k ≤ n ∧ i = .int .i64 k ∧ Hid ((l.take k).all (fun r => r.all (fun k => decide (k = 1 ∨ k = 2)) && decide (1 ≤ (r.length : Int) ∧ (r.length : Int) ≤ 4)) = true) ∧ Hid (Below w.heap.size w wr)) (fun i _ => n - (intOf i).toNat)
  case atStart =>
    exact ⟨0, Nat.zero_le _, rfl, (by simp : _ = true), Below.refl _ _⟩
  case round =>
    obtain ⟨k, hk, rfl, HR, HB⟩ := hrel
    by_cases hlt : k < n
    · obtain ⟨ad, A1, c1, r, rfl, hr, q0, h3⟩ := row_at HC.out hlt
      have HRk := Lib.hid hr
      have HM1 := h3.2.1
      obtain ⟨n1, hn1⟩ : ∃ m, r.length = m := ⟨_, rfl⟩
      rw [hn1] at q0 h3 HM1
      have HN1 := Lib.hid hn1
      have HC1 := Lib.hid h3
      replace q0 := pw_cell_below HB.out q0
      have c0 : (0 : Int) ≤ (k : Int) := by omega
      clear hr hn1 h3
      go_wp2_with fail
      clear q0
      go_loopw [15] (fun i w2 => ∃ j : Nat, j ≤ n1 ∧ i = .int .i64 j ∧ Hid ((r.take j).all (fun k => decide (k = 1 ∨ k = 2)) = true) ∧ w2 = wr) (fun i _ => n1 - (intOf i).toNat)
      case atStart =>
        exact ⟨0, Nat.zero_le _, rfl, (by simp : _ = true), rfl⟩
      case round =>
        obtain ⟨j, hj, rfl, HJ, rfl⟩ := hrel
        by_cases hlt1 : j < n1
        · obtain ⟨_, _, e3⟩ := Kd.reads_of_C (d := (0 : Int)) HC1.out
          obtain ⟨ad1, rfl, hc⟩ := e3 (by omega)
          have q0 := pw_cell_below HB.out (hc j hlt1)
          obtain ⟨x, hx⟩ : ∃ x, r.getD j 0 = x := ⟨_, rfl⟩
          rw [hx] at q0
          have HX := Lib.hid (show r[j]? = some x by
            have h1 : j < r.length := by have := HN1.out; omega
            rw [← hx, List.getD_eq_getElem?_getD, List.getElem?_eq_getElem h1]
            rfl)
          have c1 : (0 : Int) ≤ (j : Int) := by omega
          clear hc hx e3
          by_cases x1 : x = 1
          · have x2 : (x != 1) = false := by rw [x1]; rfl
            go_wp2_with fail
            refine ⟨⟨j + 1, by omega, by rw [Int.natCast_add]; rfl, Lib.hid (all_take _ (takeOf HX.out) HJ.out (by rw [x1]; decide)), trivial⟩, ?_⟩
            simp only [intOf]
            omega
          · have x2 : (x != 1) = true := by rw [bne_iff_ne]; exact x1
            by_cases y1 : x = 2
            · have y2 : (x != 2) = false := by rw [y1]; rfl
              go_wp2_with fail
              refine ⟨⟨j + 1, by omega, by rw [Int.natCast_add]; rfl, Lib.hid (all_take _ (takeOf HX.out) HJ.out (by rw [y1]; decide)), trivial⟩, ?_⟩
              simp only [intOf]
              omega
            · have y2 : (x != 2) = true := by rw [bne_iff_ne]; exact y1
              have HV := Lib.hid (show tabB l = false by
                unfold tabB
                rw [all_no _ (List.mem_of_getElem? HRk.out) (by rw [all_no _ (List.mem_of_getElem? HX.out) (decide_eq_false (by omega))]; rfl)]
                rfl)
              go_wp2_with fail
              go_ret
              exact ⟨show Ending.returned (.bool false) = .returned (.bool (tabB l)) from by rw [HV.out], HB.out⟩
        · obtain rfl : n1 = j := by omega
          have HAll := Lib.hid (show r.all (fun k => decide (k = 1 ∨ k = 2)) = true by have h := HJ.out; rwa [List.take_of_length_le (by rw [HN1.out]; exact Nat.le_refl _)] at h)
          clear HJ
          go_wp2_with fail
          with_reducible refine (lay_within.calls (n1 : Int) 1 4 (decide (1 ≤ (n1 : Int) ∧ (n1 : Int) ≤ 4)) _ (within_d _ _ _)).mono ?_
          rintro e w3 ⟨rfl, hb⟩
          have HB3 := Lib.hid (below_step HB.out hb.below)
          clear hb
          by_cases hw : 1 ≤ (n1 : Int) ∧ (n1 : Int) ≤ 4
          · rw [decide_eq_true hw]
            go_wp2_with fail
            refine ⟨⟨k + 1, by omega, by rw [Int.natCast_add]; rfl, Lib.hid (all_take _ (takeOf HRk.out) HR.out (by rw [HAll.out, HN1.out, decide_eq_true hw]; rfl)), HB3⟩, ?_⟩
            simp only [intOf]
            omega
          · rw [decide_eq_false hw]
            have HV := Lib.hid (show tabB l = false by
              unfold tabB
              rw [all_no _ (List.mem_of_getElem? HRk.out) (by rw [HAll.out, HN1.out, decide_eq_false hw]; rfl)]
              rfl)
            go_wp2_with fail
            go_ret
            exact ⟨show Ending.returned (.bool false) = .returned (.bool (tabB l)) from by rw [HV.out], HB3.out⟩
    · obtain rfl : n = k := by omega
      have HV := Lib.hid (show tabB l = decide (1 ≤ (n : Int) ∧ (n : Int) ≤ 4) by
        unfold tabB
        have h := HR.out
        rw [List.take_of_length_le (by rw [HN.out]; exact Nat.le_refl _)] at h
        rw [h, HN.out]
        rfl)
      clear HR
      go_wp2_with fail
      with_reducible refine (lay_within.calls (n : Int) 1 4 (decide (1 ≤ (n : Int) ∧ (n : Int) ≤ 4)) _ (within_d _ _ _)).mono ?_
      rintro e w3 ⟨rfl, hb⟩
      have HB3 := Lib.hid (below_step HB.out hb.below)
      clear hb
      obtain ⟨b, hb⟩ : ∃ b, decide (1 ≤ (n : Int) ∧ (n : Int) ≤ 4) = b := ⟨_, rfl⟩
      have HBb := Lib.hid hb
      rw [hb]
      clear hb
      go_wp2_with fail
      go_ret
      exact ⟨show Ending.returned (.bool b) = .returned (.bool (tabB l)) from by rw [HV.out, HBb.out], HB3.out⟩
def MayP (y : Ly) : Prop := (0 ≤ y.c0 ∧ y.c0 ≤ 6) ∧ (1 ≤ y.c1 ∧ y.c1 ≤ 4) ∧ (1 ≤ y.c2 ∧ y.c2 ≤ 64) ∧ (1 ≤ y.c3 ∧ y.c3 ≤ 4) ∧ (1 ≤ y.c4 ∧ y.c4 ≤ 8) ∧ (1 ≤ y.c5 ∧ y.c5 ≤ 8) ∧ (0 ≤ y.c6 ∧ y.c6 ≤ 64) ∧ (1 ≤ y.c7 ∧ y.c7 ≤ 8) ∧ (1 ≤ y.c8 ∧ y.c8 ≤ 16) ∧ (1 ≤ y.c9 ∧ y.c9 ≤ 8) ∧ tabB y.l = true
instance (y : Ly) : Decidable (MayP y) := by unfold MayP; infer_instance
def mayB (y : Ly) : Bool := decide (MayP y)
theorem mayB_no {y : Ly} (h : ¬ MayP y) : mayB y = false := decide_eq_false h
theorem mayB_ok {y : Ly} (h : mayB y = true) : y.Ok ∧ (1 ≤ y.l.length ∧ y.l.length ≤ 4) ∧ ∀ r ∈ y.l, r.length ≤ 4 := by
  obtain ⟨h0, h1, h2, h3, h4, h5, h6, _, _, _, ht⟩ := of_decide_eq_true h
  refine ⟨⟨h0.1, h0.2, h1.1, h1.2, h2.1, h2.2, h3.1, h3.2, h4.1, h4.2, h5.1, h5.2, h6.1, h6.2⟩, ?_⟩
  unfold tabB at ht
  rw [Bool.and_eq_true, List.all_eq_true] at ht
  have h7 := of_decide_eq_true ht.2
  refine ⟨⟨by omega, by omega⟩, fun r hr => ?_⟩
  have h8 := ht.1 r hr
  rw [Bool.and_eq_true] at h8
  have h9 := of_decide_eq_true h8.2
  omega
set_option maxHeartbeats 4000000 in
set_option maxRecDepth 100000 in
theorem May_ly {y : Ly} {w : World} (hy : y.R w) : Calls Tryz.prog 127 #[y.v] w fun e w' => e = .returned (.bool (mayB y)) ∧ Below w.heap.size w w' := by
  have HY := Lib.hid hy.1
  clear hy
  go_enter Tryz.func127, Tryz.ntmps127
  go_wp2_with (first | ((with_reducible refine gate_dst (N := 1) rfl ?_); refine box_event ?hg (N := 1) ?hd (cs := #[.int .i64 y.c0, .int .i64 y.c1, .int .i64 y.c2, .int .i64 y.c3, .int .i64 y.c4, .int .i64 y.c5, .int .i64 y.c6, .int .i64 y.c7, .int .i64 y.c8, .int .i64 y.c9, .slice y.A y.l.length y.cap]) (t := 24) ?hr ?_; (case hd => rfl); (case hg => rfl); (case hr => first | (go_simp; done) | (go_simp; rfl)); intro gl hg_ w1 hbox_ hb_; have HX1 := Lib.hid (Sr.box (Sr.nil w) hg_ hbox_ hb_); have q0 := HX1.out.cell mh 0 rfl; have q1 := HX1.out.cell mh 1 rfl; have q2 := HX1.out.cell mh 2 rfl; have q3 := HX1.out.cell mh 3 rfl; have q4 := HX1.out.cell mh 4 rfl; have q5 := HX1.out.cell mh 5 rfl; have q6 := HX1.out.cell mh 6 rfl; have q7 := HX1.out.cell mh 7 rfl; have q8 := HX1.out.cell mh 8 rfl; have q9 := HX1.out.cell mh 9 rfl; have q10 := HX1.out.cell mh 10 rfl; clear hbox_ hb_ hg_) | fail)
  have q0 := HX1.out.cell mh 0 rfl
  go_wp2_with fail
  with_reducible refine (tree_May.calls y.c0 (decide (0 ≤ y.c0 ∧ y.c0 ≤ 6)) _ (treeMay_d _)).mono ?_
  rintro e wa ⟨rfl, hb_⟩
  replace hb_ := hb_.below
  have HX2 := Lib.hid (HX1.out.below hb_)
  clear hb_ q0
  have q1 := HX2.out.cell mh 1 rfl
  by_cases m0 : (0 ≤ y.c0 ∧ y.c0 ≤ 6)
  rotate_left
  · rw [decide_eq_false m0]
    go_wp2_with fail
    go_ret
    exact ⟨show Ending.returned (.bool false) = .returned (.bool (mayB y)) from by rw [mayB_no (fun h => m0 h.1)], HX2.out.bel⟩
  rw [decide_eq_true m0]
  go_wp2_with fail
  with_reducible refine (lay_within.calls y.c1 1 4 (decide (1 ≤ y.c1 ∧ y.c1 ≤ 4)) _ (within_d _ _ _)).mono ?_
  rintro e wa ⟨rfl, hb_⟩
  replace hb_ := hb_.below
  have HX3 := Lib.hid (HX2.out.below hb_)
  clear hb_ q1
  have q2 := HX3.out.cell mh 2 rfl
  by_cases m1 : (1 ≤ y.c1 ∧ y.c1 ≤ 4)
  rotate_left
  · rw [decide_eq_false m1]
    go_wp2_with fail
    go_ret
    exact ⟨show Ending.returned (.bool false) = .returned (.bool (mayB y)) from by rw [mayB_no (fun h => m1 h.2.1)], HX3.out.bel⟩
  rw [decide_eq_true m1]
  go_wp2_with fail
  with_reducible refine (lay_within.calls y.c2 1 64 (decide (1 ≤ y.c2 ∧ y.c2 ≤ 64)) _ (within_d _ _ _)).mono ?_
  rintro e wa ⟨rfl, hb_⟩
  replace hb_ := hb_.below
  have HX4 := Lib.hid (HX3.out.below hb_)
  clear hb_ q2
  have q3 := HX4.out.cell mh 3 rfl
  by_cases m2 : (1 ≤ y.c2 ∧ y.c2 ≤ 64)
  rotate_left
  · rw [decide_eq_false m2]
    go_wp2_with fail
    go_ret
    exact ⟨show Ending.returned (.bool false) = .returned (.bool (mayB y)) from by rw [mayB_no (fun h => m2 h.2.2.1)], HX4.out.bel⟩
  rw [decide_eq_true m2]
  go_wp2_with fail
  with_reducible refine (lay_within.calls y.c3 1 4 (decide (1 ≤ y.c3 ∧ y.c3 ≤ 4)) _ (within_d _ _ _)).mono ?_
  rintro e wa ⟨rfl, hb_⟩
  replace hb_ := hb_.below
  have HX5 := Lib.hid (HX4.out.below hb_)
  clear hb_ q3
  have q4 := HX5.out.cell mh 4 rfl
  by_cases m3 : (1 ≤ y.c3 ∧ y.c3 ≤ 4)
  rotate_left
  · rw [decide_eq_false m3]
    go_wp2_with fail
    go_ret
    exact ⟨show Ending.returned (.bool false) = .returned (.bool (mayB y)) from by rw [mayB_no (fun h => m3 h.2.2.2.1)], HX5.out.bel⟩
  rw [decide_eq_true m3]
  go_wp2_with fail
  with_reducible refine (lay_within.calls y.c4 1 8 (decide (1 ≤ y.c4 ∧ y.c4 ≤ 8)) _ (within_d _ _ _)).mono ?_
  rintro e wa ⟨rfl, hb_⟩
  replace hb_ := hb_.below
  have HX6 := Lib.hid (HX5.out.below hb_)
  clear hb_ q4
  have q5 := HX6.out.cell mh 5 rfl
  by_cases m4 : (1 ≤ y.c4 ∧ y.c4 ≤ 8)
  rotate_left
  · rw [decide_eq_false m4]
    go_wp2_with fail
    go_ret
    exact ⟨show Ending.returned (.bool false) = .returned (.bool (mayB y)) from by rw [mayB_no (fun h => m4 h.2.2.2.2.1)], HX6.out.bel⟩
  rw [decide_eq_true m4]
  go_wp2_with fail
  with_reducible refine (lay_within.calls y.c5 1 8 (decide (1 ≤ y.c5 ∧ y.c5 ≤ 8)) _ (within_d _ _ _)).mono ?_
  rintro e wa ⟨rfl, hb_⟩
  replace hb_ := hb_.below
  have HX7 := Lib.hid (HX6.out.below hb_)
  clear hb_ q5
  have q6 := HX7.out.cell mh 6 rfl
  by_cases m5 : (1 ≤ y.c5 ∧ y.c5 ≤ 8)
  rotate_left
  · rw [decide_eq_false m5]
    go_wp2_with fail
    go_ret
    exact ⟨show Ending.returned (.bool false) = .returned (.bool (mayB y)) from by rw [mayB_no (fun h => m5 h.2.2.2.2.2.1)], HX7.out.bel⟩
  rw [decide_eq_true m5]
  go_wp2_with fail
  with_reducible refine (lay_within.calls y.c6 0 64 (decide (0 ≤ y.c6 ∧ y.c6 ≤ 64)) _ (within_d _ _ _)).mono ?_
  rintro e wa ⟨rfl, hb_⟩
  replace hb_ := hb_.below
  have HX8 := Lib.hid (HX7.out.below hb_)
  clear hb_ q6
  have q7 := HX8.out.cell mh 7 rfl
  by_cases m6 : (0 ≤ y.c6 ∧ y.c6 ≤ 64)
  rotate_left
  · rw [decide_eq_false m6]
    go_wp2_with fail
    go_ret
    exact ⟨show Ending.returned (.bool false) = .returned (.bool (mayB y)) from by rw [mayB_no (fun h => m6 h.2.2.2.2.2.2.1)], HX8.out.bel⟩
  rw [decide_eq_true m6]
  go_wp2_with fail
  with_reducible refine (lay_within.calls y.c7 1 8 (decide (1 ≤ y.c7 ∧ y.c7 ≤ 8)) _ (within_d _ _ _)).mono ?_
  rintro e wa ⟨rfl, hb_⟩
  replace hb_ := hb_.below
  have HX9 := Lib.hid (HX8.out.below hb_)
  clear hb_ q7
  have q8 := HX9.out.cell mh 8 rfl
  by_cases m7 : (1 ≤ y.c7 ∧ y.c7 ≤ 8)
  rotate_left
  · rw [decide_eq_false m7]
    go_wp2_with fail
    go_ret
    exact ⟨show Ending.returned (.bool false) = .returned (.bool (mayB y)) from by rw [mayB_no (fun h => m7 h.2.2.2.2.2.2.2.1)], HX9.out.bel⟩
  rw [decide_eq_true m7]
  go_wp2_with fail
  with_reducible refine (lay_within.calls y.c8 1 16 (decide (1 ≤ y.c8 ∧ y.c8 ≤ 16)) _ (within_d _ _ _)).mono ?_
  rintro e wa ⟨rfl, hb_⟩
  replace hb_ := hb_.below
  have HX10 := Lib.hid (HX9.out.below hb_)
  clear hb_ q8
  have q9 := HX10.out.cell mh 9 rfl
  by_cases m8 : (1 ≤ y.c8 ∧ y.c8 ≤ 16)
  rotate_left
  · rw [decide_eq_false m8]
    go_wp2_with fail
    go_ret
    exact ⟨show Ending.returned (.bool false) = .returned (.bool (mayB y)) from by rw [mayB_no (fun h => m8 h.2.2.2.2.2.2.2.2.1)], HX10.out.bel⟩
  rw [decide_eq_true m8]
  go_wp2_with fail
  with_reducible refine (lay_within.calls y.c9 1 8 (decide (1 ≤ y.c9 ∧ y.c9 ≤ 8)) _ (within_d _ _ _)).mono ?_
  rintro e wa ⟨rfl, hb_⟩
  replace hb_ := hb_.below
  have HX11 := Lib.hid (HX10.out.below hb_)
  clear hb_ q9
  have q10 := HX11.out.cell mh 10 rfl
  by_cases m9 : (1 ≤ y.c9 ∧ y.c9 ≤ 8)
  rotate_left
  · rw [decide_eq_false m9]
    go_wp2_with fail
    go_ret
    exact ⟨show Ending.returned (.bool false) = .returned (.bool (mayB y)) from by rw [mayB_no (fun h => m9 h.2.2.2.2.2.2.2.2.2.1)], HX11.out.bel⟩
  rw [decide_eq_true m9]
  go_wp2_with fail
  with_reducible refine (tables_call rfl (Kd.C_below HY.out HX11.out.bel)).mono ?_
  rintro e wa ⟨rfl, hb_⟩
  have HX12 := Lib.hid (HX11.out.below hb_)
  have HV := Lib.hid (show mayB y = tabB y.l by
    cases hb : tabB y.l with
    | false => exact mayB_no (fun h => by have h1 := h.2.2.2.2.2.2.2.2.2.2; rw [hb] at h1; cases h1)
    | true => exact decide_eq_true ⟨m0, m1, m2, m3, m4, m5, m6, m7, m8, m9, hb⟩)
  obtain ⟨b, hb⟩ : ∃ b, tabB y.l = b := ⟨_, rfl⟩
  have HBb := Lib.hid hb
  rw [hb]
  clear hb hb_
  go_wp2_with fail
  go_ret
  exact ⟨show Ending.returned (.bool b) = .returned (.bool (mayB y)) from by rw [HV.out, HBb.out], HX12.out.bel⟩
def fewStep (n : Int) (r : List Int) : Int := wrap64 (n + min (r.length : Int) 2001)
def fewT (l : List (List Int)) : Bool := decide (l.length ≤ 50) && decide ((l.take 50).foldl fewStep 0 ≤ 2000)
set_option maxHeartbeats 4000000 in
set_option maxRecDepth 100000 in
theorem Few_ly {y : Ly} {w : World} (hy : y.R w) : Calls Tryz.prog 42 #[y.v] w fun e w' => e = .returned (.bool (fewT y.l)) ∧ Below w.heap.size w w' := by
  obtain ⟨YA, hYA⟩ : ∃ p, y.A = p := ⟨_, rfl⟩
  obtain ⟨n, hn⟩ : ∃ m, y.l.length = m := ⟨_, rfl⟩
  have HC := Lib.hid (show Kd.C (Kd.slice 3 (Kd.int .i64)) w YA n y.l from by rw [← hYA, ← hn]; exact hy.1)
  have HM := HC.out.2.1
  have HN := Lib.hid hn
  show Calls _ _ #[.agg #[.int .i64 y.c0, .int .i64 y.c1, .int .i64 y.c2, .int .i64 y.c3, .int .i64 y.c4, .int .i64 y.c5, .int .i64 y.c6, .int .i64 y.c7, .int .i64 y.c8, .int .i64 y.c9, .slice y.A y.l.length y.cap]] _ _
  rw [hn, hYA]
  clear hy hn hYA
  go_enter Tryz.func42, Tryz.ntmps42
  go_wp2_with (first | ((with_reducible refine gate_dst (N := 1) rfl ?_); refine box_event ?hg (N := 1) ?hd (cs := #[.int .i64 y.c0, .int .i64 y.c1, .int .i64 y.c2, .int .i64 y.c3, .int .i64 y.c4, .int .i64 y.c5, .int .i64 y.c6, .int .i64 y.c7, .int .i64 y.c8, .int .i64 y.c9, .slice YA n y.cap]) (t := 24) ?hr ?_; (case hd => rfl); (case hg => rfl); (case hr => first | (go_simp; done) | (go_simp; rfl)); intro gl hg_ w1 hbox_ hb_; have HX1 := Lib.hid (Sr.box (Sr.nil w) hg_ hbox_ hb_); clear hbox_ hb_ hg_) | fail)
  go_loopw [3, 4] (fun s i wr => ∃ (k : Nat) (m : Int), k ≤ n ∧ k ≤ 50 ∧ i = .int .i64 k ∧ s = .int .i64 m ∧ Hid (m = (y.l.take k).foldl fewStep 0) ∧ wr = w1) (fun _ i _ => n - (intOf i).toNat)
  case atStart =>
    exact ⟨0, 0, Nat.zero_le _, Nat.zero_le _, rfl, rfl, Lib.hid (by simp), rfl⟩
  case round =>
    obtain ⟨k, m, hk, hk50, rfl, rfl, HF, rfl⟩ := hrel
    have q10 := HX1.out.cell mh 10 rfl
    by_cases hlt : k < n
    · by_cases h2 : k < 50
      · obtain ⟨ad, A1, c1, r, rfl, hr, q0, h3⟩ := row_at HC.out hlt
        obtain ⟨n1, hn1⟩ : ∃ m, r.length = m := ⟨_, rfl⟩
        rw [hn1] at q0
        replace q0 := pw_cell_below HX1.out.bel q0
        have HS := Lib.hid (show (y.l.take (k + 1)).foldl fewStep 0 = wrap64 (m + min (n1 : Int) 2001) by
          rw [takeOf hr, List.foldl_append, ← HF.out, ← hn1]
          rfl)
        have c0 : (0 : Int) ≤ (k : Int) := by omega
        clear hr hn1 h3
        go_wp2_with fail
        refine ⟨⟨k + 1, _, by omega, by omega, by rw [Int.natCast_add]; rfl, rfl, Lib.hid HS.out.symm, trivial⟩, ?_⟩
        simp only [intOf]
        omega
      · have h3 : ¬ n ≤ 50 := by omega
        have HV := Lib.hid (show fewT y.l = false by unfold fewT; rw [HN.out, decide_eq_false h3]; rfl)
        go_wp2_with fail
        go_ret
        exact ⟨show Ending.returned (.bool false) = .returned (.bool (fewT y.l)) from by rw [HV.out], HX1.out.bel⟩
    · obtain rfl : n = k := by omega
      have HV := Lib.hid (show fewT y.l = decide (m ≤ 2000) by
        unfold fewT
        rw [HN.out, decide_eq_true hk50, HF.out, List.take_of_length_le (by rw [HN.out]; exact hk50), List.take_of_length_le (by rw [HN.out]; exact Nat.le_refl _)]
        rfl)
      have h3 : (n : Int) ≤ 50 := by omega
      by_cases hm : m ≤ 2000
      · go_wp2_with fail
        go_ret
        exact ⟨show Ending.returned (.bool true) = .returned (.bool (fewT y.l)) from by rw [HV.out, decide_eq_true hm], HX1.out.bel⟩
      · go_wp2_with fail
        go_ret
        exact ⟨show Ending.returned (.bool false) = .returned (.bool (fewT y.l)) from by rw [HV.out, decide_eq_false (by omega)], HX1.out.bel⟩
end Go.Proofs.YtmbnomlkhmcmaaaGreat.A
end
section
namespace Go.Proofs.YtmbnomlkhmcmaaaGreat.A
open Go.RowKit Go.Shelf Go.Proofs.YtmbnomlkhmcmaaaGreatW.PrintWords Go.Proofs.YtmbnomlkhmcmaaaGreatW.PrintLast Go.Proofs.YtmbnomlkhmcmaaaGreat.B Go.Proofs.YtmbnomlkhmcmaaaGreat.Z
set_option linter.unusedVariables false
set_option linter.unusedSimpArgs false
theorem C_ints {W : World} {b : Nat} {l : List Int} {t : TypeId} (hh : W.heap[b]? = some (.cells (l.map (Value.int .i64)).toArray t (0, 0))) (hl : l.length ≤ 1048576) : Kd.C (Kd.int .i64) W (some ⟨b, 0, none⟩) l.length l := by
  refine ⟨rfl, by omega, fun _ => ⟨_, rfl, fun j p hj => ⟨_, rfl, rfl, fun i u hu => ?_⟩⟩⟩
  have hc := cell_at hh j (v := .int .i64 p) (by simp [hj])
  match i, hu with
  | 0, hu =>
    obtain rfl : Value.int .i64 p = u := by simpa using hu
    show W.cell? (((⟨b, 0, none⟩ : Addr).add (j * 1)).add 0) = _
    rw [Nat.mul_one]
    rcases j with _ | j <;> simpa [Addr.add] using hc
theorem R_low {w : World} {base base' : Nat} {ok : Nat → Prop} {v : Value} {xs : List Int} (h : Kd.R (Kd.int .u8) 5 w base ok v xs) (hle : base' ≤ base) : Kd.R (Kd.int .u8) 5 w base' ok v xs := by
  obtain ⟨h0, inner, ho, hr2⟩ := h
  exact ⟨h0, inner, own_less ho hle, hr2⟩
def TwoNew (w : World) (l : List Int) (g b : Nat) (w' : World) : Prop :=
  Below w.heap.size w w' ∧ WR w' g (fun k => k = b) [] ∧ w'.heap[b]? = some (.cells (l.map (Value.int .i64)).toArray 3 (0, 0)) ∧ w.heap.size ≤ g
abbrev wro : Obj := .cells #[.slice none 0 0, .bool false] 122
abbrev rowo (l : List Int) : Obj := .cells (l.map (Value.int .i64)).toArray 3
theorem two_a (l : List Int) (w : World) : TwoNew w l w.heap.size (w.heap.size + 1) ((w.alloc wro).alloc (rowo l)) := by
  have hb := (allocB w wro).trans ((allocB (w.alloc wro) (rowo l)).mono (allocB w wro).size)
  have hs : (w.alloc wro).heap.size = w.heap.size + 1 := by
    show (w.heap.push _).size = _
    rw [Array.size_push]
  have ht := heap_top (w.alloc wro) (rowo l)
  rw [hs] at ht
  refine ⟨hb, ?_, ht, Nat.le_refl _⟩
  refine ⟨.slice none 0 0, kept_at (allocB _ _) (heap_top w wro), Kd.R_nil _ _ _ _ _, (fun _ h => by cases h), ?_⟩
  rintro k rfl
  exact ⟨by rw [show ((w.alloc wro).alloc (rowo l)).heap.size = (w.alloc wro).heap.size + 1 by show ((w.alloc wro).heap.push _).size = _; rw [Array.size_push]]; omega, by omega⟩
theorem two_b (l : List Int) (w : World) : TwoNew w l (w.heap.size + 1) w.heap.size ((w.alloc (rowo l)).alloc wro) := by
  have hb := (allocB w (rowo l)).trans ((allocB (w.alloc (rowo l)) wro).mono (allocB w (rowo l)).size)
  have hs : (w.alloc (rowo l)).heap.size = w.heap.size + 1 := by
    show (w.heap.push _).size = _
    rw [Array.size_push]
  have ht := heap_top (w.alloc (rowo l)) wro
  rw [hs] at ht
  refine ⟨hb, ?_, kept_at (allocB _ _) (heap_top w (rowo l)), by omega⟩
  refine ⟨.slice none 0 0, ht, Kd.R_nil _ _ _ _ _, (fun _ h => by cases h), ?_⟩
  rintro k rfl
  exact ⟨by rw [show ((w.alloc (rowo l)).alloc wro).heap.size = (w.alloc (rowo l)).heap.size + 1 by show ((w.alloc (rowo l)).heap.push _).size = _; rw [Array.size_push]]; omega, by omega⟩
theorem two_num {w w4 : World} {l : List Int} {g b : Nat} (width : Nat) (wi : Int) (n c : Nat) (h : TwoNew w l g b w4) (hwi : (width : Int) = wi) (hn : l.length = n) (h1 : 1 ≤ width) (h2 : width ≤ 7) (hl : l.length ≤ 300) (hok : ∀ n ∈ l, okN width n) :
    Calls Tryz.prog 46 #[.pointer (some ⟨g, 0, none⟩), .int .i64 wi, .slice (some ⟨b, 0, none⟩) n c] w4 fun e w' => e = .returned (.pointer (some ⟨g, 0, none⟩)) ∧ WR w' g (fun _ => False) (bes width l) ∧ Below w.heap.size w w' := by
  obtain ⟨hb, hw, hr, hg⟩ := h
  subst hwi hn
  refine (Num_call width l (some ⟨b, 0, none⟩) c g (fun k => k = b) [] w4 hw h1 h2 hok (fun W hW => C_ints (by rw [hW.2 b rfl]; exact hr) (by omega)) hl (by simp)).mono ?_
  rintro e w' ⟨rfl, hw', he⟩
  exact ⟨rfl, by simpa using hw'.less (fun _ h => h.elim), hb.trans (he.1.mono hg)⟩
theorem Payload_call {w W : World} {a0_0 a0_1 a0_2 a0_3 a0_4 a0_5 a0_6 a0_7 a0_8 a0_9 : Int} {l0_10 : List (List Int)} {A0_10 : Option Addr} {n0_10 c0_10 : Nat} (hT : Kd.C (Kd.slice 3 (Kd.int .i64)) w A0_10 l0_10.length l0_10) (hn : l0_10.length = n0_10) (hc : l0_10.length ≤ c0_10) (hz : 1 ≤ a0_1 ∧ a0_1 ≤ 4) (hB : Below w.heap.size w W) :
    Calls Tryz.prog 38 #[.agg #[.int .i64 a0_0, .int .i64 a0_1, .int .i64 a0_2, .int .i64 a0_3, .int .i64 a0_4, .int .i64 a0_5, .int .i64 a0_6, .int .i64 a0_7, .int .i64 a0_8, .int .i64 a0_9, .slice A0_10 n0_10 c0_10]] W fun e w' => e = .returned (.int .i64 (a0_1 * 38)) ∧ Below W.heap.size W w' := by
  subst hn
  exact Payload_ly ⟨a0_0, a0_1, a0_2, a0_3, a0_4, a0_5, a0_6, a0_7, a0_8, a0_9, A0_10, c0_10, l0_10⟩ hz.1 hz.2 W
theorem Sealed_z {w : World} {g : Nat} {Z : Nat → Prop} {xs : List Int} {z : Int} (h : WR w g Z xs) (hz : 1 ≤ z ∧ z ≤ 4) (hx : xs.length ≤ 38) :
    Calls Tryz.prog 70 #[.pointer (some ⟨g, 0, none⟩), .int .i64 (z * 38)] w fun e w' => ∃ v, e = .returned (.tuple #[v, .int .i64 0]) ∧ Kd.R (Kd.int .u8) 5 w' w.heap.size (fun _ => True) v (fill xs (z * 38).toNat) ∧ Below w.heap.size w w' := by
  have h2 := Sealed_call g Z xs (z * 38).toNat w h (by omega) (by omega)
  rwa [Int.toNat_of_nonneg (by omega)] at h2
theorem ok5 {s e : Int} (h : okC s e = true) : ∀ n ∈ [s, e], okN 5 n := by
  have h := of_decide_eq_true h
  intro n hn
  simp only [List.mem_cons, List.not_mem_nil, or_false] at hn
  unfold okN
  rw [show (2 : Int) ^ (8 * 5) - 1 = 1099511627775 from rfl]
  rcases hn with rfl | rfl <;> omega
def ckpt_EncodeCommit.f (a0_0 a0_1 a0_2 a0_3 a0_4 a0_5 a0_6 a0_7 a0_8 a0_9 : Int) (l0_10 : List (List Int)) (a1_0 a1_1 : Int) : Option (List Int × Int) :=
  if 1 ≤ a0_1 ∧ a0_1 ≤ 4 then (if okC a1_0 a1_1 then some (fill (bes 5 [a1_0, a1_1]) (a0_1 * 38).toNat, 0) else some ([], 1)) else none
set_option maxHeartbeats 8000000 in
set_option maxRecDepth 100000 in
theorem ckpt_EncodeCommit.calls (a0_0 a0_1 a0_2 a0_3 a0_4 a0_5 a0_6 a0_7 a0_8 a0_9 : Int) (A0_10 : Option Addr) (c0_10 : Nat) (l0_10 : List (List Int)) (a1_0 a1_1 : Int) (r1 : List Int) (r2 : Int) (w : World) (hr0_10 : Kd.C (Kd.slice 3 (Kd.int .i64)) w A0_10 l0_10.length l0_10) (hc0_10 : l0_10.length ≤ c0_10) (h : ckpt_EncodeCommit.f a0_0 a0_1 a0_2 a0_3 a0_4 a0_5 a0_6 a0_7 a0_8 a0_9 l0_10 a1_0 a1_1 = some (r1, r2)) :
    Calls Tryz.prog 22 #[.agg #[.int .i64 a0_0, .int .i64 a0_1, .int .i64 a0_2, .int .i64 a0_3, .int .i64 a0_4, .int .i64 a0_5, .int .i64 a0_6, .int .i64 a0_7, .int .i64 a0_8, .int .i64 a0_9, .slice A0_10 l0_10.length c0_10], .agg #[.int .i64 a1_0, .int .i64 a1_1]] w fun e w' => ∃ v0_ : Value, e = .returned (.tuple #[v0_, .int .i64 r2]) ∧ Kd.R (Kd.int .u8) 5 w' w.heap.size (fun _ => True) v0_ r1 ∧ Below w.heap.size w w' := by
  unfold ckpt_EncodeCommit.f at h
  split at h
  case isFalse => cases h
  case isTrue hz =>
  obtain ⟨hz1, hz2⟩ := hz
  have HT := Lib.hid hr0_10
  have HTc := Lib.hid hc0_10
  obtain ⟨n0_10, hn⟩ : ∃ n, l0_10.length = n := ⟨_, rfl⟩
  have HTn := Lib.hid hn
  rw [hn]
  have HZ := Lib.hid (And.intro hz1 hz2)
  have HF := Lib.hid h
  obtain ⟨ok, hok⟩ : ∃ b, okC a1_0 a1_1 = b := ⟨_, rfl⟩
  have HO := Lib.hid hok
  clear hz1 hz2 hr0_10 hc0_10 hn h hok
  cases ok with
  | false =>
    go_enter Tryz.func22, Tryz.ntmps22
    go_wp2_with (first
      | ((with_reducible refine gate_dst (N := 2) rfl ?_); refine box_event ?hg (N := 2) ?hd (cs := #[.int .i64 a0_0, .int .i64 a0_1, .int .i64 a0_2, .int .i64 a0_3, .int .i64 a0_4, .int .i64 a0_5, .int .i64 a0_6, .int .i64 a0_7, .int .i64 a0_8, .int .i64 a0_9, .slice A0_10 n0_10 c0_10]) (t := 46) ?hr ?_; (case hd => rfl); (case hg => rfl); (case hr => first | (go_simp; done) | (go_simp; rfl)); intro gl hg_ w1 hbox_ hb_; have HGl := Lib.hid hg_; have HBgl := Lib.hid hbox_; have HW1 := Lib.hid hb_; clear hbox_ hb_ hg_)
      | ((with_reducible refine gate_dst (N := 3) rfl ?_); refine box_event ?hg (N := 3) ?hd (cs := #[.int .i64 a1_0, .int .i64 a1_1]) (t := 26) ?hr ?_; (case hd => rfl); (case hg => rfl); (case hr => first | (go_simp; done) | (go_simp; rfl)); intro gc hg_ w2 hbox_ hb_; have HGc := Lib.hid hg_; have yc0 : w2.cell? ⟨gc, 0, none⟩ = some (.int .i64 a1_0) := (blk_cell hbox_ 0).trans rfl; have yc1 : w2.cell? ⟨gc, 1, none⟩ = some (.int .i64 a1_1) := (blk_cell hbox_ 1).trans rfl; have HBgc := Lib.hid hbox_; have HW2 := Lib.hid hb_; clear hbox_ hb_ hg_)
      | fail)
    refine (Commit_may_r a1_0 a1_1 false HO.out _).mono ?_
    rintro e w3 ⟨rfl, hb3⟩
    have HB3 := Lib.hid hb3
    clear hb3
    go_wp2
    have hF := HF.out
    rw [HO.out] at hF
    simp only [Bool.false_eq_true, if_false, Option.some.injEq, Prod.mk.injEq] at hF
    obtain ⟨rfl, rfl⟩ := hF
    refine bodyPost_ret (v := .tuple #[.slice none 0 0, .int .i64 1]) ?_ rfl ?_
    · simp [results, Tryz.results22, go_sem]
    · exact ⟨_, rfl, Kd.R_nil _ _ _ _ _, below_step (below_step HW1.out HW2.out) HB3.out⟩
  | true =>
    go_enter Tryz.func22, Tryz.ntmps22
    go_wp2_with (first
      | ((with_reducible refine gate_dst (N := 2) rfl ?_); refine box_event ?hg (N := 2) ?hd (cs := #[.int .i64 a0_0, .int .i64 a0_1, .int .i64 a0_2, .int .i64 a0_3, .int .i64 a0_4, .int .i64 a0_5, .int .i64 a0_6, .int .i64 a0_7, .int .i64 a0_8, .int .i64 a0_9, .slice A0_10 n0_10 c0_10]) (t := 46) ?hr ?_; (case hd => rfl); (case hg => rfl); (case hr => first | (go_simp; done) | (go_simp; rfl)); intro gl hg_ w1 hbox_ hb_; have HGl := Lib.hid hg_; have HBgl := Lib.hid hbox_; have HW1 := Lib.hid hb_; clear hbox_ hb_ hg_)
      | ((with_reducible refine gate_dst (N := 3) rfl ?_); refine box_event ?hg (N := 3) ?hd (cs := #[.int .i64 a1_0, .int .i64 a1_1]) (t := 26) ?hr ?_; (case hd => rfl); (case hg => rfl); (case hr => first | (go_simp; done) | (go_simp; rfl)); intro gc hg_ w2 hbox_ hb_; have HGc := Lib.hid hg_; have yc0 : w2.cell? ⟨gc, 0, none⟩ = some (.int .i64 a1_0) := (blk_cell hbox_ 0).trans rfl; have yc1 : w2.cell? ⟨gc, 1, none⟩ = some (.int .i64 a1_1) := (blk_cell hbox_ 1).trans rfl; have HBgc := Lib.hid hbox_; have HW2 := Lib.hid hb_; clear hbox_ hb_ hg_)
      | fail)
    refine (Commit_may_r a1_0 a1_1 true HO.out _).mono ?_
    rintro e w3 ⟨rfl, hb3⟩
    have HB3 := Lib.hid hb3
    clear hb3
    go_wp2
    have HB0 := Lib.hid (below_drew1 (below_step (below_step HW1.out HW2.out) HB3.out))
    have HL0 := Lib.hid (blk_below (blk_below HBgl.out HW2.out) HB3.out)
    have HC0 := Lib.hid (blk_below HBgc.out HB3.out)
    clear HBgl HBgc yc0 yc1 HW1 HW2 HB3 HGl HGc
    refine stq 14 0 (fun w' => w'.cell? ⟨gc, 0, none⟩ = some (.int .i64 a1_0) ∧ w'.cell? ⟨gc, 1, none⟩ = some (.int .i64 a1_1) ∧ w'.cell? ⟨gl, 0, none⟩ = some (.int .i64 a0_0) ∧ w'.cell? ⟨gl, 1, none⟩ = some (.int .i64 a0_1) ∧ w'.cell? ⟨gl, 2, none⟩ = some (.int .i64 a0_2) ∧ w'.cell? ⟨gl, 3, none⟩ = some (.int .i64 a0_3) ∧ w'.cell? ⟨gl, 4, none⟩ = some (.int .i64 a0_4) ∧ w'.cell? ⟨gl, 5, none⟩ = some (.int .i64 a0_5) ∧ w'.cell? ⟨gl, 6, none⟩ = some (.int .i64 a0_6) ∧ w'.cell? ⟨gl, 7, none⟩ = some (.int .i64 a0_7) ∧ w'.cell? ⟨gl, 8, none⟩ = some (.int .i64 a0_8) ∧ w'.cell? ⟨gl, 9, none⟩ = some (.int .i64 a0_9) ∧ w'.cell? ⟨gl, 10, none⟩ = some (.slice A0_10 n0_10 c0_10)) ⟨(blk_cell HC0.out 0).trans rfl, (blk_cell HC0.out 1).trans rfl, (blk_cell HL0.out 0).trans rfl, (blk_cell HL0.out 1).trans rfl, (blk_cell HL0.out 2).trans rfl, (blk_cell HL0.out 3).trans rfl, (blk_cell HL0.out 4).trans rfl, (blk_cell HL0.out 5).trans rfl, (blk_cell HL0.out 6).trans rfl, (blk_cell HL0.out 7).trans rfl, (blk_cell HL0.out 8).trans rfl, (blk_cell HL0.out 9).trans rfl, (blk_cell HL0.out 10).trans rfl⟩ (fun hHeld => ?_)
    refine pq 1 10 14 2 ?_
    refine pq 3 12 14 10 ?_
    refine tq 2 11 14 14 hHeld ?_
    refine tq 4 13 14 30 hHeld ?_
    refine tq 7 16 14 158 hHeld ?_
    refine join_ (σ := Nat × Nat) 7 (bm 14 191) (fun s => [(9, .pointer (some ⟨s.1, 0, none⟩)), (14, .slice (some ⟨s.2, 0, none⟩) 2 2)]) (fun s w' => TwoNew w3.drew [a1_0, a1_1] s.1 s.2 w') ?_ ?_
    rotate_left
    · intro hCont
      refine twq 0 5 9 14 14 159 190 (fun K hK => ?_) (fun K hK => ?_)
      · refine vq ?_
        refine hK.out _ _ ⟨pw_cell_below (allocB w3.drew _) ((blk_cell HC0.out 0).trans rfl), pw_cell_below (allocB w3.drew _) ((blk_cell HC0.out 1).trans rfl), pw_cell_below (allocB w3.drew _) ((blk_cell HL0.out 0).trans rfl), pw_cell_below (allocB w3.drew _) ((blk_cell HL0.out 1).trans rfl), pw_cell_below (allocB w3.drew _) ((blk_cell HL0.out 2).trans rfl), pw_cell_below (allocB w3.drew _) ((blk_cell HL0.out 3).trans rfl), pw_cell_below (allocB w3.drew _) ((blk_cell HL0.out 4).trans rfl), pw_cell_below (allocB w3.drew _) ((blk_cell HL0.out 5).trans rfl), pw_cell_below (allocB w3.drew _) ((blk_cell HL0.out 6).trans rfl), pw_cell_below (allocB w3.drew _) ((blk_cell HL0.out 7).trans rfl), pw_cell_below (allocB w3.drew _) ((blk_cell HL0.out 8).trans rfl), pw_cell_below (allocB w3.drew _) ((blk_cell HL0.out 9).trans rfl), pw_cell_below (allocB w3.drew _) ((blk_cell HL0.out 10).trans rfl)⟩ (fun hHeld => ?_)
        clear hK K
        refine nx 9 ?_
        refine oq 5 14 14 191 (fun K hK => ?_)
        refine vq ?_
        refine hK.out _ _ ⟨pw_cell_below (allocB _ _) (pw_cell_below (allocB w3.drew _) ((blk_cell HC0.out 0).trans rfl)), pw_cell_below (allocB _ _) (pw_cell_below (allocB w3.drew _) ((blk_cell HC0.out 1).trans rfl)), pw_cell_below (allocB _ _) (pw_cell_below (allocB w3.drew _) ((blk_cell HL0.out 0).trans rfl)), pw_cell_below (allocB _ _) (pw_cell_below (allocB w3.drew _) ((blk_cell HL0.out 1).trans rfl)), pw_cell_below (allocB _ _) (pw_cell_below (allocB w3.drew _) ((blk_cell HL0.out 2).trans rfl)), pw_cell_below (allocB _ _) (pw_cell_below (allocB w3.drew _) ((blk_cell HL0.out 3).trans rfl)), pw_cell_below (allocB _ _) (pw_cell_below (allocB w3.drew _) ((blk_cell HL0.out 4).trans rfl)), pw_cell_below (allocB _ _) (pw_cell_below (allocB w3.drew _) ((blk_cell HL0.out 5).trans rfl)), pw_cell_below (allocB _ _) (pw_cell_below (allocB w3.drew _) ((blk_cell HL0.out 6).trans rfl)), pw_cell_below (allocB _ _) (pw_cell_below (allocB w3.drew _) ((blk_cell HL0.out 7).trans rfl)), pw_cell_below (allocB _ _) (pw_cell_below (allocB w3.drew _) ((blk_cell HL0.out 8).trans rfl)), pw_cell_below (allocB _ _) (pw_cell_below (allocB w3.drew _) ((blk_cell HL0.out 9).trans rfl)), pw_cell_below (allocB _ _) (pw_cell_below (allocB w3.drew _) ((blk_cell HL0.out 10).trans rfl))⟩ (fun hHeld => ?_)
        clear hK K
        refine nx 14 ?_
        exact norm_ (by simp only [putAll, Act.put, List.setIfInBounds_toArray, List.set_cons_zero, List.set_cons_succ]) (hCont (w3.heap.size, w3.heap.size + 1) _ (two_a [a1_0, a1_1] w3.drew))
      · refine vq ?_
        refine hK.out _ _ ⟨pw_cell_below (allocB w3.drew _) ((blk_cell HC0.out 0).trans rfl), pw_cell_below (allocB w3.drew _) ((blk_cell HC0.out 1).trans rfl), pw_cell_below (allocB w3.drew _) ((blk_cell HL0.out 0).trans rfl), pw_cell_below (allocB w3.drew _) ((blk_cell HL0.out 1).trans rfl), pw_cell_below (allocB w3.drew _) ((blk_cell HL0.out 2).trans rfl), pw_cell_below (allocB w3.drew _) ((blk_cell HL0.out 3).trans rfl), pw_cell_below (allocB w3.drew _) ((blk_cell HL0.out 4).trans rfl), pw_cell_below (allocB w3.drew _) ((blk_cell HL0.out 5).trans rfl), pw_cell_below (allocB w3.drew _) ((blk_cell HL0.out 6).trans rfl), pw_cell_below (allocB w3.drew _) ((blk_cell HL0.out 7).trans rfl), pw_cell_below (allocB w3.drew _) ((blk_cell HL0.out 8).trans rfl), pw_cell_below (allocB w3.drew _) ((blk_cell HL0.out 9).trans rfl), pw_cell_below (allocB w3.drew _) ((blk_cell HL0.out 10).trans rfl)⟩ (fun hHeld => ?_)
        clear hK K
        refine nx 14 ?_
        refine oq 0 9 14 191 (fun K hK => ?_)
        refine vq ?_
        refine hK.out _ _ ⟨pw_cell_below (allocB _ _) (pw_cell_below (allocB w3.drew _) ((blk_cell HC0.out 0).trans rfl)), pw_cell_below (allocB _ _) (pw_cell_below (allocB w3.drew _) ((blk_cell HC0.out 1).trans rfl)), pw_cell_below (allocB _ _) (pw_cell_below (allocB w3.drew _) ((blk_cell HL0.out 0).trans rfl)), pw_cell_below (allocB _ _) (pw_cell_below (allocB w3.drew _) ((blk_cell HL0.out 1).trans rfl)), pw_cell_below (allocB _ _) (pw_cell_below (allocB w3.drew _) ((blk_cell HL0.out 2).trans rfl)), pw_cell_below (allocB _ _) (pw_cell_below (allocB w3.drew _) ((blk_cell HL0.out 3).trans rfl)), pw_cell_below (allocB _ _) (pw_cell_below (allocB w3.drew _) ((blk_cell HL0.out 4).trans rfl)), pw_cell_below (allocB _ _) (pw_cell_below (allocB w3.drew _) ((blk_cell HL0.out 5).trans rfl)), pw_cell_below (allocB _ _) (pw_cell_below (allocB w3.drew _) ((blk_cell HL0.out 6).trans rfl)), pw_cell_below (allocB _ _) (pw_cell_below (allocB w3.drew _) ((blk_cell HL0.out 7).trans rfl)), pw_cell_below (allocB _ _) (pw_cell_below (allocB w3.drew _) ((blk_cell HL0.out 8).trans rfl)), pw_cell_below (allocB _ _) (pw_cell_below (allocB w3.drew _) ((blk_cell HL0.out 9).trans rfl)), pw_cell_below (allocB _ _) (pw_cell_below (allocB w3.drew _) ((blk_cell HL0.out 10).trans rfl))⟩ (fun hHeld => ?_)
        clear hK K
        refine nx 9 ?_
        exact norm_ (by simp only [putAll, Act.put, List.setIfInBounds_toArray, List.set_cons_zero, List.set_cons_succ]) (hCont (w3.heap.size + 1, w3.heap.size) _ (two_b [a1_0, a1_1] w3.drew))
    rintro ⟨g, b⟩ w4 hh
    have HH4 := Lib.hid (show TwoNew w3.drew [a1_0, a1_1] g b w4 from hh)
    clear hh
    have hHeld : w4.cell? ⟨gc, 0, none⟩ = some (.int .i64 a1_0) ∧ w4.cell? ⟨gc, 1, none⟩ = some (.int .i64 a1_1) ∧ w4.cell? ⟨gl, 0, none⟩ = some (.int .i64 a0_0) ∧ w4.cell? ⟨gl, 1, none⟩ = some (.int .i64 a0_1) ∧ w4.cell? ⟨gl, 2, none⟩ = some (.int .i64 a0_2) ∧ w4.cell? ⟨gl, 3, none⟩ = some (.int .i64 a0_3) ∧ w4.cell? ⟨gl, 4, none⟩ = some (.int .i64 a0_4) ∧ w4.cell? ⟨gl, 5, none⟩ = some (.int .i64 a0_5) ∧ w4.cell? ⟨gl, 6, none⟩ = some (.int .i64 a0_6) ∧ w4.cell? ⟨gl, 7, none⟩ = some (.int .i64 a0_7) ∧ w4.cell? ⟨gl, 8, none⟩ = some (.int .i64 a0_8) ∧ w4.cell? ⟨gl, 9, none⟩ = some (.int .i64 a0_9) ∧ w4.cell? ⟨gl, 10, none⟩ = some (.slice A0_10 n0_10 c0_10) := ⟨pw_cell_below HH4.out.1 ((blk_cell HC0.out 0).trans rfl), pw_cell_below HH4.out.1 ((blk_cell HC0.out 1).trans rfl), pw_cell_below HH4.out.1 ((blk_cell HL0.out 0).trans rfl), pw_cell_below HH4.out.1 ((blk_cell HL0.out 1).trans rfl), pw_cell_below HH4.out.1 ((blk_cell HL0.out 2).trans rfl), pw_cell_below HH4.out.1 ((blk_cell HL0.out 3).trans rfl), pw_cell_below HH4.out.1 ((blk_cell HL0.out 4).trans rfl), pw_cell_below HH4.out.1 ((blk_cell HL0.out 5).trans rfl), pw_cell_below HH4.out.1 ((blk_cell HL0.out 6).trans rfl), pw_cell_below HH4.out.1 ((blk_cell HL0.out 7).trans rfl), pw_cell_below HH4.out.1 ((blk_cell HL0.out 8).trans rfl), pw_cell_below HH4.out.1 ((blk_cell HL0.out 9).trans rfl), pw_cell_below HH4.out.1 ((blk_cell HL0.out 10).trans rfl)⟩
    refine ny ?_
    refine oq 6 15 14 255 (fun K hK => ?_)
    refine gq Tryz.func46 #[.pointer (some ⟨g, 0, none⟩), .int .i64 5, .slice (some ⟨b, 0, none⟩) 2 2] ?_
    with_reducible refine ((two_num 5 5 2 2 HH4.out rfl rfl (by decide) (by decide) (by simp) (ok5 HO.out))).mono ?_
    rintro e w5 ⟨rfl, hw5, hb5⟩
    refine ⟨_, rfl, ?_⟩
    have HW5 := Lib.hid hw5
    have HE5 := Lib.hid hb5
    clear hw5 hb5
    refine hK.out _ _ ⟨pw_cell_below HE5.out ((blk_cell HC0.out 0).trans rfl), pw_cell_below HE5.out ((blk_cell HC0.out 1).trans rfl), pw_cell_below HE5.out ((blk_cell HL0.out 0).trans rfl), pw_cell_below HE5.out ((blk_cell HL0.out 1).trans rfl), pw_cell_below HE5.out ((blk_cell HL0.out 2).trans rfl), pw_cell_below HE5.out ((blk_cell HL0.out 3).trans rfl), pw_cell_below HE5.out ((blk_cell HL0.out 4).trans rfl), pw_cell_below HE5.out ((blk_cell HL0.out 5).trans rfl), pw_cell_below HE5.out ((blk_cell HL0.out 6).trans rfl), pw_cell_below HE5.out ((blk_cell HL0.out 7).trans rfl), pw_cell_below HE5.out ((blk_cell HL0.out 8).trans rfl), pw_cell_below HE5.out ((blk_cell HL0.out 9).trans rfl), pw_cell_below HE5.out ((blk_cell HL0.out 10).trans rfl)⟩ (fun hHeld => ?_)
    clear hK K
    refine nx 15 ?_
    refine oq 8 17 14 511 (fun K hK => ?_)
    refine gq Tryz.func38 #[.agg #[.int .i64 a0_0, .int .i64 a0_1, .int .i64 a0_2, .int .i64 a0_3, .int .i64 a0_4, .int .i64 a0_5, .int .i64 a0_6, .int .i64 a0_7, .int .i64 a0_8, .int .i64 a0_9, .slice A0_10 n0_10 c0_10]] ?_
    with_reducible refine ((Payload_call HT.out HTn.out HTc.out HZ.out (below_step HB0.out HE5.out))).mono ?_
    rintro e w6 ⟨rfl, hb6⟩
    refine ⟨_, rfl, ?_⟩
    have HW6 := Lib.hid (HW5.out.below hb6)
    have HE6 := Lib.hid (HE5.out.trans (hb6.mono HE5.out.size))
    clear hb6
    refine hK.out _ _ ⟨pw_cell_below HE6.out ((blk_cell HC0.out 0).trans rfl), pw_cell_below HE6.out ((blk_cell HC0.out 1).trans rfl), pw_cell_below HE6.out ((blk_cell HL0.out 0).trans rfl), pw_cell_below HE6.out ((blk_cell HL0.out 1).trans rfl), pw_cell_below HE6.out ((blk_cell HL0.out 2).trans rfl), pw_cell_below HE6.out ((blk_cell HL0.out 3).trans rfl), pw_cell_below HE6.out ((blk_cell HL0.out 4).trans rfl), pw_cell_below HE6.out ((blk_cell HL0.out 5).trans rfl), pw_cell_below HE6.out ((blk_cell HL0.out 6).trans rfl), pw_cell_below HE6.out ((blk_cell HL0.out 7).trans rfl), pw_cell_below HE6.out ((blk_cell HL0.out 8).trans rfl), pw_cell_below HE6.out ((blk_cell HL0.out 9).trans rfl), pw_cell_below HE6.out ((blk_cell HL0.out 10).trans rfl)⟩ (fun hHeld => ?_)
    clear hK K
    refine nx 17 ?_
    refine oq 9 18 14 1023 (fun K hK => ?_)
    refine gq Tryz.func70 #[.pointer (some ⟨g, 0, none⟩), .int .i64 (a0_1 * 38)] ?_
    with_reducible refine ((Sealed_z HW6.out HZ.out (by simp [bes_length]))).mono ?_
    rintro e w7 ⟨v7, rfl, hv7, hb7⟩
    refine ⟨_, rfl, ?_⟩
    have HV7 := Lib.hid hv7
    have HE7 := Lib.hid (HE6.out.trans (hb7.mono HE6.out.size))
    have HS6 := Lib.hid HE6.out.size
    clear hb7 hv7
    refine hK.out _ _ ⟨pw_cell_below HE7.out ((blk_cell HC0.out 0).trans rfl), pw_cell_below HE7.out ((blk_cell HC0.out 1).trans rfl), pw_cell_below HE7.out ((blk_cell HL0.out 0).trans rfl), pw_cell_below HE7.out ((blk_cell HL0.out 1).trans rfl), pw_cell_below HE7.out ((blk_cell HL0.out 2).trans rfl), pw_cell_below HE7.out ((blk_cell HL0.out 3).trans rfl), pw_cell_below HE7.out ((blk_cell HL0.out 4).trans rfl), pw_cell_below HE7.out ((blk_cell HL0.out 5).trans rfl), pw_cell_below HE7.out ((blk_cell HL0.out 6).trans rfl), pw_cell_below HE7.out ((blk_cell HL0.out 7).trans rfl), pw_cell_below HE7.out ((blk_cell HL0.out 8).trans rfl), pw_cell_below HE7.out ((blk_cell HL0.out 9).trans rfl), pw_cell_below HE7.out ((blk_cell HL0.out 10).trans rfl)⟩ (fun hHeld => ?_)
    clear hK K
    refine nx 18 ?_
    refine pq 10 19 14 2047 ?_
    refine pq 11 20 14 4095 ?_
    refine pq 12 4 14 8191 ?_
    refine pq 13 5 14 16383 ?_
    refine done_ (by kernel_rfl) ?_
    have hF := HF.out
    rw [HO.out] at hF
    simp only [if_true, Option.some.injEq, Prod.mk.injEq] at hF
    obtain ⟨rfl, rfl⟩ := hF
    go_wp2
    refine bodyPost_ret (v := .tuple #[v7, .int .i64 0]) ?_ rfl ?_
    · simp [results, Tryz.results22, go_sem]
    · exact ⟨_, rfl, R_low HV7.out (below_step HB0.out HE6.out).size, below_step HB0.out HE7.out⟩
end Go.Proofs.YtmbnomlkhmcmaaaGreat.A
end
section
namespace Go.Proofs.YtmbnomlkhmcmaaaGreat.A
open Go.RowKit Go.Shelf Go.Proofs.YtmbnomlkhmcmaaaGreatW.PrintWords Go.Proofs.YtmbnomlkhmcmaaaGreatW.PrintLast Go.Proofs.YtmbnomlkhmcmaaaGreat.B
set_option linter.unusedVariables false
set_option linter.unusedSimpArgs false
def Sw (w0 : World) (g : Nat) (xs : List Int) (rows : List (Nat × Obj)) (w : World) : Prop :=
  Sr w0 rows w ∧ WR w g (fun k => ∃ o, (k, o) ∈ rows) xs ∧ w0.heap.size ≤ g
section
variable {w0 w w' : World} {g : Nat} {xs : List Int} {rows rows' : List (Nat × Obj)}
theorem Sr.wr (h : Sr w0 rows w) : Sw w0 w.heap.size [] rows (w.alloc wro) := by
  refine ⟨h.below (allocB w wro), ⟨.slice none 0 0, heap_top w wro, Kd.R_nil _ _ _ _ _, (fun _ h => by cases h), fun k hk => ?_⟩, h.1.size⟩
  obtain ⟨o, hk⟩ := hk
  have := h.lt hk
  rw [size_alloc]
  exact ⟨by omega, by omega⟩
theorem Sw.less (h : Sw w0 g xs rows w) (hr : ∀ r ∈ rows', r ∈ rows) : Sw w0 g xs rows' w :=
  ⟨h.1.less hr, h.2.1.less (fun k ⟨o, ho⟩ => ⟨o, hr _ ho⟩), h.2.2⟩
theorem Sw.below (h : Sw w0 g xs rows w) (hb : Below w.heap.size w w') : Sw w0 g xs rows w' := ⟨h.1.below hb, h.2.1.below hb, h.2.2⟩
theorem Sw.row (h : Sw w0 g xs rows w) (o : Obj) : Sw w0 g xs ((w.heap.size, o) :: rows) (w.alloc o) := by
  refine ⟨h.1.row o, ?_, h.2.2⟩
  refine (h.2.1.later (allocB w o)).less fun k ⟨o', ho⟩ => ?_
  rcases List.mem_cons.1 ho with e | ho
  · injection e with e1 e2
    subst e1
    exact .inr ⟨Nat.le_refl _, by rw [size_alloc]; omega⟩
  · exact .inl ⟨o', ho⟩
theorem Sw.ef (h : Sw w0 g xs rows w) {ys : List Int} (hw : WR w' g (fun k => ∃ o, (k, o) ∈ rows) ys) (he : Ef g (fun k => ∃ o, (k, o) ∈ rows) w w') : Sw w0 g ys rows w' :=
  ⟨⟨h.1.1.trans (he.1.mono h.2.2), fun r hr => ⟨(h.1.2 r hr).1, (he.2 r.1 ⟨r.2, hr⟩).trans (h.1.2 r hr).2⟩⟩, hw, h.2.2⟩
theorem Sw.num (width : Nat) (wi : Int) (l : List Int) (b n c : Nat) (h : Sw w0 g xs rows w) (hwi : (width : Int) = wi) (hn : l.length = n) (hr : (b, rowo l) ∈ rows) (h1 : 1 ≤ width) (h2 : width ≤ 7) (hl : l.length ≤ 300) (hok : ∀ n ∈ l, okN width n) (hx : xs.length ≤ 2147483648) :
    Calls Tryz.prog 46 #[.pointer (some ⟨g, 0, none⟩), .int .i64 wi, .slice (some ⟨b, 0, none⟩) n c] w fun e w' => e = .returned (.pointer (some ⟨g, 0, none⟩)) ∧ Sw w0 g (xs ++ bes width l) rows w' := by
  subst hwi hn
  refine (Num_call width l (some ⟨b, 0, none⟩) c g _ xs w h.2.1 h1 h2 hok (fun W hW => C_ints (by rw [hW.2 b ⟨_, hr⟩]; exact (h.1.2 _ hr).2) (by omega)) hl hx).mono ?_
  rintro e w' ⟨rfl, hw', he⟩
  exact ⟨rfl, h.ef hw' he⟩
theorem Sw.raw (ys : List Int) (A : Option Addr) (c b k : Nat) (t : TypeId) (h : Sw w0 g xs rows w) (hr : w.heap[b]? = some (.cells #[.slice A ys.length c] t (0, 0))) (hC : Kd.C (Kd.int .u8) w A ys.length ys) (hy : ys.length ≤ 1048576) (hx : xs.length ≤ 2147483648) :
    Calls Tryz.prog 47 #[.pointer (some ⟨g, 0, none⟩), .slice (some ⟨b, 0, none⟩) 1 k] w fun e w' => e = .returned (.pointer (some ⟨g, 0, none⟩)) ∧ Sw w0 g (xs ++ ys) rows w' := by
  refine (Raw_call b A ys c k g _ xs w h.2.1 ((blk_cell hr 0).trans rfl) hC hy hx).mono ?_
  rintro e w' ⟨rfl, hw', he⟩
  exact ⟨rfl, h.ef hw' he⟩
end
end Go.Proofs.YtmbnomlkhmcmaaaGreat.A
end
section
namespace Go.Proofs.YtmbnomlkhmcmaaaGreat.A
open Go.RowKit Go.Shelf Go.Proofs.YtmbnomlkhmcmaaaGreatW.PrintWords Go.Proofs.YtmbnomlkhmcmaaaGreatW.PrintLast Go.Proofs.YtmbnomlkhmcmaaaGreat.B
set_option linter.unusedVariables false
set_option linter.unusedSimpArgs false
section
variable {w0 w w' : World} {rows : List (Nat × Obj)}
theorem Sw.box {gw : Nat} {xs : List Int} (h : Sw w0 gw xs rows w) {g : Nat} {o : Obj} (hg : g = w.heap.size) (ho : w'.heap[g]? = some o) (hb : Below w.heap.size w w') : Sw w0 gw xs ((g, o) :: rows) w' := by
  refine ⟨h.1.box hg ho hb, ?_, h.2.2⟩
  have hlt := (Array.getElem?_eq_some_iff.1 ho).1
  refine (h.2.1.later hb).less fun k ⟨o', hk⟩ => ?_
  rcases List.mem_cons.1 hk with e | hk
  · injection e with e1 e2
    subst e1
    exact .inr ⟨by omega, hlt⟩
  · exact .inl ⟨o', hk⟩
theorem Sw.sr {g : Nat} {xs : List Int} (h : Sw w0 g xs rows w) : Sr w0 rows w := h.1
theorem Sw.bel {g : Nat} {xs : List Int} (h : Sw w0 g xs rows w) : Below w0.heap.size w0 w := h.1.1
theorem Sw.wt {g : Nat} {xs : List Int} (h : Sw w0 g xs rows w) : WR w g (fun k => ∃ o, (k, o) ∈ rows) xs := h.2.1
end
end Go.Proofs.YtmbnomlkhmcmaaaGreat.A
end
section
namespace Go.Proofs.YtmbnomlkhmcmaaaGreat.A
open Go.RowKit Go.Shelf Go.Proofs.YtmbnomlkhmcmaaaGreatW.PrintWords Go.Proofs.YtmbnomlkhmcmaaaGreatW.PrintLast Go.Proofs.YtmbnomlkhmcmaaaGreat.B
set_option linter.unusedVariables false
set_option linter.unusedSimpArgs false
abbrev zobj (n : Nat) : Obj := .cells (zer n) 5
abbrev part (A : Option Addr) (n c : Nat) : Obj := .cells #[.slice A n c] 29
theorem C_zer {W : World} {b n : Nat} (hh : W.heap[b]? = some (zobj n)) (hl : n ≤ 1048576) : Kd.C (Kd.int .u8) W (some ⟨b, 0, none⟩) (List.replicate n (0 : Int)).length (List.replicate n 0) := by
  refine ⟨rfl, by simp; omega, fun _ => ⟨_, rfl, fun j p hj => ⟨_, rfl, rfl, fun i u hu => ?_⟩⟩⟩
  have hj0 : j < n := by have := (List.getElem?_eq_some_iff.1 hj).1; simpa using this
  have hp : p = 0 := by
    obtain ⟨h1, h2⟩ := List.getElem?_eq_some_iff.1 hj
    rw [← h2, List.getElem_replicate]
  subst hp
  have hc := cell_at hh j (v := .int .u8 0) (by simp [zer, hj0])
  match i, hu with
  | 0, hu =>
    obtain rfl : Value.int .u8 0 = u := by simpa using hu
    show W.cell? (((⟨b, 0, none⟩ : Addr).add (j * 1)).add 0) = _
    rw [Nat.mul_one]
    rcases j with _ | j <;> simpa [Addr.add] using hc
theorem zeros_run (n : Nat) (hn : n ≤ 1048576) (w : World) : Calls Tryz.prog 48 #[.int .i64 n] w fun e w' => e = .returned (.slice (some ⟨w.heap.size, 0, none⟩) n n) ∧ w' = w.alloc (zobj n) := by
  have hmk := make_zer n hn
  have hb0 : (0 : Int) ≤ (n : Int) := by omega
  go_enter Tryz.func48, Tryz.ntmps48
  go_wp2
  go_ret
  exact ⟨rfl, rfl⟩
section
variable {w0 w w' : World} {g : Nat} {xs : List Int} {rows : List (Nat × Obj)}
theorem Sw.zeros (h : Sw w0 g xs rows w) (n : Int) (k : Nat) (hk : n = k) (hn : n ≤ 1048576) :
    Calls Tryz.prog 48 #[.int .i64 n] w fun e w' => ∃ b, e = .returned (.slice (some ⟨b, 0, none⟩) k k) ∧ Sw w0 g xs ((b, zobj k) :: rows) w' := by
  subst hk
  refine (zeros_run k (by omega) w).mono ?_
  rintro e w' ⟨rfl, rfl⟩
  exact ⟨_, rfl, h.row _⟩
theorem Sw.rawz (h : Sw w0 g xs rows w) (b b' n k : Nat) (hr : (b', part (some ⟨b, 0, none⟩) n n) ∈ rows) (hz : (b, zobj n) ∈ rows) (hn : n ≤ 1048576) (hx : xs.length ≤ 2147483648) :
    Calls Tryz.prog 47 #[.pointer (some ⟨g, 0, none⟩), .slice (some ⟨b', 0, none⟩) 1 k] w fun e w' => e = .returned (.pointer (some ⟨g, 0, none⟩)) ∧ Sw w0 g (xs ++ List.replicate n 0) rows w' := by
  have hC := C_zer (h.1.2 _ hz).2 hn
  exact Sw.raw (List.replicate n 0) (some ⟨b, 0, none⟩) n b' k 29 h (by rw [List.length_replicate]; exact (h.1.2 _ hr).2) hC (by simpa using hn) hx
end
end Go.Proofs.YtmbnomlkhmcmaaaGreat.A
end
