/- Part of the proof of LawCkptWrites. -/
import Derived.Test.YtmbnomlkhmcmaaaGreatZ0
import Derived.Deep.DeepCutAuto
import Derived.Deep.RegionWith
import Derived.Laws.CopyOwn
import Derived.Laws.NewBlocks
import Derived.Lib.Hide
import Derived.Outline
import Derived.Test.YtmbnomlkhmcmaaaGreatProg
import Derived.WalkLawsBesides
section
namespace Go.Proofs.YtmbnomlkhmcmaaaGreat.A
open Go.RowKit Go.Shelf Go.Proofs.YtmbnomlkhmcmaaaGreatW.PrintWords Go.Proofs.YtmbnomlkhmcmaaaGreatW.PrintLast Go.Proofs.YtmbnomlkhmcmaaaGreat.Z
set_option linter.unusedVariables false
set_option linter.unusedSimpArgs false
theorem heap_top (w : World) (o : Obj) : (w.alloc o).heap[w.heap.size]? = some o := (MapKept.heap_alloc w o).1
theorem allocB (w : World) (o : Obj) : Below w.heap.size w (w.alloc o) := (Below.refl _ w).alloc (Nat.le_refl _) o
theorem drewB (w : World) : Below w.heap.size w w.drew := ⟨rfl, rfl, rfl, Nat.le_refl _, fun _ _ => rfl⟩
theorem kept_at {w w1 : World} (h : Below w.heap.size w w1) {b : Nat} {o : Obj} (ho : w.heap[b]? = some o) : w1.heap[b]? = some o :=
  (h.block b (Array.getElem?_eq_some_iff.1 ho).1).trans ho
theorem kept_lo {w w1 : World} {B : Nat} (h : Below B w w1) {b : Nat} (hb : b < B) {o : Obj} (ho : w.heap[b]? = some o) : w1.heap[b]? = some o :=
  (h.block b hb).trans ho
theorem cell_at {w : World} {b : Nat} {cs : Array Value} {t : TypeId} (h : w.heap[b]? = some (.cells cs t (0, 0))) (j : Nat) {v : Value} (hj : cs[j]? = some v) : w.cell? ⟨b, j, none⟩ = some v := by
  simp only [World.cell?, h]
  exact hj
theorem frozen_at {w : World} {b : Nat} {cs : Array Value} {t : TypeId} (h : w.heap[b]? = some (.cells cs t (0, 0))) (j : Nat) : w.frozen? ⟨b, j, none⟩ = false := by simp [World.frozen?, h]
theorem set_size (w : World) (p : Addr) (u : Value) : (w.setCell p u).heap.size = w.heap.size := by simp [World.setCell]
theorem u8_one {W : World} {b : Nat} {x : Int} {t : TypeId} (h : W.heap[b]? = some (.cells #[.int .u8 x] t (0, 0))) : Kd.C (Kd.int .u8) W (some ⟨b, 0, none⟩) 1 [x] := by
  refine ⟨rfl, by decide, fun _ => ⟨_, rfl, fun j p hj => ?_⟩⟩
  match j, hj with
  | 0, hj =>
    obtain rfl : x = p := by simpa using hj
    refine ⟨[.int .u8 x], rfl, rfl, fun l u hu => ?_⟩
    match l, hu with
    | 0, hu =>
      obtain rfl : Value.int .u8 x = u := by simpa using hu
      exact cell_at h 0 rfl
theorem infou8 : (Tryz.prog.info? 5).map (fun i => (i.zero, i.size, i.bytes)) = some (some (.int .u8 0), 1, 1) := by kernel_rfl
theorem u8_KM {W : World} {base : Nat} {ok : Nat → Prop} : ∀ x cs, (Kd.int .u8).K W x cs → (Kd.int .u8).M W base ok x cs := fun x cs h => h
def WR (w : World) (g : Nat) (Z : Nat → Prop) (xs : List Int) : Prop :=
  ∃ v, w.heap[g]? = some (.cells #[v, .bool false] 122 (0, 0)) ∧ Kd.R (Kd.int .u8) 5 w (g + 1) (fun _ => True) v xs ∧ (∀ k, v.ownBlock = some k → ¬ Z k) ∧ ∀ k, Z k → k < w.heap.size ∧ k ≠ g
def Ef (g : Nat) (Z : Nat → Prop) (w w' : World) : Prop := Below g w w' ∧ ∀ k, Z k → w'.heap[k]? = w.heap[k]?
theorem Ef.refl (g : Nat) (Z : Nat → Prop) (w : World) : Ef g Z w w := ⟨Below.refl _ _, fun _ _ => rfl⟩
theorem Ef.trans {g : Nat} {Z : Nat → Prop} {w w1 w2 : World} (h : Ef g Z w w1) (k : Ef g Z w1 w2) : Ef g Z w w2 := ⟨h.1.trans k.1, fun j hj => (k.2 j hj).trans (h.2 j hj)⟩
section
variable {w w1 : World} {g : Nat} {Z : Nat → Prop} {xs : List Int}
theorem WR.lt (h : WR w g Z xs) : g < w.heap.size := by
  obtain ⟨v, h, _⟩ := h
  exact (Array.getElem?_eq_some_iff.1 h).1
theorem WR.below (h : WR w g Z xs) (hb : Below w.heap.size w w1) : WR w1 g Z xs := by
  obtain ⟨v, h1, h2, h3, h4⟩ := h
  exact ⟨v, kept_at hb h1, Kd.R_below h2 hb, h3, fun k hk => ⟨Nat.lt_of_lt_of_le (h4 k hk).1 hb.size, (h4 k hk).2⟩⟩
theorem WR.less (h : WR w g Z xs) {Z' : Nat → Prop} (hZ : ∀ k, Z' k → Z k) : WR w g Z' xs := by
  obtain ⟨v, h1, h2, h3, h4⟩ := h
  exact ⟨v, h1, h2, fun k hk hz => h3 k hk (hZ k hz), fun k hk => h4 k (hZ k hk)⟩
theorem WR.later (h : WR w g Z xs) (hb : Below w.heap.size w w1) : WR w1 g (fun k => Z k ∨ (w.heap.size ≤ k ∧ k < w1.heap.size)) xs := by
  obtain ⟨v, h1, h2, h3, h4⟩ := h
  obtain ⟨inner, ho⟩ := Kd.R_own h2
  refine ⟨v, kept_at hb h1, Kd.R_below h2 hb, fun k hk hz => ?_, fun k hk => ?_⟩
  · rcases hz with hz | hz
    · exact h3 k hk hz
    · have := own_lt ho k hk; omega
  · rcases hk with hk | hk
    · exact ⟨Nat.lt_of_lt_of_le (h4 k hk).1 hb.size, (h4 k hk).2⟩
    · have := (Array.getElem?_eq_some_iff.1 h1).1
      exact ⟨hk.2, by omega⟩
theorem WR.open (h : WR w g Z xs) : ∃ A c, w.heap[g]? = some (.cells #[.slice A xs.length c, .bool false] 122 (0, 0)) ∧ Kd.R (Kd.int .u8) 5 w (g + 1) (fun _ => True) (.slice A xs.length c) xs ∧ (∀ k, (Value.slice A xs.length c).ownBlock = some k → ¬ Z k) ∧ ∀ k, Z k → k < w.heap.size ∧ k ≠ g := by
  obtain ⟨v, h1, h2, h3⟩ := h
  obtain ⟨A, c, rfl⟩ := Kd.R_slice h2
  exact ⟨A, c, h1, h2, h3⟩
theorem WR.lay {v0 v : Value} {zs : List Int} (h1 : w.heap[g]? = some (.cells #[v0, .bool false] 122 (0, 0))) (hR : Kd.R (Kd.int .u8) 5 w (g + 1) (fun _ => True) v zs) (h3 : ∀ k, v.ownBlock = some k → ¬ Z k) (h4 : ∀ k, Z k → k < w.heap.size ∧ k ≠ g) : WR (w.setCell ⟨g, 0, none⟩ v) g Z zs := by
  refine ⟨v, ?_, ?_, h3, fun k hk => by rw [set_size]; exact h4 k hk⟩
  · simp [World.setCell, Array.getElem?_modify, h1]
  · obtain ⟨h0, inner, ho, hr2⟩ := hR
    exact ⟨h0, inner, own_move ho (fun k hk => Below.heap_setCell _ _ _ k (by have := own_base ho k hk; show k ≠ g; omega)), hr2⟩
theorem WR.new (w : World) : WR (w.alloc (.cells #[.slice none 0 0, .bool false] 122)) w.heap.size (fun _ => False) [] := ⟨_, heap_top w _, Kd.R_nil _ _ _ _ _, fun _ _ h => h, fun _ h => h.elim⟩
theorem grown_in {W : World} {r : Option Nat} (hb : Below w.heap.size w W) (h : W.grownBy w1 r) : w.grownBy w1 r :=
  ⟨h.os.trans hb.os, h.tape.trans hb.tape, h.output.trans hb.output, Nat.le_trans hb.size h.size, fun k hk hn => (h.block k (Nat.lt_of_lt_of_le hk hb.size) hn).trans (hb.block k hk)⟩
theorem own_fresh {v v1 : Value} {W : World} (hb : Below w.heap.size w W) (hn : v1.ownBlock = v.ownBlock ∨ ∃ b, v1.ownBlock = some b ∧ W.heap.size ≤ b) (hv : ∀ k, v.ownBlock = some k → ¬ Z k) (hz : ∀ k, Z k → k < w.heap.size ∧ k ≠ g) : ∀ k, v1.ownBlock = some k → ¬ Z k := fun k hk hZ => by
  rcases hn with h | ⟨b, h, h2⟩
  · exact hv k (h.symm.trans hk) hZ
  · rw [h] at hk
    injection hk with hk
    have := (hz k hZ).1
    have := hb.size
    omega
theorem Ef.lay {v : Value} {r : Option Nat} (hb : Below (g + 1) w w1) (hg : w.grownBy w1 r) (hr : ∀ k, Z k → some k ≠ r) (h4 : ∀ k, Z k → k < w.heap.size ∧ k ≠ g) : Ef g Z w (w1.setCell ⟨g, 0, none⟩ v) :=
  ⟨(hb.mono (Nat.le_succ g)).setCell (p := ⟨g, 0, none⟩) (Nat.le_refl _) _, fun k hk => (Below.heap_setCell _ _ _ k (h4 k hk).2).trans (hg.block k (h4 k hk).1 (hr k hk))⟩
end
def be (width : Nat) (n : Int) : List Int := (List.range width).map fun j => IntKind.u8.wrap (n / 2 ^ (8 * (width - 1 - j)))
theorem be_length (width : Nat) (n : Int) : (be width n).length = width := by simp [be]
theorem be_take (width : Nat) (n : Int) (j : Nat) (hj : j < width) : (be width n).take (j + 1) = (be width n).take j ++ [IntKind.u8.wrap (n / 2 ^ (8 * (width - 1 - j)))] := by
  rw [List.take_add_one]
  simp [be, hj]
theorem may_call (width : Nat) (h1 : 1 ≤ width) (h2 : width ≤ 7) (w : World) :
    Calls Tryz.prog 134 #[.int .i64 width] w fun e w' => e = .returned (.bool true) ∧ w' = w := by
  have t1 : decide ((1 : Int) ≤ (width : Int)) = true := decide_eq_true (by omega)
  have t2 : decide ((width : Int) ≤ 7) = true := decide_eq_true (by omega)
  clear h1 h2
  go_enter Tryz.func134, Tryz.ntmps134
  go_wp2
  go_ret
  exact ⟨rfl, rfl⟩
theorem top_call (width : Nat) (h1 : 1 ≤ width) (h2 : width ≤ 7) (w : World) :
    Calls Tryz.prog 152 #[.int .i64 width] w fun e w' => e = .returned (.int .i64 (2 ^ (8 * width) - 1)) ∧ w' = w := by
  rcases (by omega : width = 1 ∨ width = 2 ∨ width = 3 ∨ width = 4 ∨ width = 5 ∨ width = 6 ∨ width = 7) with rfl | rfl | rfl | rfl | rfl | rfl | rfl
  all_goals
    clear h1 h2
    go_enter Tryz.func152, Tryz.ntmps152
    go_wp2
    go_ret
    exact ⟨rfl, rfl⟩
set_option maxHeartbeats 4000000 in
set_option maxRecDepth 100000 in
theorem num_call (width : Nat) (n : Int) (g : Nat) (Z : Nat → Prop) (xs : List Int) (w : World) (h : WR w g Z xs) (h1 : 1 ≤ width) (h2 : width ≤ 7) (h3 : -1 ≤ n) (h4 : n < 2 ^ (8 * width) - 1) (hl : xs.length ≤ 4294967296) :
    Calls Tryz.prog 135 #[.pointer (some ⟨g, 0, none⟩), .int .i64 width, .int .i64 n] w fun e w' => e = .returned (.tuple #[]) ∧ WR w' g Z (xs ++ be width n) ∧ Ef g Z w w' := by
  have H := Lib.hid h
  have t1 : decide (n < -1) = false := decide_eq_false (by omega)
  have t2 : decide (2 ^ (8 * width) - 1 ≤ n) = false := decide_eq_false (by omega)
  clear h h3 h4
  go_enter Tryz.func135, Tryz.ntmps135
  go_wp2_with fail
  refine (may_call width h1 h2 _).mono ?_
  rintro e w ⟨rfl, rfl⟩
  go_wp2_with fail
  refine (top_call width h1 h2 _).mono ?_
  rintro e w ⟨rfl, rfl⟩
  obtain ⟨tp, htp⟩ : ∃ tp : Int, 2 ^ (8 * width) - 1 = tp := ⟨_, rfl⟩
  rw [htp] at t2 ⊢
  clear htp
  go_wp2_with fail
  go_loopw [6] (fun i wr => ∃ j : Nat, j ≤ width ∧ i = .int .i64 ((width : Int) - 1 - j) ∧ Hid (WR wr g Z (xs ++ (be width n).take j)) ∧ Hid (Ef g Z w wr)) (fun i _ => (intOf i + 1).toNat)
  case atStart => exact ⟨0, Nat.zero_le _, by simp, by rw [List.take_zero, List.append_nil]; exact H.out, Ef.refl _ _ _⟩
  case round =>
    obtain ⟨j, hj, rfl, HW, HB⟩ := hrel
    obtain ⟨A, c, hh, hR, hv, hz⟩ := HW.out.open
    have hlen : (xs ++ (be width n).take j).length = xs.length + j := by simp [be_length]; omega
    obtain ⟨N0, hN0⟩ : ∃ N0 : Nat, (xs ++ (be width n).take j).length = N0 := ⟨_, rfl⟩
    rw [hN0] at hh hR hv
    have HV := Lib.hid hv
    have HZ := Lib.hid hz
    have q0 := cell_at hh 0 rfl
    have q1 := cell_at hh 1 rfl
    have HLen := Lib.hid hlen
    have HR := Lib.hid hR
    have HH := Lib.hid hh
    clear hR hh hlen hN0 hv hz
    by_cases hlt : j < width
    · obtain ⟨i, hi⟩ : ∃ i : Nat, (width : Int) - 1 - (j : Int) = (i : Int) := ⟨width - 1 - j, by omega⟩
      have hi2 : width - 1 - j = i := by omega
      have HBe := Lib.hid (be_take width n j hlt)
      rw [hi2] at HBe
      rw [hi]
      have HI := Lib.hid hi
      have hi6 : i ≤ 6 := by omega
      have b0 : decide ((0 : Int) ≤ (i : Int)) = true := decide_eq_true (by omega)
      have e1 : IntKind.i64.wrap (8 * (i : Int)) = 8 * (i : Int) := by simp [IntKind.wrap, IntKind.signed, IntKind.bits]; omega
      have e2 : (8 * (i : Int)).toNat = 8 * i := by omega
      have e3 : wrap64 (8 * (i : Int)) = 8 * (i : Int) := by unfold wrap64; omega
      have hgl := HW.out.lt
      have HBd := Lib.hid (drewB wr)
      clear hi hi2
      go_wp2_with fail
      refine start_ (n := 15) (S := fun w' => w'.cell? ⟨g, 0, none⟩ = some (.slice A N0 c)) (ds := [11, 14]) (bm 15 0) (by kernel_rfl) rfl rfl (pw_cell_below HBd.out q0) (fun hHeld => ?_)
      refine pq 0 36 15 1 ?_
      refine pq 1 37 15 3 ?_
      refine pq 2 38 15 7 ?_
      refine pq 3 39 15 15 ?_
      refine pq 5 41 15 47 ?_
      refine pq 6 42 15 111 ?_
      refine pq 7 43 15 239 ?_
      refine pq 8 44 15 495 ?_
      refine pq 9 45 15 1007 ?_
      refine tq 4 40 15 1023 hHeld ?_
      refine oq 10 46 15 2047 (fun K hK => ?_)
      refine vq ?_
      refine hK.out _ _ (pw_cell_below (drewB _) (pw_cell_below (allocB wr _) q0)) (fun hHeld => ?_)
      clear hK K
      refine nx 46 ?_
      refine last_ (i := 11) (N := some 47) (bm 15 4095) rfl rfl (by kernel_rfl) (by decide) (fun K hK => ?_)
      refine Kd.R_append_rows_step (Kd.int .u8) (w0 := wr) (g + 1) (by rfl) (.tmp 40) (.tmp 46) 29 5 (.int .u8 0) 1 rfl Tryz.underlying29 infou8 rfl (show 0 < 1 by omega) (by omega) (.slice A N0 c) (xs ++ (be width n).take j) [IntKind.u8.wrap (n / 2 ^ (8 * i))] (some ⟨wr.heap.size, 0, none⟩) 1 1 (fun _ => True) (fun _ => False) rfl rfl ?_ ?_ u8_KM (fun _ h_ => h_.elim) (fun _ _ => trivial) ?_ ?_ ?_ ?_
      · exact Kd.R_below (Kd.R_below HR.out (allocB wr _)) (drewB _)
      · exact u8_one (kept_at (drewB _) (heap_top wr _))
      · exact ((allocB wr _).trans ((drewB _).mono (allocB wr _).size)).mono hgl
      · simp; omega
      · rw [HLen.out]; omega
      intro v1 w1 ho hb hg hn
      obtain ⟨A1, c1, hv1⟩ := Kd.R_slice ho
      obtain ⟨N1, hN1⟩ : ∃ N1 : Nat, ((xs ++ (be width n).take j) ++ [IntKind.u8.wrap (n / 2 ^ (8 * i))]).length = N1 := ⟨_, rfl⟩
      rw [hN1] at hv1
      subst hv1
      have HR1 := Lib.hid ho
      have hal_ := (allocB wr (.cells #[.int .u8 (IntKind.u8.wrap (n / 2 ^ (8 * i)))] 5)).trans ((drewB _).mono (allocB wr (.cells #[.int .u8 (IntKind.u8.wrap (n / 2 ^ (8 * i)))] 5)).size)
      have HV1 := Lib.hid (own_fresh hal_ hn HV.out HZ.out)
      have HE1 := Lib.hid (Ef.lay (v := .slice A1 N1 c1) hb (grown_in hal_ hg) (fun k_ hk_ e_ => HV.out k_ e_.symm hk_) HZ.out)
      clear hal_
      have HB1 := Lib.hid hb
      have HH1 := Lib.hid (kept_lo hb (Nat.lt_succ_self g) HH.out)
      have z0 := cell_at HH1.out 0 rfl
      have f0 := frozen_at HH1.out 0
      clear ho hb hg hn hN1
      refine hK.out _ _ ?_
      clear hK K
      refine nx 47 ?_
      refine pq 12 48 15 8191 ?_
      refine pq 13 49 15 16383 ?_
      refine last_ (i := 14) (N := none) (bm 15 32767) rfl rfl (by kernel_rfl) (by decide) (fun K hK => ?_)
      refine skip_ (w1 := ?_) (by rfl) rfl ?_ ?_
      rotate_left
      · go_simp
        rfl
      refine hK.out _ _ ?_
      clear hK K
      refine done_ (by kernel_rfl) ?_
      go_wp2_with fail
      go_roundw
      case rel => exact ⟨j + 1, by omega, by have := HI.out; simp; omega, by rw [HBe.out, ← List.append_assoc]; exact WR.lay HH1.out HR1.out HV1.out (fun k hk => ⟨Nat.lt_of_lt_of_le (HZ.out k hk).1 HB1.out.size, (HZ.out k hk).2⟩), HB.out.trans HE1.out⟩
      case measure => simp [intOf] <;> omega
    · obtain rfl : j = width := by omega
      have b0 : decide ((0 : Int) ≤ (j : Int) - 1 - (j : Int)) = false := decide_eq_false (by omega)
      have b1 : (j : Int) - 1 - (j : Int) = -1 := by omega
      have HE := Lib.hid (show (be j n).take j = be j n from List.take_of_length_le (by rw [be_length]; exact Nat.le_refl _))
      go_wp2_with fail
      go_end0
      exact ⟨rfl, HE.out ▸ HW.out, HB.out⟩
def bes (width : Nat) (l : List Int) : List Int := l.flatMap (be width)
theorem bes_length (width : Nat) : ∀ l : List Int, (bes width l).length = width * l.length
  | [] => by simp [bes]
  | n :: l => by
    have := bes_length width l
    unfold bes at *
    rw [List.flatMap_cons, List.length_append, be_length, this, List.length_cons, Nat.mul_succ]
    omega
theorem bes_snoc (width : Nat) (l : List Int) (n : Int) : bes width (l ++ [n]) = bes width l ++ be width n := by simp [bes]
def okN (width : Nat) (n : Int) : Prop := -1 ≤ n ∧ n < 2 ^ (8 * width) - 1
set_option maxHeartbeats 4000000 in
set_option maxRecDepth 100000 in
theorem Num_call (width : Nat) (l : List Int) (A : Option Addr) (c : Nat) (g : Nat) (Z : Nat → Prop) (xs : List Int) (w : World) (h : WR w g Z xs) (h1 : 1 ≤ width) (h2 : width ≤ 7) (hok : ∀ n ∈ l, okN width n) (hC : ∀ W, Ef g Z w W → Kd.C (Kd.int .i64) W A l.length l) (hll : l.length ≤ 300) (hl : xs.length ≤ 2147483648) :
    Calls Tryz.prog 46 #[.pointer (some ⟨g, 0, none⟩), .int .i64 width, .slice A l.length c] w fun e w' => e = .returned (.pointer (some ⟨g, 0, none⟩)) ∧ WR w' g Z (xs ++ bes width l) ∧ Ef g Z w w' := by
  have H := Lib.hid h
  have HC := Lib.hid hC
  have HK := Lib.hid hok
  obtain ⟨A0, c0, hh, hR, hv, hz⟩ := h.open
  have HH := Lib.hid hh
  have HRr := Lib.hid hR
  have HV := Lib.hid hv
  have HZ := Lib.hid hz
  have hgl := h.lt
  clear h hC hok hh hR hv hz
  go_enter Tryz.func46, Tryz.ntmps46
  have HWR := Lib.hid (show ∀ W : World, W = w → WR (W.setCell ⟨g, 1, none⟩ (.bool false)) g Z xs ∧ Ef g Z w (W.setCell ⟨g, 1, none⟩ (.bool false)) from fun W e => by
    subst e
    refine ⟨⟨.slice A0 xs.length c0, ?_, ?_, HV.out, fun k hk => by rw [set_size]; exact HZ.out k hk⟩, (Below.refl _ _).setCell (p := ⟨g, 1, none⟩) (Nat.le_refl _) _, fun k hk => Below.heap_setCell _ _ _ k (HZ.out k hk).2⟩
    · have := HH.out
      simp [World.setCell, Array.getElem?_modify, this]
    · obtain ⟨h0, inner, ho, hr2⟩ := HRr.out
      exact ⟨h0, inner, own_move ho (fun k hk => Below.heap_setCell _ _ _ k (by have := own_base ho k hk; show k ≠ g; omega)), hr2⟩)
  have q0 := cell_at HH.out 0 rfl
  have q1 := cell_at HH.out 1 rfl
  have f1 := frozen_at HH.out 1
  go_wp2_with fail
  refine (may_call width h1 h2 _).mono ?_
  rintro e w ⟨rfl, rfl⟩
  go_wp2_with fail
  obtain ⟨hw1, he1⟩ := HWR.out w rfl
  have HW1 := Lib.hid hw1
  have HE1 := Lib.hid he1
  clear HWR q0 q1 f1 hw1 he1
  go_loopw [23] (fun i wr => ∃ j : Nat, j ≤ l.length ∧ i = .int .i64 j ∧ Hid (WR wr g Z (xs ++ bes width (l.take j))) ∧ Hid (Ef g Z w wr)) (fun i _ => l.length - (intOf i).toNat)
  case atStart => exact ⟨0, Nat.zero_le _, rfl, by rw [List.take_zero]; simp only [bes, List.flatMap_nil, List.append_nil]; exact HW1.out, HE1⟩
  case round =>
    clear HW1 HE1
    obtain ⟨j, hj, rfl, HW, HE⟩ := hrel
    by_cases hlt : j < l.length
    · have hc := HC.out wr HE.out
      obtain ⟨ad, rfl, hcell⟩ := (Kd.reads_of_C (d := (0 : Int)) hc).2.2 (by omega)
      have q := hcell j hlt
      obtain ⟨n, hn⟩ : ∃ n, l[j]? = some n := ⟨l[j], by simp [hlt]⟩
      have hnd : l.getD j 0 = n := by simp [List.getD_eq_getElem?_getD, hn]
      rw [hnd] at q
      have HO := Lib.hid (HK.out n (List.mem_of_getElem? hn))
      have HT := Lib.hid (show xs ++ bes width (l.take (j + 1)) = (xs ++ bes width (l.take j)) ++ be width n by rw [List.take_add_one, hn, Option.toList_some, bes_snoc, List.append_assoc])
      have HL := Lib.hid (show (xs ++ bes width (l.take j)).length ≤ 4294967296 by
        rw [List.length_append, bes_length, List.length_take]
        have : width * min j l.length ≤ 7 * 300 := Nat.mul_le_mul h2 (by omega)
        omega)
      clear hc hcell hnd hn
      go_wp2_with fail
      refine (num_call width n g Z _ _ HW.out h1 h2 HO.out.1 HO.out.2 HL.out).mono ?_
      rintro e w5 ⟨rfl, hw, he⟩
      have HW5 := Lib.hid hw
      have HE5 := Lib.hid (HE.out.trans he)
      clear hw he
      go_wp2_with fail
      go_roundw
      case rel => exact ⟨j + 1, by omega, by go_num, by rw [HT.out]; exact HW5.out, HE5.out⟩
      case measure => simp [intOf]; omega
    · obtain rfl : j = l.length := by omega
      have HT := Lib.hid (show l.take l.length = l from List.take_length)
      go_wp2_with fail
      go_ret
      exact ⟨rfl, HT.out ▸ HW.out, HE.out⟩
theorem Join_one (b : Nat) (A : Option Addr) (ys : List Int) (c k : Nat) (w : World) (hcell : w.cell? ⟨b, 0, none⟩ = some (.slice A ys.length c)) (hC : Kd.C (Kd.int .u8) w A ys.length ys) (hl : ys.length ≤ 4294967296) :
    Calls Tryz.prog 136 #[.slice (some ⟨b, 0, none⟩) 1 k, .slice none 0 0] w fun e w' => ∃ B d, e = .returned (.slice B ys.length d) ∧ Kd.C (Kd.int .u8) w' B ys.length ys ∧ Below w.heap.size w w' := by
  have HC := Lib.hid hC
  obtain ⟨N0, hN0⟩ : ∃ N0, ys.length = N0 := ⟨_, rfl⟩
  have HN := Lib.hid hN0
  rw [hN0] at hcell
  clear hC hN0
  go_enter Tryz.func136, Tryz.ntmps136
  go_wp2_with (first
    | (at_builtin; refine Kd.R_append_rows (Kd.int .u8) (w0 := w) w.heap.size rfl (.const (.slice none 0 0)) (.tmp 21) 29 5 (.int .u8 0) 1 rfl Tryz.underlying29 infou8 rfl (show 0 < 1 by omega) (by omega) (.slice none 0 0) [] ys A N0 c (fun _ => True) (fun _ => False) rfl rfl (Kd.R_nil _ _ _ _ _) ?aR u8_KM (fun _ h_ => h_.elim) (fun _ _ => trivial) (Below.refl _ _) (Nat.le_refl _) ?aL ?_; (case aR => exact HN.out ▸ HC.out); (case aL => have := HN.out; simp; omega); intro v1 w1 ho hb hg hn; have HO := Lib.hid (show Kd.R (Kd.int .u8) 5 w1 w.heap.size (fun _ => True) v1 ys from ho); have HB := Lib.hid hb; clear ho hb hg hn)
    | fail)
  go_ret
  obtain ⟨B, d, rfl, _, hC⟩ := Kd.R_reads HO.out
  exact ⟨B, d, rfl, hC, HB.out⟩
set_option maxHeartbeats 4000000 in
set_option maxRecDepth 100000 in
theorem Raw_gen (b m : Nat) (ys : List Int) (k : Nat) (g : Nat) (Z : Nat → Prop) (xs : List Int) (w : World) (h : WR w g Z xs) (hJ : Calls Tryz.prog 136 #[.slice (some ⟨b, 0, none⟩) m k, .slice none 0 0] w.drew fun e w' => ∃ B d, e = .returned (.slice B ys.length d) ∧ Kd.C (Kd.int .u8) w' B ys.length ys ∧ Below w.drew.heap.size w.drew w') (hy : ys.length ≤ 1048576) (hl : xs.length ≤ 2147483648) :
    Calls Tryz.prog 47 #[.pointer (some ⟨g, 0, none⟩), .slice (some ⟨b, 0, none⟩) m k] w fun e w' => e = .returned (.pointer (some ⟨g, 0, none⟩)) ∧ WR w' g Z (xs ++ ys) ∧ Ef g Z w w' := by
  obtain ⟨A0, c0, hh, hR, hv, hz⟩ := h.open
  have HJ := Lib.hid hJ
  have hgl := h.lt
  obtain ⟨N0, hN0⟩ : ∃ N0, xs.length = N0 := ⟨_, rfl⟩
  rw [hN0] at hh hR hv
  have HN := Lib.hid hN0
  have HV := Lib.hid hv
  have HZ := Lib.hid hz
  have HH := Lib.hid hh
  have HR := Lib.hid hR
  have q0 := cell_at hh 0 rfl
  have q1 := cell_at hh 1 rfl
  obtain ⟨M0, hM0⟩ : ∃ M0, ys.length = M0 := ⟨_, rfl⟩
  rw [hM0] at HJ
  have HM := Lib.hid hM0
  have HBd := Lib.hid (drewB w)
  clear h hJ hh hR hv hz hN0 hM0
  go_enter Tryz.func47, Tryz.ntmps47
  go_wp2_with fail
  refine start_ (n := 11) (S := fun w' => w'.cell? ⟨g, 0, none⟩ = some (.slice A0 N0 c0)) (ds := [7, 10]) (bm 11 0) (by kernel_rfl) rfl rfl (cell_at (kept_at HBd.out HH.out) 0 rfl) (fun hHeld => ?_)
  refine pq 0 10 11 1 ?_
  refine pq 1 11 11 3 ?_
  refine pq 2 12 11 7 ?_
  refine pq 3 13 11 15 ?_
  refine pq 5 15 11 47 ?_
  refine tq 4 14 11 63 hHeld ?_
  refine oq 6 16 11 127 (fun K hK => ?_)
  refine gq Tryz.func136 #[.slice (some ⟨b, 0, none⟩) m k, .slice none 0 0] ?_
  with_reducible refine (HJ.out).mono ?_
  rintro e w1 ⟨B, d, rfl, hCj, hb⟩
  refine ⟨_, rfl, ?_⟩
  have HBj := Lib.hid ((drewB w).trans (hb.mono (drewB w).size))
  have HCj := Lib.hid hCj
  clear hb hCj
  refine hK.out _ _ (cell_at (kept_at HBj.out HH.out) 0 rfl) (fun hHeld => ?_)
  clear hK K
  refine nx 16 ?_
  refine last_ (i := 7) (N := some 17) (bm 11 255) rfl rfl (by kernel_rfl) (by decide) (fun K hK => ?_)
  refine Kd.R_append_rows_step (Kd.int .u8) (w0 := w) (g + 1) (by rfl) (.tmp 14) (.tmp 16) 29 5 (.int .u8 0) 1 rfl Tryz.underlying29 infou8 rfl (show 0 < 1 by omega) (by omega) (.slice A0 N0 c0) xs ys B M0 d (fun _ => True) (fun _ => False) rfl rfl ?_ HCj.out u8_KM (fun _ h_ => h_.elim) (fun _ _ => trivial) ?_ ?_ ?_ ?_
  · exact Kd.R_below HR.out HBj.out
  · exact HBj.out.mono hgl
  · have := HBj.out.size; omega
  · have := HN.out; have := HM.out; omega
  intro v1 w2 ho hb hg hn
  obtain ⟨A1, c1, hv1⟩ := Kd.R_slice ho
  obtain ⟨N1, hN1⟩ : ∃ N1 : Nat, (xs ++ ys).length = N1 := ⟨_, rfl⟩
  rw [hN1] at hv1
  subst hv1
  have HR1 := Lib.hid ho
  have HV1 := Lib.hid (own_fresh HBj.out hn HV.out HZ.out)
  have HE1 := Lib.hid (Ef.lay (v := .slice A1 N1 c1) hb (grown_in HBj.out hg) (fun k_ hk_ e_ => HV.out k_ e_.symm hk_) HZ.out)
  have HB1 := Lib.hid hb
  have HH1 := Lib.hid (kept_lo hb (Nat.lt_succ_self g) HH.out)
  have z0 := cell_at HH1.out 0 rfl
  have f0 := frozen_at HH1.out 0
  clear ho hb hg hn hN1
  refine hK.out _ _ ?_
  clear hK K
  refine nx 17 ?_
  refine pq 8 18 11 511 ?_
  refine pq 9 19 11 1023 ?_
  refine last_ (i := 10) (N := none) (bm 11 2047) rfl rfl (by kernel_rfl) (by decide) (fun K hK => ?_)
  refine skip_ (w1 := ?_) (by rfl) rfl ?_ ?_
  rotate_left
  · go_simp
    rfl
  refine hK.out _ _ ?_
  clear hK K
  refine done_ (by kernel_rfl) ?_
  go_wp2_with fail
  go_ret
  exact ⟨rfl, WR.lay HH1.out HR1.out HV1.out (fun k hk => ⟨Nat.lt_of_lt_of_le (HZ.out k hk).1 HB1.out.size, (HZ.out k hk).2⟩), HE1.out⟩
theorem Raw_call (b : Nat) (A : Option Addr) (ys : List Int) (c k : Nat) (g : Nat) (Z : Nat → Prop) (xs : List Int) (w : World) (h : WR w g Z xs) (hcell : w.cell? ⟨b, 0, none⟩ = some (.slice A ys.length c)) (hC : Kd.C (Kd.int .u8) w A ys.length ys) (hy : ys.length ≤ 1048576) (hl : xs.length ≤ 2147483648) :
    Calls Tryz.prog 47 #[.pointer (some ⟨g, 0, none⟩), .slice (some ⟨b, 0, none⟩) 1 k] w fun e w' => e = .returned (.pointer (some ⟨g, 0, none⟩)) ∧ WR w' g Z (xs ++ ys) ∧ Ef g Z w w' :=
  Raw_gen b 1 ys k g Z xs w h (Join_one b A ys c k w.drew (show w.drew.cell? _ = _ from hcell) (Kd.C_below hC (drewB w)) (by omega)) hy hl
end Go.Proofs.YtmbnomlkhmcmaaaGreat.A
end
section
namespace Go.Proofs.YtmbnomlkhmcmaaaGreat.A
open Go.RowKit Go.Shelf Go.Proofs.YtmbnomlkhmcmaaaGreatW.PrintWords Go.Proofs.YtmbnomlkhmcmaaaGreatW.PrintLast
set_option linter.unusedVariables false
set_option linter.unusedSimpArgs false
def fill (xs : List Int) (L : Nat) : List Int := xs ++ List.replicate (L - xs.length) 0
theorem fill_length {xs : List Int} {L : Nat} (h : xs.length ≤ L) : (fill xs L).length = L := by simp [fill]; omega
theorem own_fill {w : World} {base b L : Nat} {xs : List Int} (hL : xs.length ≤ L) (hm : L ≤ 9223372036854775807) (hb : base ≤ b) (h : w.heap[b]? = some (.cells (splice (List.replicate L (Value.int .u8 0)) 0 (xs.map (Value.int .u8))).toArray 5 (0, 0))) :
    Kd.R (Kd.int .u8) 5 w base (fun _ => True) (.slice (some ⟨b, 0, none⟩) L L) (fill xs L) := by
  have e : splice (List.replicate L (Value.int .u8 0)) 0 (xs.map (Value.int .u8)) = (fill xs L).map (Value.int .u8) := by
    simp [splice, fill]
  rw [e] at h
  refine Kd.R_of_own (h1 := fun _ => rfl) (ok := fun _ => True) ?_ (fun _ _ => trivial)
  rw [fill_length hL]
  refine ⟨by simp [encs, fill_length hL], .inr ⟨b, L, _, rfl, hb, h, Nat.le_refl _, hm, by simp [fill_length hL], ?_⟩⟩
  simp [encs, List.take_of_length_le, fill_length hL]
theorem sizeu8 : (Tryz.prog.info? 5).map (·.size) = some 1 := by kernel_rfl
def zer (L : Nat) : Array Value := (List.replicate L (Value.int .u8 0)).toArray
theorem make_zer (L : Nat) (hL : L ≤ 1048576) (w : World) : (Instr.makeSlice 29 (.int .i64 (L : Int)) (.int .i64 (L : Int))).run Tryz.prog w = .ok (.slice (some ⟨w.heap.size, 0, none⟩) L L) (w.alloc (.cells (zer L) 5)) := by
  obtain ⟨i, hi, hzz⟩ := Option.map_eq_some_iff.1 infou8
  simp only [Prod.mk.injEq] at hzz
  obtain ⟨h0, h1, h2⟩ := hzz
  have h := run_make (P := Tryz.prog) (w := w) 29 5 i _ Tryz.underlying29 hi h0 .i64 .i64 (L : Int) (L : Int) (by omega) (Int.le_refl _) (by rw [h2]; omega) (by omega)
  have e : madeCells (Value.int .u8 0).cells L = zer L := by
    apply Array.ext'
    simp [madeCells, zer, Value.cells]
    apply List.ext_getElem
    · simp
    · intro i h1 h2
      simp [Nat.mod_one]
  rw [Int.toNat_natCast, h1, Nat.mul_one, e] at h
  exact h
theorem copy_zer (L : Nat) (xs : List Int) (A0 : Option Addr) (cc : Nat) (w : World) (hL : xs.length ≤ L) (ty : TypeId)
    (HS : ∀ (j : Nat) v, (xs.map (Value.int .u8))[j]? = some v → ∃ ad, A0 = some ad ∧ (w.alloc (.cells (zer L) 5)).cell? (ad.add j) = some v) :
    ∃ w5, (Builtin.copy_ #[29, 29] ty #[.slice (some ⟨w.heap.size, 0, none⟩) L L, .slice A0 xs.length cc]).run Tryz.prog (w.alloc (.cells (zer L) 5)) = .ok (goInt xs.length) w5 ∧
      w5.heap[w.heap.size]? = some (.cells (splice (List.replicate L (Value.int .u8 0)) 0 (xs.map (Value.int .u8))).toArray 5 (0, 0)) ∧ Below w.heap.size w w5 := by
  have hT : (w.alloc (.cells (zer L) 5)).heap[w.heap.size]? = some (.cells (List.replicate L (Value.int .u8 0)).toArray 5 (0, 0)) := heap_top w _
  by_cases h0 : xs.length = 0
  · obtain rfl : xs = [] := List.eq_nil_of_length_eq_zero h0
    refine ⟨w.alloc (.cells (zer L) 5), run_copy_none (P := Tryz.prog) _ _ _ ty 5 _ _ _ _ _ _ Tryz.underlying29 sizeu8 (by simp), ?_, allocB w _⟩
    rw [hT]
    simp [splice]
  · obtain ⟨x, hx⟩ : ∃ x, xs[0]? = some x := ⟨_, List.getElem?_eq_getElem (by omega)⟩
    obtain ⟨ad, rfl, _⟩ := HS 0 (.int .u8 x) (by simp [hx])
    have h := run_copy_row (P := Tryz.prog) (w.alloc (.cells (zer L) 5)) 29 29 ty 5 w.heap.size 0 L L ad xs.length cc _ 5 (xs.map (Value.int .u8)) Tryz.underlying29 sizeu8 hT
      (by rw [List.length_map]; exact (Nat.min_eq_left hL).symm) (fun j v hj => by
        obtain ⟨ad', e', h'⟩ := HS j v hj
        cases e'
        exact h') (by simpa using hL) (fun v hv => by
        obtain ⟨x, _, rfl⟩ := List.mem_map.1 hv
        rfl)
    rw [List.length_map] at h
    refine ⟨_, h, ?_, below_setRow (allocB w _) (Nat.le_refl _) _⟩
    have h2 := setRow_heap _ w.heap.size _ ((((List.replicate L (Value.int .u8 0)).toArray).toList.take 0 ++ xs.map (Value.int .u8) ++ ((List.replicate L (Value.int .u8 0)).toArray).toList.drop (0 + xs.length)).toArray) 5 _ hT
    simpa [splice] using h2
set_option maxHeartbeats 4000000 in
set_option maxRecDepth 100000 in
theorem Sealed_call (g : Nat) (Z : Nat → Prop) (xs : List Int) (L : Nat) (w : World) (h : WR w g Z xs) (hL : xs.length ≤ L) (hm : L ≤ 1048576) :
    Calls Tryz.prog 70 #[.pointer (some ⟨g, 0, none⟩), .int .i64 L] w fun e w' => ∃ v, e = .returned (.tuple #[v, .int .i64 0]) ∧ Kd.R (Kd.int .u8) 5 w' w.heap.size (fun _ => True) v (fill xs L) ∧ Below w.heap.size w w' := by
  obtain ⟨A0, cc, hh, hR, _⟩ := h.open
  obtain ⟨N0, hN0⟩ : ∃ N0, xs.length = N0 := ⟨_, rfl⟩
  rw [hN0] at hh hR
  have HN := Lib.hid hN0
  have HH := Lib.hid hh
  have HR := Lib.hid hR
  have HL := Lib.hid hL
  have q0 := cell_at hh 0 rfl
  have q1 := cell_at hh 1 rfl
  have t0 : decide ((L : Int) < 0) = false := decide_eq_false (by omega)
  have t1 : decide (1048576 < (L : Int)) = false := decide_eq_false (by omega)
  have t2 : decide (L < N0) = false := decide_eq_false (by omega)
  have hmk := make_zer L hm
  have hb0 : (0 : Int) ≤ (L : Int) := by omega
  clear h hh hR hN0 hL
  go_enter Tryz.func70, Tryz.ntmps70
  have y0 := pw_cell_below (allocB w (.cells (zer L) 5)) q0
  have HS := Lib.hid (show ∀ (j : Nat) v, (xs.map (Value.int .u8))[j]? = some v → ∃ ad, A0 = some ad ∧ (w.alloc (.cells (zer L) 5)).cell? (ad.add j) = some v from fun j v hj => by
    obtain ⟨x, hx, rfl⟩ : ∃ x, xs[j]? = some x ∧ Value.int .u8 x = v := by
      rw [List.getElem?_map] at hj
      exact Option.map_eq_some_iff.1 hj
    obtain ⟨A', c', e, _, hC⟩ := Kd.R_reads (Kd.R_below HR.out (allocB w (.cells (zer L) 5)))
    rw [HN.out] at e hC
    cases e
    have hlt := (List.getElem?_eq_some_iff.1 hx).1
    obtain ⟨ad, e, hc⟩ := (Kd.reads_of_C (d := (0 : Int)) hC).2.2 (by have := HN.out; omega)
    refine ⟨ad, e, ?_⟩
    have := hc j (by have := HN.out; omega)
    rw [show xs.getD j 0 = x by simp [List.getD_eq_getElem?_getD, hx]] at this
    exact this)
  obtain ⟨w5, hcp, hh5, hb5⟩ := copy_zer L xs A0 cc w HL.out 3 HS.out
  rw [HN.out] at hcp
  have HH5 := Lib.hid hh5
  have HB5 := Lib.hid hb5
  clear hh5 hb5
  go_wp2
  refine bodyPost_ret (v := .tuple #[.slice (some ⟨w.heap.size, 0, none⟩) L L, .int .i64 0]) ?_ rfl ?_
  · simp [results, Tryz.results70, go_sem]
  · exact ⟨_, rfl, own_fill HL.out (by omega) (Nat.le_refl _) HH5.out, HB5.out⟩
def oubref2_Fill.f (l0 : List Int) (a1 : Int) : Option (List Int) := if (l0.length : Int) ≤ a1 ∧ a1 ≤ 1048576 then some (fill l0 a1.toNat) else none
theorem copy_src {w : World} {A0 : Option Addr} {xs : List Int} {L : Nat} (hC : Kd.C (Kd.int .u8) w A0 xs.length xs) :
    ∀ (j : Nat) v, (xs.map (Value.int .u8))[j]? = some v → ∃ ad, A0 = some ad ∧ (w.alloc (.cells (zer L) 5)).cell? (ad.add j) = some v := by
  intro j v hj
  obtain ⟨x, hx, rfl⟩ : ∃ x, xs[j]? = some x ∧ Value.int .u8 x = v := by
    rw [List.getElem?_map] at hj
    exact Option.map_eq_some_iff.1 hj
  have hlt := (List.getElem?_eq_some_iff.1 hx).1
  obtain ⟨ad, e, hc⟩ := (Kd.reads_of_C (d := (0 : Int)) hC).2.2 (by omega)
  refine ⟨ad, e, ?_⟩
  have := hc j hlt
  rw [show xs.getD j 0 = x by simp [List.getD_eq_getElem?_getD, hx]] at this
  exact pw_cell_below (allocB w _) this
set_option maxHeartbeats 4000000 in
set_option maxRecDepth 100000 in
theorem oubref2_Fill.calls (A0 : Option Addr) (c0 : Nat) (l0 : List Int) (a1 : Int) (r : List Int) (w : World) (hr0 : Kd.C (Kd.int .u8) w A0 l0.length l0) (hc0 : l0.length ≤ c0) (h : oubref2_Fill.f l0 a1 = some r) :
    Calls Tryz.prog 141 #[.slice A0 l0.length c0, .int .i64 a1] w fun e w' => ∃ v0_ : Value, e = .returned (v0_) ∧ Kd.R (Kd.int .u8) 5 w' w.heap.size (fun _ => True) v0_ r ∧ Below w.heap.size w w' := by
  unfold oubref2_Fill.f at h
  split at h
  case isFalse => cases h
  case isTrue hh =>
  obtain ⟨h1, h2⟩ := hh
  obtain rfl := Option.some.inj h
  obtain ⟨L, rfl⟩ : ∃ L : Nat, a1 = (L : Int) := ⟨a1.toNat, by omega⟩
  rw [Int.toNat_natCast]
  have hL : l0.length ≤ L := by omega
  have hm : L ≤ 1048576 := by omega
  have HL := Lib.hid hL
  have hb0 : (0 : Int) ≤ (L : Int) := by omega
  have hmk := make_zer L hm
  obtain ⟨w5, hcp, hh5, hb5⟩ := copy_zer L l0 A0 c0 w hL 3 (copy_src hr0)
  obtain ⟨N0, hN0⟩ : ∃ N0, l0.length = N0 := ⟨_, rfl⟩
  rw [hN0] at hcp ⊢
  have HN := Lib.hid hN0
  have HH5 := Lib.hid hh5
  have HB5 := Lib.hid hb5
  clear hh5 hb5 hr0 hc0 h1 h2 hL hN0 h
  go_enter Tryz.func141, Tryz.ntmps141
  go_wp2
  refine bodyPost_ret (v := .slice (some ⟨w.heap.size, 0, none⟩) L L) ?_ rfl ?_
  · simp [results, Tryz.results141, go_sem]
  · exact ⟨_, rfl, own_fill HL.out (by omega) (Nat.le_refl _) HH5.out, HB5.out⟩
end Go.Proofs.YtmbnomlkhmcmaaaGreat.A
end
section
namespace Go.Proofs.YtmbnomlkhmcmaaaGreat.G
set_option linter.unusedVariables false
open Go.RowKit Go.Proofs.YtmbnomlkhmcmaaaGreatW.PrintWords Go.Proofs.YtmbnomlkhmcmaaaGreatW.PrintLast Go.Proofs.YtmbnomlkhmcmaaaGreatW.PrintMore
def oubref2_Fill.f (l0 : List Int) (a1 : Int) : Option (List Int) := A.oubref2_Fill.f l0 a1
theorem oubref2_Fill.calls (A0 : Option Addr) (c0 : Nat) (l0 : List Int) (a1 : Int) (r : List Int) (w : World) (hr0 : Kd.C (Kd.int .u8) w A0 l0.length l0) (hc0 : l0.length ≤ c0) (h : oubref2_Fill.f l0 a1 = some r) :
    Calls Tryz.prog 141 #[.slice A0 l0.length c0, .int .i64 a1] w fun e w' => ∃ v0_ : Value, e = .returned (v0_) ∧ Kd.R (Kd.int .u8) 5 w' w.heap.size (fun _ => True) v0_ r ∧ Below w.heap.size w w' :=
  A.oubref2_Fill.calls A0 c0 l0 a1 r w hr0 hc0 h
end Go.Proofs.YtmbnomlkhmcmaaaGreat.G
end
