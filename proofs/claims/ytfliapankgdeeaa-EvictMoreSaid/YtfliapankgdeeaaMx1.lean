-- Written by gprint.py (wip/tools), which runs the kit's printer with some contracts given. Lean checks it.
import Derived.Test.YtfliapankgdeeaaEvQ
import Derived.Deep.RegionWith
import Derived.Lib.Hide
import Derived.Test.YtfliapankgdeeaaProg
import Derived.Below
import Derived.Deep.Draws
import Derived.Deep.AppendLies
import Derived.Maps.AppendAt
import Derived.OwnWalk
import Derived.Laws.BytesArg
import Derived.Laws.MakeOwn
import Derived.Laws.OwnMore
import Derived.Deep.OwnRows
import Derived.Tactics
import Derived.Lib.ConvBytes
import Derived.Laws.Slices
import Derived.WalkKit
import Derived.KernelRfl
import Derived.RowKit3
import Derived.Deep.LoopGhost
import Derived.Deep.QuietTactic
import Derived.BigQuiet
import Derived.WideLaws
import Derived.Deep.DeepCutAuto
import Derived.Deep.CutBlock
import Derived.Deep.RegionHeld3
import Derived.Laws.Rows
import Derived.Lib.AppendStr
import Derived.ArgAppend
import Derived.Laws.IdiomCopy
import Derived.OrdersHeld
import Derived.Laws.BitsLemmas
import Derived.RowKit
import Derived.Test.YtfliapankgdeeaaGSort
import Derived.Test.YtfliapankgdeeaaGx
import Derived.Test.YtfliapankgdeeaaEvM
import Derived.Test.YtfliapankgdeeaaWWords
import Derived.Test.YtfliapankgdeeaaWLast
import Derived.Test.YtfliapankgdeeaaWTab
import Derived.Test.YtfliapankgdeeaaWFour
import Derived.Test.YtfliapankgdeeaaWQPut
import Derived.Test.YtfliapankgdeeaaWApart
import Derived.Test.YtfliapankgdeeaaWArr
import Derived.Test.YtfliapankgdeeaaWZeros
import Derived.Test.YtfliapankgdeeaaWFoot
import Derived.Test.YtfliapankgdeeaaWKept
import Derived.Test.YtfliapankgdeeaaWShare
import Derived.Test.YtfliapankgdeeaaWN
import Derived.Test.YtfliapankgdeeaaWFootNe
import Derived.Test.YtfliapankgdeeaaWAt
import Derived.Test.YtfliapankgdeeaaWEqStruct
import Derived.Test.YtfliapankgdeeaaWRepsOne
import Derived.Test.YtfliapankgdeeaaWInv
import Derived.Test.YtfliapankgdeeaaWInvWords
import Derived.Test.YtfliapankgdeeaaWGuard
import Derived.Test.YtfliapankgdeeaaWNEv
import Derived.Test.YtfliapankgdeeaaWMore
/- oubref.Sorted: the numbers, rising. -/
namespace Go.Proofs.Ytfliapankgdeeaa.A
open Go.RowKit Go.Shelf Go.Lib Go.Sort Go.Proofs.YtfliapankgdeeaaW.PrintWords Go.Proofs.YtfliapankgdeeaaW.PrintLast Go.Proofs.YtfliapankgdeeaaW.PrintMore Go.Proofs.Ytfliapankgdeeaa.G
set_option linter.unusedVariables false
set_option linter.unusedSimpArgs false

theorem drewB (w : World) : Below w.heap.size w w.drew := ⟨rfl, rfl, rfl, Nat.le_refl _, fun _ _ => rfl⟩
theorem cell_up {w w1 : World} {a : Addr} {v : Value} (h : Below w.heap.size w w1) (hc : w.cell? a = some v) : w1.cell? a = some v := (h.cell (World.block_lt_of_cell? w _ hc)).trans hc
theorem drop_C1 {w : World} {base n c k : Nat} {A : Option Addr} {xs : List Int} (h : Kd.R (Kd.int .i64) 3 w base (fun _ => True) (.slice A n c) xs) (hk : k ≤ xs.length) : Kd.C (Kd.int .i64) w (if c = k then A else A.map (·.add k)) (n - k) (xs.drop k) := by
  obtain ⟨rfl, hc, hC⟩ := Kd.R_reads' h
  have := Kd.C_drop hC hk hc
  rw [List.length_drop] at this
  simp only [show (Kd.int .i64).sz = 1 from rfl, Nat.mul_one] at this
  exact this
/-- A number put in its place. -/
theorem put_sorted {xs : List Int} {x : Int} {k : Nat} (hs : xs.Pairwise (· ≤ ·)) (hk : k ≤ xs.length) (h1 : ∀ t (ht : t < xs.length), k ≤ t → x < xs[t]) (h2 : ∀ t (ht : t < xs.length), t < k → xs[t] ≤ x) : (xs.take k ++ ([x] ++ xs.drop k)).Pairwise (· ≤ ·) := by
  rw [List.pairwise_append]
  refine ⟨hs.sublist (List.take_sublist _ _), ?_, ?_⟩
  · rw [List.singleton_append, List.pairwise_cons]
    refine ⟨fun y hy => ?_, hs.sublist (List.drop_sublist _ _)⟩
    obtain ⟨j, hj, rfl⟩ := List.getElem_of_mem hy
    rw [List.getElem_drop]
    have := h1 (k + j) (by rw [List.length_drop] at hj; omega) (by omega)
    omega
  · intro a ha b hb
    obtain ⟨i, hi, rfl⟩ := List.getElem_of_mem ha
    rw [List.length_take] at hi
    rw [List.getElem_take]
    have hai := h2 i (by omega) (by omega)
    rcases List.mem_append.1 hb with hb | hb
    · rw [List.mem_singleton.1 hb]; exact hai
    · obtain ⟨j, hj, rfl⟩ := List.getElem_of_mem hb
      rw [List.getElem_drop]
      have := h1 (k + j) (by rw [List.length_drop] at hj; omega) (by omega)
      omega
theorem put_perm (xs : List Int) (x : Int) (k : Nat) : (xs.take k ++ ([x] ++ xs.drop k)).Perm (xs ++ [x]) := by
  have h1 : (xs.take k ++ ([x] ++ xs.drop k)).Perm ([x] ++ (xs.take k ++ xs.drop k)) := by
    rw [← List.append_assoc, ← List.append_assoc]
    exact List.Perm.append_right _ List.perm_append_comm
  rw [List.take_append_drop] at h1
  exact h1.trans List.perm_append_comm
theorem isort_unique {l m : List Int} (h : m.Perm l) (hs : m.Pairwise (· ≤ ·)) : m = L.isort l :=
  List.Perm.eq_of_pairwise (fun a b _ _ h1 h2 => by omega) hs (L.isort_sorted l) (h.trans (L.isort_perm l).symm)

set_option maxHeartbeats 8000000 in
set_option maxRecDepth 100000 in
theorem Sorted_calls (A : Option Addr) (c : Nat) (l : List Int) (w : World) (hC : Kd.C (Kd.int .i64) w A l.length l) (hl : l.length < 1000) :
    Calls Try.prog 20 #[.slice A l.length c] w fun e w' => ∃ v, e = .returned v ∧ Kd.R (Kd.int .i64) 3 w' w.heap.size (fun _ => True) v (L.isort l) ∧ Below w.heap.size w w' := by
  have hm : Try.prog.follows .mixedOrders = true := rfl
  have CC := Aside0.mk hC
  clear hC
  go_enter Try.func20, Try.ntmps20
  go_wp2
  go_loopg [3, 4] l.length (fun gg vo vi wr => ∃ (i : Nat) (xs : List Int), vi = .int .i64 i ∧ i ≤ l.length ∧ l.length - i ≤ gg ∧ Aside0 (Kd.R (Kd.int .i64) 3 wr w.heap.size (fun _ => True) vo xs) ∧ Aside0 (xs.Perm (l.take i)) ∧ Aside0 (xs.Pairwise (· ≤ ·)) ∧ Aside0 (Below w.heap.size w wr))
  case atStart => exact ⟨0, [], by go_num, Nat.zero_le _, by omega, ⟨Kd.R_nil _ _ _ _ _⟩, ⟨List.Perm.refl _⟩, ⟨List.Pairwise.nil⟩, ⟨Below.refl _ _⟩⟩
  case round =>
    obtain ⟨i, xs, rfl, hi, hg, R1, P1, S1, B1⟩ := hrel
    have hxl : xs.length = i := by rw [P1.out.length_eq, List.length_take]; omega
    by_cases hlt : i < l.length
    · have hltz : (i : Int) < (l.length : Int) := by omega
      obtain ⟨ad, eA, hcell⟩ := (Kd.reads_of_C (d := (0 : Int)) CC.out).2.2 (by omega)
      subst eA
      have cx := hcell i hlt
      obtain ⟨x, hx⟩ : ∃ x, x = l[i] := ⟨_, rfl⟩
      rw [show l.getD i 0 = x by rw [hx]; simp [List.getD, List.getElem?_eq_getElem hlt]] at cx
      have X := Aside0.mk hx
      have CX := Aside0.mk cx
      obtain ⟨A1, c1, rfl, hc1, _⟩ := Kd.R_reads R1.out
      have HXL := Aside0.mk hxl
      clear hcell cx hx hxl
      go_wp2
      go_loopg [5] xs.length (fun gg v5 wr2 => ∃ (k : Nat), v5 = .int .i64 k ∧ k ≤ xs.length ∧ k ≤ gg ∧ Aside0 (∀ t (ht : t < xs.length), k ≤ t → x < xs[t]) ∧ Aside0 (Kd.R (Kd.int .i64) 3 wr2 w.heap.size (fun _ => True) (.slice A1 xs.length c1) xs) ∧ Aside0 (Below w.heap.size w wr2))
      case atStart => exact ⟨xs.length, rfl, Nat.le_refl _, Nat.le_refl _, ⟨fun t ht h => by omega⟩, R1, B1⟩
      case round =>
        clear R1 B1
        obtain ⟨k, rfl, hk, hg2, K1, R1, B1⟩ := hrel
        by_cases hk0 : k = 0
        · have hz : ¬ (0 : Int) < (k : Int) := by omega
          have hzd : decide ((k : Int) > 0) = false := decide_eq_false (by omega)
          have hzn : decide (0 < k) = false := decide_eq_false (by omega)
          have hzm : ¬ 0 < k := by omega
          have K2 : Aside0 (∀ t (ht : t < xs.length), t < k → xs[t] ≤ x) := ⟨fun t ht h => by omega⟩
          have HK0 := Aside0.mk hk0
          clear hk0
          go_wp2_with fail
          go_big_region_o
          go_wp2_with fail
          -- the place is found
          have HRc := Lib.hid (show Kd.R (Kd.int .i64) 3 wr.drew w.heap.size (fun _ => True) (.slice A1 xs.length c1) xs from Kd.R_below R1.out (drewB wr))
          have HBw := Lib.hid (show Below w.heap.size w wr.drew from below_trans B1.out B1.out.size (drewB wr))
          generalize wr.drew = wc at HRc HBw ⊢
          have CXc := Lib.hid (show wc.cell? (ad.add i) = some (.int .i64 x) from (HBw.out.cell (World.block_lt_of_cell? w _ CX.out)).trans CX.out)
          have HBn := Lib.hid (drewB wc)
          have hkc : k ≤ c1 := by omega
          have hxb : xs.length ≤ 1000 := by have := HXL.out; omega
          go_wp2_with fail
          refine start_ (n := 14) (S := fun w' => w'.cell? (ad.add i) = some (.int .i64 x)) (ds := []) #[false, false, false, false, false, false, false, false, false, false, false, false, false, false] (by kernel_rfl) rfl rfl (cell_up HBn.out CXc.out) (fun hHeld => ?_)
          refine pure_ (i := 0) (N := some 30) (v := ?_) (a' := ?_) #[true, false, false, false, false, false, false, false, false, false, false, false, false, false] rfl rfl (by kernel_rfl) (fun _ _ _ h => h) (Or.inl ⟨by rfl, ?_⟩) ?_ ?_
          rotate_left
          · intro w'
            go_simp
            with_reducible rfl
          rotate_left
          · simp only [Act.put, List.setIfInBounds_toArray, List.set_cons_zero, List.set_cons_succ, i64_w, i32_w]
            rfl
          refine pure_ (i := 1) (N := some 31) (v := ?_) (a' := ?_) #[true, true, false, false, false, false, false, false, false, false, false, false, false, false] rfl rfl (by kernel_rfl) (fun _ _ _ h => h) (Or.inl ⟨by rfl, ?_⟩) ?_ ?_
          rotate_left
          · intro w'
            go_simp
            with_reducible rfl
          rotate_left
          · simp only [Act.put, List.setIfInBounds_toArray, List.set_cons_zero, List.set_cons_succ, i64_w, i32_w]
            rfl
          refine pure_ (i := 2) (N := some 32) (v := ?_) (a' := ?_) #[true, true, true, false, false, false, false, false, false, false, false, false, false, false] rfl rfl (by kernel_rfl) (fun _ _ _ h => h) (Or.inl ⟨by rfl, ?_⟩) ?_ ?_
          rotate_left
          · intro w'
            go_simp
            with_reducible rfl
          rotate_left
          · simp only [Act.put, List.setIfInBounds_toArray, List.set_cons_zero, List.set_cons_succ, i64_w, i32_w]
            rfl
          refine pure_ (i := 3) (N := some 33) (v := ?_) (a' := ?_) #[true, true, true, true, false, false, false, false, false, false, false, false, false, false] rfl rfl (by kernel_rfl) (fun _ _ _ h => h) (Or.inl ⟨by rfl, ?_⟩) ?_ ?_
          rotate_left
          · intro w'
            go_simp
            with_reducible rfl
          rotate_left
          · simp only [Act.put, List.setIfInBounds_toArray, List.set_cons_zero, List.set_cons_succ, i64_w, i32_w]
            rfl
          refine pure_ (i := 4) (N := some 34) (v := ?_) (a' := ?_) #[true, true, true, true, true, false, false, false, false, false, false, false, false, false] rfl rfl (by kernel_rfl) (fun _ _ _ h => h) (Or.inl ⟨by rfl, ?_⟩) ?_ ?_
          rotate_left
          · intro w'
            go_simp
            with_reducible rfl
          rotate_left
          · simp only [Act.put, List.setIfInBounds_toArray, List.set_cons_zero, List.set_cons_succ, i64_w, i32_w]
            rfl
          refine pure_ (i := 5) (N := some 35) (v := ?_) (a' := ?_) #[true, true, true, true, true, true, false, false, false, false, false, false, false, false] rfl rfl (by kernel_rfl) (fun _ _ _ h => h) (Or.inl ⟨by rfl, ?_⟩) ?_ ?_
          rotate_left
          · intro w'
            go_simp
            with_reducible rfl
          rotate_left
          · simp only [Act.put, List.setIfInBounds_toArray, List.set_cons_zero, List.set_cons_succ, i64_w, i32_w]
            rfl
          refine pure_ (i := 8) (N := some 38) (v := ?_) (a' := ?_) #[true, true, true, true, true, true, false, false, true, false, false, false, false, false] rfl rfl (by kernel_rfl) (fun _ _ _ h => h) (Or.inl ⟨by rfl, ?_⟩) ?_ ?_
          rotate_left
          · intro w'
            go_simp
            with_reducible rfl
          rotate_left
          · simp only [Act.put, List.setIfInBounds_toArray, List.set_cons_zero, List.set_cons_succ, i64_w, i32_w]
            rfl
          refine pure_ (i := 9) (N := some 39) (v := ?_) (a' := ?_) #[true, true, true, true, true, true, false, false, true, true, false, false, false, false] rfl rfl (by kernel_rfl) (fun _ _ _ h => h) (Or.inl ⟨by rfl, ?_⟩) ?_ ?_
          rotate_left
          · intro w'
            go_simp
            with_reducible rfl
          rotate_left
          · simp only [Act.put, List.setIfInBounds_toArray, List.set_cons_zero, List.set_cons_succ, i64_w, i32_w]
            rfl
          refine pure_ (i := 10) (N := some 40) (v := ?_) (a' := ?_) #[true, true, true, true, true, true, false, false, true, true, true, false, false, false] rfl rfl (by kernel_rfl) (fun _ _ _ h => h) (Or.inl ⟨by rfl, ?_⟩) ?_ ?_
          rotate_left
          · intro w'
            go_simp
            with_reducible rfl
          rotate_left
          · simp only [Act.put, List.setIfInBounds_toArray, List.set_cons_zero, List.set_cons_succ, i64_w, i32_w]
            rfl
          refine take_ (i := 6) (N := some 36) (v := ?_) (a' := ?_) #[true, true, true, true, true, true, true, false, true, true, true, false, false, false] rfl rfl (by kernel_rfl) (fun _ _ _ h => h) (Or.inl ⟨by rfl, ?_⟩) hHeld ?_ ?_
          rotate_left
          · intro w' s0
            go_simp
            with_reducible rfl
          rotate_left
          · simp only [Act.put, List.setIfInBounds_toArray, List.set_cons_zero, List.set_cons_succ, i64_w, i32_w]
            rfl
          refine one_ (i := 7) (N := some 37) #[true, true, true, true, true, true, true, true, true, true, true, false, false, false] rfl rfl (by kernel_rfl) (by decide) (fun K hK => ?_)
          refine Kd.R_lit_step (Kd.int .i64) (w0 := wc) wc.heap.size 3 (by rfl) (N := 37) rfl (xs := [x]) (inner := [.int .i64 x]) (ok := fun _ => True) (okp := fun _ => False) ?_ ?_ (fun _ h_ => h_.elim) trivial HBn.out HBn.out.size (by simp) ?_
          · go_simp
          · exact Reps.one rfl (Reps.none _ _)
          intro v7 w3 ho hb hg hn
          have HR7 := Lib.hid ho
          have HBn := Lib.hid hb
          clear ho hb hg hn
          refine hK.out _ _ (cell_up HBn.out CXc.out) (fun hHeld => ?_)
          clear hK K
          refine norm_ (a' := ?_) ?_ ?_
          rotate_left
          · show Act.put _ (some 37) _ = _
            simp only [Act.put, List.setIfInBounds_toArray, List.set_cons_zero, List.set_cons_succ, i64_w, i32_w]
            rfl
          refine one_ (i := 11) (N := some 41) #[true, true, true, true, true, true, true, true, true, true, true, true, false, false] rfl rfl (by kernel_rfl) (by decide) (fun K hK => ?_)
          refine Kd.R_append_rows_step (Kd.int .i64) (w0 := wc) wc.heap.size (by rfl) (.tmp 37) (.tmp 40) 22 3 (.int .i64 0) 8 rfl Try.underlying22 infoI rfl (by decide) (by omega) v7 [x] (xs.drop k) (if c1 = k then A1 else A1.map (·.add k)) (xs.length - k) (c1 - k) (fun _ => True) (fun _ => False) rfl rfl HR7.out ?_ (fun _ _ h_ => h_) (fun _ h_ => h_.elim) (fun _ _ => trivial) HBn.out HBn.out.size ?_ ?_
          · exact drop_C1 (Kd.R_below HRc.out HBn.out) hk
          · simp; omega
          intro v8 w4 ho hb hg hn
          obtain ⟨A8, c8, hv8⟩ := Kd.R_slice ho
          obtain ⟨N8, hN8⟩ : ∃ N8 : Nat, ([x] ++ xs.drop k).length = N8 := ⟨_, rfl⟩
          rw [hN8] at hv8
          subst hv8
          have HR8 := Lib.hid ho
          have HN8 := Lib.hid hN8
          have HBn := Lib.hid hb
          clear ho hb hg hn hN8
          refine hK.out _ _ (cell_up HBn.out CXc.out) (fun hHeld => ?_)
          clear hK K
          refine norm_ (a' := ?_) ?_ ?_
          rotate_left
          · show Act.put _ (some 41) _ = _
            simp only [Act.put, List.setIfInBounds_toArray, List.set_cons_zero, List.set_cons_succ, i64_w, i32_w]
            rfl
          refine one_ (i := 12) (N := some 42) #[true, true, true, true, true, true, true, true, true, true, true, true, true, false] rfl rfl (by kernel_rfl) (by decide) (fun K hK => ?_)
          refine Kd.R_append_rows_step (Kd.int .i64) (w0 := w) w.heap.size (by rfl) (.tmp 32) (.tmp 41) 22 3 (.int .i64 0) 8 rfl Try.underlying22 infoI rfl (by decide) (by omega) (.slice A1 k c1) (xs.take k) ([x] ++ xs.drop k) A8 N8 c8 (fun _ => True) (fun _ => False) rfl rfl (Kd.R_take (Kd.R_below HRc.out HBn.out) hk) ?_ (fun _ _ h_ => h_) (fun _ h_ => h_.elim) (fun _ _ => trivial) (below_trans HBw.out HBw.out.size HBn.out) (Nat.le_trans HBw.out.size HBn.out.size) ?_ ?_
          · have h8_ := (Kd.R_reads' HR8.out).2.2
            rwa [HN8.out] at h8_
          · have h8_ := HN8.out; simp at h8_ ⊢; omega
          intro v9 w5 ho hb hg hn
          have HR9 := Lib.hid ho
          have HBf := Lib.hid hb
          have HBn := Lib.hid (show Below wc.heap.size wc wc from Below.refl _ _)
          have HC9 := Lib.hid (show w5.cell? (ad.add i) = some (.int .i64 x) from (hb.cell (World.block_lt_of_cell? w _ CX.out)).trans CX.out)
          clear ho hb hg hn
          refine hK.out _ _ (HC9.out) (fun hHeld => ?_)
          clear hK K
          refine norm_ (a' := ?_) ?_ ?_
          rotate_left
          · show Act.put _ (some 42) _ = _
            simp only [Act.put, List.setIfInBounds_toArray, List.set_cons_zero, List.set_cons_succ, i64_w, i32_w]
            rfl
          refine pure_ (i := 13) (N := some 3) (v := ?_) (a' := ?_) #[true, true, true, true, true, true, true, true, true, true, true, true, true, true] rfl rfl (by kernel_rfl) (fun _ _ _ h => h) (Or.inl ⟨by rfl, ?_⟩) ?_ ?_
          rotate_left
          · intro w'
            go_simp
            with_reducible rfl
          rotate_left
          · simp only [Act.put, List.setIfInBounds_toArray, List.set_cons_zero, List.set_cons_succ, i64_w, i32_w]
            rfl
          refine done_ (by kernel_rfl) ?_
          all_goals
            generalize (if c1 = k then A1 else Option.map (fun x => x.add k) A1) = Ak
            go_wp2
            go_roundg (l.length - (i + 1))
            case measure => omega
            case rel =>
              have etk : l.take (i + 1) = l.take i ++ [x] := by rw [List.take_succ_eq_append_getElem hlt, X.out]
              refine ⟨i + 1, _, by go_num, hlt, Nat.le_refl _, ⟨HR9.out⟩, ⟨?_⟩, ⟨?_⟩, ⟨HBf.out⟩⟩
              · rw [etk]; exact (put_perm xs x k).trans (List.Perm.append_right _ P1.out)
              · exact put_sorted S1.out hk K1.out K2.out
        · obtain ⟨kp, rfl⟩ : ∃ q, k = q + 1 := ⟨k - 1, by omega⟩
          have hz : (0 : Int) < (kp : Int) + 1 := by omega
          have em : (kp : Int) + 1 - 1 = (kp : Int) := by omega
          have ew : IntKind.i64.wrap (kp : Int) = (kp : Int) := by rw [IntKind.wrap_i64]; have := HXL.out; omega
          have hkz : (kp : Int) < (xs.length : Int) := by omega
          have hkl : kp < xs.length := by omega
          obtain ⟨ad1, eA1, hcell1⟩ := (Kd.reads_of_C (d := (0 : Int)) (Kd.R_reads' R1.out).2.2).2.2 (by omega)
          subst eA1
          have c0 := hcell1 kp hkl
          obtain ⟨y, hy⟩ : ∃ y, y = xs[kp] := ⟨_, rfl⟩
          rw [show xs.getD kp 0 = y by rw [hy]; simp [List.getD, List.getElem?_eq_getElem hkl]] at c0
          have Y := Aside0.mk hy
          have cx : wr.cell? (ad.add i) = some (.int .i64 x) := (B1.out.cell (World.block_lt_of_cell? w _ CX.out)).trans CX.out
          clear hcell1 hy
          cases ht : decide (x < y) with
          | true =>
            have hlt3 : x < y := of_decide_eq_true ht
            go_wp2_with fail
            go_big_region_o
            have R2 : Aside0 (Kd.R (Kd.int .i64) 3 wr.drew w.heap.size (fun _ => True) (.slice (some ad1) xs.length c1) xs) := ⟨Kd.R_below R1.out (drewB wr)⟩
            have B2 : Aside0 (Below w.heap.size w wr.drew) := ⟨below_trans B1.out B1.out.size (drewB wr)⟩
            clear c0 cx
            generalize wr.drew = w3 at R2 B2 ⊢
            go_wp2
            go_roundg kp
            case measure => omega
            case rel =>
              refine ⟨kp, by first | rfl | go_num, by omega, Nat.le_refl _, ⟨fun t ht h => ?_⟩, R2, B2⟩
              by_cases q : t = kp
              · subst q; rw [← Y.out]; exact hlt3
              · exact K1.out t ht (by omega)
          | false =>
            have hlt3 : ¬ x < y := of_decide_eq_false ht
            have K2 : Aside0 (∀ t (ht : t < xs.length), t < kp + 1 → xs[t] ≤ x) := ⟨fun t ht h => by
              have h1 : xs[t] ≤ xs[kp] := by
                by_cases q : t = kp
                · subst q; omega
                · have hs := S1.out
                  rw [List.pairwise_iff_getElem] at hs
                  exact hs t kp ht hkl (by omega)
              have := Y.out
              omega⟩
            go_wp2_with fail
            go_big_region_o
            clear c0 cx
            obtain ⟨k, hkk⟩ : ∃ k, k = kp + 1 := ⟨_, rfl⟩
            have ezk : (kp : Int) + 1 = (k : Int) := by omega
            rw [← hkk] at K1 K2 hk
            rw [ezk]
            have HKK := Aside0.mk hkk
            clear hkk ezk hz em ew hkz
            go_wp2_with fail
            -- the place is found
            have HRc := Lib.hid (show Kd.R (Kd.int .i64) 3 wr.drew w.heap.size (fun _ => True) (.slice (some ad1) xs.length c1) xs from Kd.R_below R1.out (drewB wr))
            have HBw := Lib.hid (show Below w.heap.size w wr.drew from below_trans B1.out B1.out.size (drewB wr))
            generalize wr.drew = wc at HRc HBw ⊢
            have CXc := Lib.hid (show wc.cell? (ad.add i) = some (.int .i64 x) from (HBw.out.cell (World.block_lt_of_cell? w _ CX.out)).trans CX.out)
            have HBn := Lib.hid (drewB wc)
            have hkc : k ≤ c1 := by omega
            have hxb : xs.length ≤ 1000 := by have := HXL.out; omega
            go_wp2_with fail
            refine start_ (n := 14) (S := fun w' => w'.cell? (ad.add i) = some (.int .i64 x)) (ds := []) #[false, false, false, false, false, false, false, false, false, false, false, false, false, false] (by kernel_rfl) rfl rfl (cell_up HBn.out CXc.out) (fun hHeld => ?_)
            refine pure_ (i := 0) (N := some 30) (v := ?_) (a' := ?_) #[true, false, false, false, false, false, false, false, false, false, false, false, false, false] rfl rfl (by kernel_rfl) (fun _ _ _ h => h) (Or.inl ⟨by rfl, ?_⟩) ?_ ?_
            rotate_left
            · intro w'
              go_simp
              with_reducible rfl
            rotate_left
            · simp only [Act.put, List.setIfInBounds_toArray, List.set_cons_zero, List.set_cons_succ, i64_w, i32_w]
              rfl
            refine pure_ (i := 1) (N := some 31) (v := ?_) (a' := ?_) #[true, true, false, false, false, false, false, false, false, false, false, false, false, false] rfl rfl (by kernel_rfl) (fun _ _ _ h => h) (Or.inl ⟨by rfl, ?_⟩) ?_ ?_
            rotate_left
            · intro w'
              go_simp
              with_reducible rfl
            rotate_left
            · simp only [Act.put, List.setIfInBounds_toArray, List.set_cons_zero, List.set_cons_succ, i64_w, i32_w]
              rfl
            refine pure_ (i := 2) (N := some 32) (v := ?_) (a' := ?_) #[true, true, true, false, false, false, false, false, false, false, false, false, false, false] rfl rfl (by kernel_rfl) (fun _ _ _ h => h) (Or.inl ⟨by rfl, ?_⟩) ?_ ?_
            rotate_left
            · intro w'
              go_simp
              with_reducible rfl
            rotate_left
            · simp only [Act.put, List.setIfInBounds_toArray, List.set_cons_zero, List.set_cons_succ, i64_w, i32_w]
              rfl
            refine pure_ (i := 3) (N := some 33) (v := ?_) (a' := ?_) #[true, true, true, true, false, false, false, false, false, false, false, false, false, false] rfl rfl (by kernel_rfl) (fun _ _ _ h => h) (Or.inl ⟨by rfl, ?_⟩) ?_ ?_
            rotate_left
            · intro w'
              go_simp
              with_reducible rfl
            rotate_left
            · simp only [Act.put, List.setIfInBounds_toArray, List.set_cons_zero, List.set_cons_succ, i64_w, i32_w]
              rfl
            refine pure_ (i := 4) (N := some 34) (v := ?_) (a' := ?_) #[true, true, true, true, true, false, false, false, false, false, false, false, false, false] rfl rfl (by kernel_rfl) (fun _ _ _ h => h) (Or.inl ⟨by rfl, ?_⟩) ?_ ?_
            rotate_left
            · intro w'
              go_simp
              with_reducible rfl
            rotate_left
            · simp only [Act.put, List.setIfInBounds_toArray, List.set_cons_zero, List.set_cons_succ, i64_w, i32_w]
              rfl
            refine pure_ (i := 5) (N := some 35) (v := ?_) (a' := ?_) #[true, true, true, true, true, true, false, false, false, false, false, false, false, false] rfl rfl (by kernel_rfl) (fun _ _ _ h => h) (Or.inl ⟨by rfl, ?_⟩) ?_ ?_
            rotate_left
            · intro w'
              go_simp
              with_reducible rfl
            rotate_left
            · simp only [Act.put, List.setIfInBounds_toArray, List.set_cons_zero, List.set_cons_succ, i64_w, i32_w]
              rfl
            refine pure_ (i := 8) (N := some 38) (v := ?_) (a' := ?_) #[true, true, true, true, true, true, false, false, true, false, false, false, false, false] rfl rfl (by kernel_rfl) (fun _ _ _ h => h) (Or.inl ⟨by rfl, ?_⟩) ?_ ?_
            rotate_left
            · intro w'
              go_simp
              with_reducible rfl
            rotate_left
            · simp only [Act.put, List.setIfInBounds_toArray, List.set_cons_zero, List.set_cons_succ, i64_w, i32_w]
              rfl
            refine pure_ (i := 9) (N := some 39) (v := ?_) (a' := ?_) #[true, true, true, true, true, true, false, false, true, true, false, false, false, false] rfl rfl (by kernel_rfl) (fun _ _ _ h => h) (Or.inl ⟨by rfl, ?_⟩) ?_ ?_
            rotate_left
            · intro w'
              go_simp
              with_reducible rfl
            rotate_left
            · simp only [Act.put, List.setIfInBounds_toArray, List.set_cons_zero, List.set_cons_succ, i64_w, i32_w]
              rfl
            refine pure_ (i := 10) (N := some 40) (v := ?_) (a' := ?_) #[true, true, true, true, true, true, false, false, true, true, true, false, false, false] rfl rfl (by kernel_rfl) (fun _ _ _ h => h) (Or.inl ⟨by rfl, ?_⟩) ?_ ?_
            rotate_left
            · intro w'
              go_simp
              with_reducible rfl
            rotate_left
            · simp only [Act.put, List.setIfInBounds_toArray, List.set_cons_zero, List.set_cons_succ, i64_w, i32_w]
              rfl
            refine take_ (i := 6) (N := some 36) (v := ?_) (a' := ?_) #[true, true, true, true, true, true, true, false, true, true, true, false, false, false] rfl rfl (by kernel_rfl) (fun _ _ _ h => h) (Or.inl ⟨by rfl, ?_⟩) hHeld ?_ ?_
            rotate_left
            · intro w' s0
              go_simp
              with_reducible rfl
            rotate_left
            · simp only [Act.put, List.setIfInBounds_toArray, List.set_cons_zero, List.set_cons_succ, i64_w, i32_w]
              rfl
            refine one_ (i := 7) (N := some 37) #[true, true, true, true, true, true, true, true, true, true, true, false, false, false] rfl rfl (by kernel_rfl) (by decide) (fun K hK => ?_)
            refine Kd.R_lit_step (Kd.int .i64) (w0 := wc) wc.heap.size 3 (by rfl) (N := 37) rfl (xs := [x]) (inner := [.int .i64 x]) (ok := fun _ => True) (okp := fun _ => False) ?_ ?_ (fun _ h_ => h_.elim) trivial HBn.out HBn.out.size (by simp) ?_
            · go_simp
            · exact Reps.one rfl (Reps.none _ _)
            intro v7 w3 ho hb hg hn
            have HR7 := Lib.hid ho
            have HBn := Lib.hid hb
            clear ho hb hg hn
            refine hK.out _ _ (cell_up HBn.out CXc.out) (fun hHeld => ?_)
            clear hK K
            refine norm_ (a' := ?_) ?_ ?_
            rotate_left
            · show Act.put _ (some 37) _ = _
              simp only [Act.put, List.setIfInBounds_toArray, List.set_cons_zero, List.set_cons_succ, i64_w, i32_w]
              rfl
            refine one_ (i := 11) (N := some 41) #[true, true, true, true, true, true, true, true, true, true, true, true, false, false] rfl rfl (by kernel_rfl) (by decide) (fun K hK => ?_)
            refine Kd.R_append_rows_step (Kd.int .i64) (w0 := wc) wc.heap.size (by rfl) (.tmp 37) (.tmp 40) 22 3 (.int .i64 0) 8 rfl Try.underlying22 infoI rfl (by decide) (by omega) v7 [x] (xs.drop k) (if c1 = k then (some ad1) else (some ad1).map (·.add k)) (xs.length - k) (c1 - k) (fun _ => True) (fun _ => False) rfl rfl HR7.out ?_ (fun _ _ h_ => h_) (fun _ h_ => h_.elim) (fun _ _ => trivial) HBn.out HBn.out.size ?_ ?_
            · exact drop_C1 (Kd.R_below HRc.out HBn.out) hk
            · simp; omega
            intro v8 w4 ho hb hg hn
            obtain ⟨A8, c8, hv8⟩ := Kd.R_slice ho
            obtain ⟨N8, hN8⟩ : ∃ N8 : Nat, ([x] ++ xs.drop k).length = N8 := ⟨_, rfl⟩
            rw [hN8] at hv8
            subst hv8
            have HR8 := Lib.hid ho
            have HN8 := Lib.hid hN8
            have HBn := Lib.hid hb
            clear ho hb hg hn hN8
            refine hK.out _ _ (cell_up HBn.out CXc.out) (fun hHeld => ?_)
            clear hK K
            refine norm_ (a' := ?_) ?_ ?_
            rotate_left
            · show Act.put _ (some 41) _ = _
              simp only [Act.put, List.setIfInBounds_toArray, List.set_cons_zero, List.set_cons_succ, i64_w, i32_w]
              rfl
            refine one_ (i := 12) (N := some 42) #[true, true, true, true, true, true, true, true, true, true, true, true, true, false] rfl rfl (by kernel_rfl) (by decide) (fun K hK => ?_)
            refine Kd.R_append_rows_step (Kd.int .i64) (w0 := w) w.heap.size (by rfl) (.tmp 32) (.tmp 41) 22 3 (.int .i64 0) 8 rfl Try.underlying22 infoI rfl (by decide) (by omega) (.slice (some ad1) k c1) (xs.take k) ([x] ++ xs.drop k) A8 N8 c8 (fun _ => True) (fun _ => False) rfl rfl (Kd.R_take (Kd.R_below HRc.out HBn.out) hk) ?_ (fun _ _ h_ => h_) (fun _ h_ => h_.elim) (fun _ _ => trivial) (below_trans HBw.out HBw.out.size HBn.out) (Nat.le_trans HBw.out.size HBn.out.size) ?_ ?_
            · have h8_ := (Kd.R_reads' HR8.out).2.2
              rwa [HN8.out] at h8_
            · have h8_ := HN8.out; simp at h8_ ⊢; omega
            intro v9 w5 ho hb hg hn
            have HR9 := Lib.hid ho
            have HBf := Lib.hid hb
            have HBn := Lib.hid (show Below wc.heap.size wc wc from Below.refl _ _)
            have HC9 := Lib.hid (show w5.cell? (ad.add i) = some (.int .i64 x) from (hb.cell (World.block_lt_of_cell? w _ CX.out)).trans CX.out)
            clear ho hb hg hn
            refine hK.out _ _ (HC9.out) (fun hHeld => ?_)
            clear hK K
            refine norm_ (a' := ?_) ?_ ?_
            rotate_left
            · show Act.put _ (some 42) _ = _
              simp only [Act.put, List.setIfInBounds_toArray, List.set_cons_zero, List.set_cons_succ, i64_w, i32_w]
              rfl
            refine pure_ (i := 13) (N := some 3) (v := ?_) (a' := ?_) #[true, true, true, true, true, true, true, true, true, true, true, true, true, true] rfl rfl (by kernel_rfl) (fun _ _ _ h => h) (Or.inl ⟨by rfl, ?_⟩) ?_ ?_
            rotate_left
            · intro w'
              go_simp
              with_reducible rfl
            rotate_left
            · simp only [Act.put, List.setIfInBounds_toArray, List.set_cons_zero, List.set_cons_succ, i64_w, i32_w]
              rfl
            refine done_ (by kernel_rfl) ?_
            all_goals
              go_wp2
              all_goals
                go_roundg (l.length - (i + 1))
                case measure => omega
                case rel =>
                  have etk : l.take (i + 1) = l.take i ++ [x] := by rw [List.take_succ_eq_append_getElem hlt, X.out]
                  refine ⟨i + 1, _, by go_num, hlt, Nat.le_refl _, ⟨HR9.out⟩, ⟨?_⟩, ⟨?_⟩, ⟨HBf.out⟩⟩
                  · rw [etk]; exact (put_perm xs x k).trans (List.Perm.append_right _ P1.out)
                  · exact put_sorted S1.out hk K1.out K2.out
    · obtain rfl : i = l.length := by omega
      have hltz : ¬ (l.length : Int) < (l.length : Int) := by omega
      have e1 := isort_unique (P1.out.trans (by rw [List.take_length])) S1.out
      have E1 := Aside0.mk e1
      clear e1
      go_wp2
      go_ret
      exact ⟨_, rfl, by rw [← E1.out]; exact R1.out, B1.out⟩
end Go.Proofs.Ytfliapankgdeeaa.A

/- oubref.Sorted in the form in which the printer tells contracts. -/
namespace Go.Proofs.Ytfliapankgdeeaa.G
set_option linter.unusedVariables false
open Go.RowKit Go.Proofs.YtfliapankgdeeaaW.PrintWords Go.Proofs.YtfliapankgdeeaaW.PrintLast Go.Proofs.YtfliapankgdeeaaW.PrintMore

def oubref_Sorted.f (l0 : List Int) : Option (List Int) := if l0.length < 1000 then some (L.isort l0) else none
theorem oubref_Sorted.calls (A0 : Option Addr) (c0 : Nat) (l0 : List Int) (r : List Int) (w : World) (hr0 : Kd.C (Kd.int .i64) w A0 l0.length l0) (hc0 : l0.length ≤ c0) (h : oubref_Sorted.f l0 = some r) :
    Calls Try.prog 20 #[.slice A0 l0.length c0] w fun e w' => ∃ v0_ : Value, e = .returned v0_ ∧ Kd.R (Kd.int .i64) 3 w' w.heap.size (fun _ => True) v0_ r ∧ Below w.heap.size w w' := by
  unfold oubref_Sorted.f at h
  split at h
  · rename_i hl
    obtain rfl := Option.some.inj h
    exact A.Sorted_calls A0 c0 l0 w hr0 hl
  · cases h
end Go.Proofs.Ytfliapankgdeeaa.G

namespace Go.Proofs.Ytfliapankgdeeaa.M
open Go.RowKit Go.Proofs.Ytfliapankgdeeaa.G Go.Proofs.YtfliapankgdeeaaW.PrintWords Go.Proofs.YtfliapankgdeeaaW.PrintLast Go.Proofs.YtfliapankgdeeaaW.PrintMore
attribute [local go_sem] max2_int min2_int max_two min_two max_three min_three max_four min_four   -- for this text's walks alone
set_option linter.unusedVariables false
set_option linter.unusedSimpArgs false



def errW : Option Int → Value
  | none => .nilIface
  | some c => .iface 0 (.int .i64 c)
theorem errW_none : errW none = .nilIface := rfl
theorem errW_some (c : Int) : errW (some c) = .iface 0 (.int .i64 c) := rfl

theorem info3 : (Try.prog.info? 3).map (fun i => (i.zero, i.size, i.bytes)) = some (some (.int .i64 0), 1, 8) := by kernel_rfl
-- the values' own types

end Go.Proofs.Ytfliapankgdeeaa.M

namespace Go.Proofs.Ytfliapankgdeeaa.M
open Go.RowKit Go.Proofs.Ytfliapankgdeeaa.G Go.Proofs.YtfliapankgdeeaaW.PrintWords Go.Proofs.YtfliapankgdeeaaW.PrintLast Go.Proofs.YtfliapankgdeeaaW.PrintMore
attribute [local go_sem] max2_int min2_int max_two min_two max_three min_three max_four min_four   -- for this text's walks alone
set_option linter.unusedVariables false
set_option linter.unusedSimpArgs false

/-! ### oublaw11_EvictMore: function 5 -/
mutual
def oublaw11_EvictMore.j0 : Nat → Int → Int → List Int → List (S39) → Bool → Option (Bool)
  | 0, _, _, _, _, _ => none
  | k + 1, x0, x1, x2, x3, x39 => if x39 = true then ((oublaw11_first.f).bind fun t106 => (some t106)) else ((evict_Plan.f x0 (wrap64 (x1 + 1)) x2 x3).bind fun bt107 => ((evict_Plan.f x0 x1 x2 x3).bind fun bt113 => ((evict_Plan.f x0 x1 ([] : List Int) x3).bind fun bt119 => (oublaw11_EvictMore.l0 k x3 bt107.2 bt113.1 bt113.2 bt119.1 bt119.2 ([] : List Int) 0))))
def oublaw11_EvictMore.l0 : Nat → List (S39) → List Int → List (S36) → List Int → List (S36) → List Int → List Int → Int → Option (Bool)
  | 0, _, _, _, _, _, _, _, _ => none
  | k + 1, x3, x10, x11, x12, x13, x14, x15, x16 => if x16 < (x3.length : Int) then (if 0 ≤ x16 then (if x15.length < 17592186044416 then (oublaw11_EvictMore.l0 k x3 x10 x11 x12 x13 x14 (x15 ++ [(rd_T39 x3 x16).f0]) (wrap64 (x16 + 1))) else (none)) else (none)) else ((oublaw11_first.f).bind fun t129 => (if t129 = true then (if (x10.length : Int) ≤ (x12.length : Int) then ((evict_Held.f k x11).bind fun t130 => (if t130 = (wrap64 ((x3.length : Int) - (x12.length : Int))) then (if (x13.length : Int) = 0 then ((oubref_Sorted.f x15).bind fun t131 => ((oubref_Ints.f k x14 t131).bind fun t134 => (some t134))) else (some false)) else (some false))) else (some false)) else (some false)))
end
def oublaw11_EvictMore.f (k : Nat) (a0 : Int) (a1 : Int) (l2 : List Int) (l3 : List (S39)) : Option (Bool) := (oublaw11_first.f).bind fun t101 => (if t101 = true then (if (l2.length : Int) > 60 then (oublaw11_EvictMore.j0 k a0 a1 l2 l3 true) else (if (l3.length : Int) > 60 then (oublaw11_EvictMore.j0 k a0 a1 l2 l3 true) else (if a1 ≥ 4 then (oublaw11_EvictMore.j0 k a0 a1 l2 l3 true) else ((oublaw11_items.f k l3).bind fun t102 => ((oubref7_MayPlan.f k a0 a1 l2 t102).bind fun t105 => (oublaw11_EvictMore.j0 k a0 a1 l2 l3 (!t105))))))) else (some false))
theorem oublaw11_EvictMore.mono_l : ∀ k, (∀ y0 y1 y2 y3 y4, LeO (oublaw11_EvictMore.j0 k y0 y1 y2 y3 y4) (oublaw11_EvictMore.j0 (k + 1) y0 y1 y2 y3 y4)) ∧ (∀ y0 y1 y2 y3 y4 y5 y6 y7, LeO (oublaw11_EvictMore.l0 k y0 y1 y2 y3 y4 y5 y6 y7) (oublaw11_EvictMore.l0 (k + 1) y0 y1 y2 y3 y4 y5 y6 y7))
  | 0 => ⟨fun _ _ _ _ _ r h => by simp [oublaw11_EvictMore.j0] at h, fun _ _ _ _ _ _ _ _ r h => by simp [oublaw11_EvictMore.l0] at h⟩
  | k + 1 => by
    obtain ⟨ih0, ih1⟩ := oublaw11_EvictMore.mono_l k
    refine ⟨?_, ?_⟩
    · intro y0 y1 y2 y3 y4
      unfold oublaw11_EvictMore.j0
      repeat' first
      | (with_reducible exact ih0 _ _ _ _ _)
      | (with_reducible exact ih1 _ _ _ _ _ _ _ _)
      | (with_reducible exact evict_Held.mono _ _)
      | (with_reducible exact oublaw11_items.mono _ _)
      | (with_reducible exact oubref7_MayPlan.mono _ _ _ _ _)
      | (with_reducible exact oubref_Ints.mono _ _ _)
      | (with_reducible exact LeO.refl _)
      | (with_reducible exact LeO.none _)
      | (with_reducible refine LeO.ite ?_ ?_)
      | (with_reducible refine LeO.bind ?_ (fun _ => ?_))
      | exact ih0 _ _ _ _ _
      | exact ih1 _ _ _ _ _ _ _ _
      | exact evict_Held.mono _ _
      | exact oublaw11_items.mono _ _
      | exact oubref7_MayPlan.mono _ _ _ _ _
      | exact oubref_Ints.mono _ _ _
      | exact LeO.none _
      | refine LeO.ite ?_ ?_
      | refine LeO.bind ?_ (fun _ => ?_)
    · intro y0 y1 y2 y3 y4 y5 y6 y7
      unfold oublaw11_EvictMore.l0
      repeat' first
      | (with_reducible exact ih0 _ _ _ _ _)
      | (with_reducible exact ih1 _ _ _ _ _ _ _ _)
      | (with_reducible exact evict_Held.mono _ _)
      | (with_reducible exact oublaw11_items.mono _ _)
      | (with_reducible exact oubref7_MayPlan.mono _ _ _ _ _)
      | (with_reducible exact oubref_Ints.mono _ _ _)
      | (with_reducible exact LeO.refl _)
      | (with_reducible exact LeO.none _)
      | (with_reducible refine LeO.ite ?_ ?_)
      | (with_reducible refine LeO.bind ?_ (fun _ => ?_))
      | exact ih0 _ _ _ _ _
      | exact ih1 _ _ _ _ _ _ _ _
      | exact evict_Held.mono _ _
      | exact oublaw11_items.mono _ _
      | exact oubref7_MayPlan.mono _ _ _ _ _
      | exact oubref_Ints.mono _ _ _
      | exact LeO.none _
      | refine LeO.ite ?_ ?_
      | refine LeO.bind ?_ (fun _ => ?_)
theorem oublaw11_EvictMore.mono : ∀ a0 a1 a2 a3 k, LeO (oublaw11_EvictMore.f k a0 a1 a2 a3) (oublaw11_EvictMore.f (k + 1) a0 a1 a2 a3) := by
  intro a0 a1 a2 a3 k
  obtain ⟨ih0, ih1⟩ := oublaw11_EvictMore.mono_l k
  unfold oublaw11_EvictMore.f
  repeat' first
      | (with_reducible exact ih0 _ _ _ _ _)
      | (with_reducible exact ih1 _ _ _ _ _ _ _ _)
      | (with_reducible exact evict_Held.mono _ _)
      | (with_reducible exact oublaw11_items.mono _ _)
      | (with_reducible exact oubref7_MayPlan.mono _ _ _ _ _)
      | (with_reducible exact oubref_Ints.mono _ _ _)
      | (with_reducible exact LeO.refl _)
      | (with_reducible exact LeO.none _)
      | (with_reducible refine LeO.ite ?_ ?_)
      | (with_reducible refine LeO.bind ?_ (fun _ => ?_))
      | exact ih0 _ _ _ _ _
      | exact ih1 _ _ _ _ _ _ _ _
      | exact evict_Held.mono _ _
      | exact oublaw11_items.mono _ _
      | exact oubref7_MayPlan.mono _ _ _ _ _
      | exact oubref_Ints.mono _ _ _
      | exact LeO.none _
      | refine LeO.ite ?_ ?_
      | refine LeO.bind ?_ (fun _ => ?_)
set_option maxHeartbeats 8000000 in
set_option maxRecDepth 100000 in
theorem oublaw11_EvictMore.calls (k : Nat) (a0 : Int) (a1 : Int) (A2 : Option Addr) (c2 : Nat) (l2 : List Int) (A3 : Option Addr) (c3 : Nat) (l3 : List (S39)) (r : Bool) (w : World) (hr2 : Kd.C (Kd.int .i64) w A2 l2.length l2) (hc2 : l2.length ≤ c2) (hr3 : Kd.C k39 w A3 l3.length l3) (hc3 : l3.length ≤ c3) (HT : Aside0 (r = true)) (h : oublaw11_EvictMore.f k a0 a1 l2 l3 = some r) :
    Calls Try.prog 5 #[.int .i64 a0, .int .i64 a1, .slice A2 l2.length c2, .slice A3 l3.length c3] w fun e w' => e = .returned (.bool r) ∧ Below w.heap.size w w' := by
  have HR2 := Aside0.mk hr2
  have HC2 := Aside0.mk hc2
  clear hr2 hc2
  have HR3 := Aside0.mk hr3
  have HC3 := Aside0.mk hc3
  clear hr3 hc3
  have HB := Aside0.mk (Below.refl w.heap.size w)
  have H : ((oublaw11_first.f).bind fun t101 => (if t101 = true then (if (l2.length : Int) > 60 then (oublaw11_EvictMore.j0 k a0 a1 l2 l3 true) else (if (l3.length : Int) > 60 then (oublaw11_EvictMore.j0 k a0 a1 l2 l3 true) else (if a1 ≥ 4 then (oublaw11_EvictMore.j0 k a0 a1 l2 l3 true) else ((oublaw11_items.f k l3).bind fun t102 => ((oubref7_MayPlan.f k a0 a1 l2 t102).bind fun t105 => (oublaw11_EvictMore.j0 k a0 a1 l2 l3 (!t105))))))) else (some false))) = some r := h
  clear h
  replace H := Option.bind_eq_some_iff.mp H
  obtain ⟨t101, A50, H⟩ := H
  replace H : (if t101 = true then (if (l2.length : Int) > 60 then (oublaw11_EvictMore.j0 k a0 a1 l2 l3 true) else (if (l3.length : Int) > 60 then (oublaw11_EvictMore.j0 k a0 a1 l2 l3 true) else (if a1 ≥ 4 then (oublaw11_EvictMore.j0 k a0 a1 l2 l3 true) else ((oublaw11_items.f k l3).bind fun t102 => ((oubref7_MayPlan.f k a0 a1 l2 t102).bind fun t105 => (oublaw11_EvictMore.j0 k a0 a1 l2 l3 (!t105))))))) else (some false)) = some r := H
  have A5 := Aside0.mk A50
  clear A50
  by_cases c6 : t101 = true
  · subst c6
    have H1 : (if (l2.length : Int) > 60 then (oublaw11_EvictMore.j0 k a0 a1 l2 l3 true) else (if (l3.length : Int) > 60 then (oublaw11_EvictMore.j0 k a0 a1 l2 l3 true) else (if a1 ≥ 4 then (oublaw11_EvictMore.j0 k a0 a1 l2 l3 true) else ((oublaw11_items.f k l3).bind fun t102 => ((oubref7_MayPlan.f k a0 a1 l2 t102).bind fun t105 => (oublaw11_EvictMore.j0 k a0 a1 l2 l3 (!t105))))))) = some r := by rw [if_pos rfl] at H; exact H
    clear H
    have H := H1
    clear H1
    have HC7 := Aside0.mk H
    clear H
    go_enter Try.func5, Try.ntmps5
    go_upto_region 3 with (first | ((with_reducible refine gate_callee (f := 7) rfl ?_); refine goesL_ (some 17) rfl rfl Try.func7 (by kernel_rfl) rfl #[] rfl (by (try simp only [List.map_toArray, List.map_cons, List.map_nil]); first | done | rfl | (simp only [List.length_drop, List.length_take]; rfl)) ?_; (with_reducible refine (oublaw11_first.calls  true _ A5.out).mono ?_); rintro e w8 ⟨rfl, hb⟩; refine ⟨_, rfl, ?_⟩; have n0_ := Aside0.mk (below_step (by repeat (first | (with_reducible first | exact HB.out | apply below_alloc | apply pw_below_drewN | apply below_drew1) | exact HB.out)) hb); clear HB; have HB := n0_; clear n0_; (try clear hb); (try clear hb2); (try clear hk); (try clear hi)))
    (try simp only [Act.put, List.setIfInBounds_toArray, List.set_cons_zero, List.set_cons_succ])
    go_cut [39] (fun v39 wc => ∃ (kq : Nat) (x39_6 : Bool), v39 = .bool x39_6 ∧ Aside0 (oublaw11_EvictMore.j0 kq a0 a1 l2 l3 x39_6 = some r) ∧ Aside0 (kq ≤ k) ∧ Aside0 (Below w.heap.size w wc))
    case first =>
      have H := HC7.out
      clear HC7
      by_cases c9 : (l2.length : Int) > 60
      · rw [if_pos c9] at H
        have c9b0 : decide (60 < (l2.length : Int)) = true := decide_eq_true c9
        have c9b1 : decide (60 < l2.length) = true := decide_eq_true (by omega)
        clear c9
        (first | rw [c9b0] | (simp only [i64_w, i32_w]; rw [c9b0]) | skip)
        have H' := Aside0.mk H
        clear H
        go_wp2
        go_meet
        case rel => exact ⟨_, (true), (by first | rfl | (simp; done) | (simp [*]; done)), H', ⟨by first | omega | exact Nat.le_refl _⟩, ⟨by repeat (first | (with_reducible first | exact HB.out | apply below_alloc | apply pw_below_drewN | apply below_drew1) | exact HB.out)⟩⟩
      · rw [if_neg c9] at H
        have c9b0 : decide (60 < (l2.length : Int)) = false := decide_eq_false c9
        have c9b1 : decide (60 < l2.length) = false := decide_eq_false (by omega)
        clear c9
        (first | rw [c9b0] | (simp only [i64_w, i32_w]; rw [c9b0]) | skip)
        by_cases c10 : (l3.length : Int) > 60
        · rw [if_pos c10] at H
          have c10b0 : decide (60 < (l3.length : Int)) = true := decide_eq_true c10
          have c10b1 : decide (60 < l3.length) = true := decide_eq_true (by omega)
          clear c10
          have H' := Aside0.mk H
          clear H
          go_wp2
          go_meet
          case rel => exact ⟨_, (true), (by first | rfl | (simp; done) | (simp [*]; done)), H', ⟨by first | omega | exact Nat.le_refl _⟩, ⟨by repeat (first | (with_reducible first | exact HB.out | apply below_alloc | apply pw_below_drewN | apply below_drew1) | exact HB.out)⟩⟩
        · rw [if_neg c10] at H
          have c10b0 : decide (60 < (l3.length : Int)) = false := decide_eq_false c10
          have c10b1 : decide (60 < l3.length) = false := decide_eq_false (by omega)
          clear c10
          by_cases c11 : a1 ≥ 4
          · rw [if_pos c11] at H
            have c11b0 : decide (4 ≤ a1) = true := decide_eq_true c11
            clear c11
            have H' := Aside0.mk H
            clear H
            go_wp2
            go_meet
            case rel => exact ⟨_, (true), (by first | rfl | (simp; done) | (simp [*]; done)), H', ⟨by first | omega | exact Nat.le_refl _⟩, ⟨by repeat (first | (with_reducible first | exact HB.out | apply below_alloc | apply pw_below_drewN | apply below_drew1) | exact HB.out)⟩⟩
          · rw [if_neg c11] at H
            have c11b0 : decide (4 ≤ a1) = false := decide_eq_false c11
            clear c11
            replace H := Option.bind_eq_some_iff.mp H
            obtain ⟨t102, A120, H⟩ := H
            replace H : ((oubref7_MayPlan.f k a0 a1 l2 t102).bind fun t105 => (oublaw11_EvictMore.j0 k a0 a1 l2 l3 (!t105))) = some r := H
            have A12 := Aside0.mk A120
            clear A120
            replace H := Option.bind_eq_some_iff.mp H
            obtain ⟨t105, A130, H⟩ := H
            replace H : (oublaw11_EvictMore.j0 k a0 a1 l2 l3 (!t105)) = some r := H
            have A13 := Aside0.mk A130
            clear A130
            have H' := Aside0.mk H
            clear H
            go_wp2_with (first | (go_at_call 9; (with_reducible refine (oublaw11_items.calls k _ _ l3 t102 _ ?side1 ?side2 A12.out).mono ?_); (case side1 => repeat (first | exact (Kd.C_below HR3.out HB.out) | (with_reducible refine Kd.C_alloc ?_ _) | (with_reducible refine Kd.C_drewN ?_ _) | (with_reducible refine Kd.C_drew ?_))); (case side2 => exact HC3.out); rintro e w14 ⟨v103, rfl, ho0, hb⟩; have n0_ := Aside0.mk (Kd.R_lower ho0 (below_size (by repeat (first | (with_reducible first | exact HB.out | apply below_alloc | apply pw_below_drewN | apply below_drew1) | exact HB.out)))); have n1_ := Aside0.mk (below_step (by repeat (first | (with_reducible first | exact HB.out | apply below_alloc | apply pw_below_drewN | apply below_drew1) | exact HB.out)) hb); clear HB; have HO104 := n0_; have HB := n1_; clear n0_ n1_; (try clear hb); (try clear hb2); (try clear hk); (try clear hi); (try clear ho0); obtain ⟨Ao15, co15, eo15⟩ := Kd.R_slice HO104.out; subst eo15) | (go_at_call 8; (with_reducible refine (oubref7_MayPlan.calls k a0 a1 _ _ l2 _ _ t102 t105 _ ?side1 ?side2 ?side3 ?side4 A13.out).mono ?_); (case side1 => repeat (first | exact (Kd.C_below HR2.out HB.out) | (with_reducible refine Kd.C_alloc ?_ _) | (with_reducible refine Kd.C_drewN ?_ _) | (with_reducible refine Kd.C_drew ?_))); (case side2 => exact HC2.out); (case side3 => repeat (first | exact (Kd.R_reads' HO104.out).2.2 | (with_reducible refine Kd.C_alloc ?_ _) | (with_reducible refine Kd.C_drewN ?_ _) | (with_reducible refine Kd.C_drew ?_))); (case side4 => exact (Kd.R_reads' HO104.out).2.1); rintro e w' ⟨rfl, ⟨nd, rfl⟩⟩))
            go_meet
            case rel => exact ⟨_, (!t105), (by first | rfl | (simp; done) | (simp [*]; done)), H', ⟨by first | omega | exact Nat.le_refl _⟩, ⟨by repeat (first | (with_reducible first | exact HB.out | apply below_alloc | apply pw_below_drewN | apply below_drew1) | exact HB.out)⟩⟩
    case rest =>
      clear HC7
      try clear c1
      try clear c2
      try clear p2
      try clear c3
      try clear c5
      try clear c6
      try clear c7
      try clear c9
      try clear c9b0
      try clear c9b1
      try clear c10
      try clear c10b0
      try clear c10b1
      try clear c11
      try clear c11b0
      obtain ⟨kq, x39_6, rfl, HA, HJ6, HB⟩ := hcut
      cases kq with
      | zero => exact absurd HA.out (by simp [oublaw11_EvictMore.j0])
      | succ kj6 =>
        have H := HA.out
        clear HA
        simp only [oublaw11_EvictMore.j0] at H
        by_cases c16 : x39_6 = true
        · subst c16
          have H1 : ((oublaw11_first.f).bind fun t106 => (some t106)) = some r := by rw [if_pos rfl] at H; exact H
          clear H
          have H := H1
          clear H1
          replace H := Option.bind_eq_some_iff.mp H
          obtain ⟨t106, A170, H⟩ := H
          replace H : (some t106) = some r := H
          have A17 := Aside0.mk A170
          clear A170
          obtain rfl := Option.some.inj H
          go_wp2_with (first | ((with_reducible refine gate_callee (f := 7) rfl ?_); refine goesL_ (some 40) rfl rfl Try.func7 (by kernel_rfl) rfl #[] rfl (by (try simp only [List.map_toArray, List.map_cons, List.map_nil]); first | done | rfl | (simp only [List.length_drop, List.length_take]; rfl)) ?_; (with_reducible refine (oublaw11_first.calls  t106 _ A17.out).mono ?_); rintro e w18 ⟨rfl, hb⟩; refine ⟨_, rfl, ?_⟩; have n0_ := Aside0.mk (below_step (by repeat (first | (with_reducible first | exact HB.out | apply below_alloc | apply pw_below_drewN | apply below_drew1) | exact HB.out)) hb); clear HB; have HB := n0_; clear n0_; (try clear hb); (try clear hb2); (try clear hk); (try clear hi)))
          go_ret
          exact ⟨by first | rfl | (simp [errW_none, errW_some] <;> rfl) | (simp [*, errW_none, errW_some] <;> rfl), by repeat (first | (with_reducible first | exact HB.out | apply below_alloc | apply pw_below_drewN | apply below_drew1) | exact HB.out)⟩
        · replace c16 := Bool.eq_false_iff.mpr c16
          subst c16
          have H1 : ((evict_Plan.f a0 (wrap64 (a1 + 1)) l2 l3).bind fun bt107 => ((evict_Plan.f a0 a1 l2 l3).bind fun bt113 => ((evict_Plan.f a0 a1 ([] : List Int) l3).bind fun bt119 => (oublaw11_EvictMore.l0 kj6 l3 bt107.2 bt113.1 bt113.2 bt119.1 bt119.2 ([] : List Int) 0)))) = some r := by rw [if_neg (show ¬ (false = true) by decide)] at H; exact H
          clear H
          have H := H1
          clear H1
          replace H := Option.bind_eq_some_iff.mp H
          obtain ⟨⟨t107, t108⟩, A190, H⟩ := H
          replace H : ((evict_Plan.f a0 a1 l2 l3).bind fun bt113 => ((evict_Plan.f a0 a1 ([] : List Int) l3).bind fun bt119 => (oublaw11_EvictMore.l0 kj6 l3 t108 bt113.1 bt113.2 bt119.1 bt119.2 ([] : List Int) 0))) = some r := H
          have A19 := Aside0.mk A190
          clear A190
          replace H := Option.bind_eq_some_iff.mp H
          obtain ⟨⟨t113, t114⟩, A200, H⟩ := H
          replace H : ((evict_Plan.f a0 a1 ([] : List Int) l3).bind fun bt119 => (oublaw11_EvictMore.l0 kj6 l3 t108 t113 t114 bt119.1 bt119.2 ([] : List Int) 0)) = some r := H
          have A20 := Aside0.mk A200
          clear A200
          replace H := Option.bind_eq_some_iff.mp H
          obtain ⟨⟨t119, t120⟩, A210, H⟩ := H
          replace H : (oublaw11_EvictMore.l0 kj6 l3 t108 t113 t114 t119 t120 ([] : List Int) 0) = some r := H
          have A21 := Aside0.mk A210
          clear A210
          have H' := Aside0.mk H
          clear H
          go_wp2_with (first | ((with_reducible refine gate_callee (f := 10) rfl ?_); refine goesL_ (some 47) rfl rfl Try.func10 (by kernel_rfl) rfl #[.int .i64 a0, .int .i64 (wrap64 (a1 + 1)), .slice A2 l2.length c2, .slice A3 l3.length c3] rfl (by (try simp only [List.map_toArray, List.map_cons, List.map_nil]); first | done | rfl | (simp only [List.length_drop, List.length_take]; rfl)) ?_; (with_reducible refine (evict_Plan.calls a0 (wrap64 (a1 + 1)) _ _ l2 _ _ l3 t107 t108 _ ?side1 ?side2 ?side3 ?side4 A19.out).mono ?_); clear A19; (case side1 => repeat (first | exact (Kd.C_below HR2.out HB.out) | (with_reducible refine Kd.C_alloc ?_ _) | (with_reducible refine Kd.C_drewN ?_ _) | (with_reducible refine Kd.C_drew ?_))); (case side2 => exact HC2.out); (case side3 => repeat (first | exact (Kd.C_below HR3.out HB.out) | (with_reducible refine Kd.C_alloc ?_ _) | (with_reducible refine Kd.C_drewN ?_ _) | (with_reducible refine Kd.C_drew ?_))); (case side4 => exact HC3.out); rintro e w22 ⟨v109, v111, rfl, ho0, ho1, hb⟩; refine ⟨_, rfl, ?_⟩; have n0_ := Aside0.mk (Kd.S_lower ho0 (below_size (by repeat (first | (with_reducible first | exact HB.out | apply below_alloc | apply pw_below_drewN | apply below_drew1) | exact HB.out)))); have n1_ := Aside0.mk (Kd.R_lower ho1 (below_size (by repeat (first | (with_reducible first | exact HB.out | apply below_alloc | apply pw_below_drewN | apply below_drew1) | exact HB.out)))); have n2_ := Aside0.mk (below_step (by repeat (first | (with_reducible first | exact HB.out | apply below_alloc | apply pw_below_drewN | apply below_drew1) | exact HB.out)) hb); clear HB; have HO110 := n0_; have HO112 := n1_; have HB := n2_; clear n0_ n1_ n2_; (try clear hb); (try clear hb2); (try clear hk); (try clear hi); (try clear ho0); (try clear ho1)) | ((with_reducible refine gate_callee (f := 10) rfl ?_); refine goesL_ (some 55) rfl rfl Try.func10 (by kernel_rfl) rfl #[.int .i64 a0, .int .i64 a1, .slice A2 l2.length c2, .slice A3 l3.length c3] rfl (by (try simp only [List.map_toArray, List.map_cons, List.map_nil]); first | done | rfl | (simp only [List.length_drop, List.length_take]; rfl)) ?_; (with_reducible refine (evict_Plan.calls a0 a1 _ _ l2 _ _ l3 t113 t114 _ ?side1 ?side2 ?side3 ?side4 A20.out).mono ?_); clear A20; (case side1 => repeat (first | exact (Kd.C_below HR2.out HB.out) | (with_reducible refine Kd.C_alloc ?_ _) | (with_reducible refine Kd.C_drewN ?_ _) | (with_reducible refine Kd.C_drew ?_))); (case side2 => exact HC2.out); (case side3 => repeat (first | exact (Kd.C_below HR3.out HB.out) | (with_reducible refine Kd.C_alloc ?_ _) | (with_reducible refine Kd.C_drewN ?_ _) | (with_reducible refine Kd.C_drew ?_))); (case side4 => exact HC3.out); rintro e w23 ⟨v115, v117, rfl, ho0, ho1, hb⟩; refine ⟨_, rfl, ?_⟩; have n0_ := Aside0.mk (Kd.S_mono (Kd.S_told (Kd.S_told (Kd.S_old (by (with_reducible repeat (first | apply Kd.S_alloc | apply Kd.S_drewN | apply Kd.S_drew)); exact HO110.out) hb) (Kd.S_base ho0)) (Kd.R_base ho1)) (fun _ h_ => h_.1)); have n1_ := Aside0.mk (Kd.R_elder' (by (with_reducible repeat (first | apply Kd.R_alloc | apply Kd.R_drewN | apply Kd.R_drew)); exact HO112.out) (Kd.R_base ho1) hb); have n2_ := Aside0.mk (Kd.S_lower (Kd.S_new' (Kd.S_new' ho0 (Kd.S_lt (by (with_reducible repeat (first | apply Kd.S_alloc | apply Kd.S_drewN | apply Kd.S_drew)); exact HO110.out))) (Kd.R_lt (by (with_reducible repeat (first | apply Kd.R_alloc | apply Kd.R_drewN | apply Kd.R_drew)); exact HO112.out))) (below_size (by repeat (first | (with_reducible first | exact HB.out | apply below_alloc | apply pw_below_drewN | apply below_drew1) | exact HB.out)))); have n3_ := Aside0.mk (Kd.R_lower (Kd.R_new' ho1 (Kd.R_lt (by (with_reducible repeat (first | apply Kd.R_alloc | apply Kd.R_drewN | apply Kd.R_drew)); exact HO112.out))) (below_size (by repeat (first | (with_reducible first | exact HB.out | apply below_alloc | apply pw_below_drewN | apply below_drew1) | exact HB.out)))); have n4_ := Aside0.mk (below_step (by repeat (first | (with_reducible first | exact HB.out | apply below_alloc | apply pw_below_drewN | apply below_drew1) | exact HB.out)) hb); clear HO110; clear HO112; clear HB; have HO110 := n0_; have HO112 := n1_; have HO116 := n2_; have HO118 := n3_; have HB := n4_; clear n0_ n1_ n2_ n3_ n4_; (try clear hb); (try clear hb2); (try clear hk); (try clear hi); (try clear ho0); (try clear ho1)) | ((with_reducible refine gate_callee (f := 10) rfl ?_); refine goesL_ (some 62) rfl rfl Try.func10 (by kernel_rfl) rfl #[.int .i64 a0, .int .i64 a1, .slice none 0 0, .slice A3 l3.length c3] rfl (by (try simp only [List.map_toArray, List.map_cons, List.map_nil]); first | done | rfl | (simp only [List.length_drop, List.length_take]; rfl)) ?_; (refine (evict_Plan.calls a0 a1 _ _ ([] : List Int) _ _ l3 t119 t120 _ ?side1 ?side2 ?side3 ?side4 A21.out).mono ?_); (case side1 => exact Kd.C_nil _ _); (case side2 => exact Nat.le_refl _); (case side3 => repeat (first | exact (Kd.C_below HR3.out HB.out) | (with_reducible refine Kd.C_alloc ?_ _) | (with_reducible refine Kd.C_drewN ?_ _) | (with_reducible refine Kd.C_drew ?_))); (case side4 => exact HC3.out); rintro e w24 ⟨v121, v123, rfl, ho0, ho1, hb⟩; refine ⟨_, rfl, ?_⟩; have n0_ := Aside0.mk (Kd.S_mono (Kd.S_told (Kd.S_told (Kd.S_old (by (with_reducible repeat (first | apply Kd.S_alloc | apply Kd.S_drewN | apply Kd.S_drew)); exact HO110.out) hb) (Kd.S_base ho0)) (Kd.R_base ho1)) (fun _ h_ => h_.1)); have n1_ := Aside0.mk (Kd.R_elder' (by (with_reducible repeat (first | apply Kd.R_alloc | apply Kd.R_drewN | apply Kd.R_drew)); exact HO112.out) (Kd.R_base ho1) hb); have n2_ := Aside0.mk (Kd.S_mono (Kd.S_told (Kd.S_told (Kd.S_old (by (with_reducible repeat (first | apply Kd.S_alloc | apply Kd.S_drewN | apply Kd.S_drew)); exact HO116.out) hb) (Kd.S_base ho0)) (Kd.R_base ho1)) (fun _ h_ => h_.1)); have n3_ := Aside0.mk (Kd.R_elder' (by (with_reducible repeat (first | apply Kd.R_alloc | apply Kd.R_drewN | apply Kd.R_drew)); exact HO118.out) (Kd.R_base ho1) hb); have n4_ := Aside0.mk (Kd.S_lower (Kd.S_new' (Kd.S_new' (Kd.S_new' (Kd.S_new' ho0 (Kd.S_lt (by (with_reducible repeat (first | apply Kd.S_alloc | apply Kd.S_drewN | apply Kd.S_drew)); exact HO110.out))) (Kd.R_lt (by (with_reducible repeat (first | apply Kd.R_alloc | apply Kd.R_drewN | apply Kd.R_drew)); exact HO112.out))) (Kd.S_lt (by (with_reducible repeat (first | apply Kd.S_alloc | apply Kd.S_drewN | apply Kd.S_drew)); exact HO116.out))) (Kd.R_lt (by (with_reducible repeat (first | apply Kd.R_alloc | apply Kd.R_drewN | apply Kd.R_drew)); exact HO118.out))) (below_size (by repeat (first | (with_reducible first | exact HB.out | apply below_alloc | apply pw_below_drewN | apply below_drew1) | exact HB.out)))); have n5_ := Aside0.mk (Kd.R_lower (Kd.R_new' (Kd.R_new' ho1 (Kd.R_lt (by (with_reducible repeat (first | apply Kd.R_alloc | apply Kd.R_drewN | apply Kd.R_drew)); exact HO112.out))) (Kd.R_lt (by (with_reducible repeat (first | apply Kd.R_alloc | apply Kd.R_drewN | apply Kd.R_drew)); exact HO118.out))) (below_size (by repeat (first | (with_reducible first | exact HB.out | apply below_alloc | apply pw_below_drewN | apply below_drew1) | exact HB.out)))); have n6_ := Aside0.mk (below_step (by repeat (first | (with_reducible first | exact HB.out | apply below_alloc | apply pw_below_drewN | apply below_drew1) | exact HB.out)) hb); clear HO110; clear HO112; clear HO116; clear HO118; clear HB; have HO110 := n0_; have HO112 := n1_; have HO116 := n2_; have HO118 := n3_; have HO122 := n4_; have HO124 := n5_; have HB := n6_; clear n0_ n1_ n2_ n3_ n4_ n5_ n6_; (try clear hb); (try clear hb2); (try clear hk); (try clear hi); (try clear ho0); (try clear ho1)))
          go_loopg [15, 16] kj6 (fun kq v15 v16 w' => ∃ (x15_2 : List Int) (x16_2 : Int), v16 = .int .i64 x16_2 ∧ Aside0 (oublaw11_EvictMore.l0 kq l3 t108 t113 t114 t119 t120 x15_2 x16_2 = some r) ∧ Aside0 (kq ≤ kj6) ∧ Aside0 (Kd.R (Kd.int .i64) 3 w' w.heap.size (fun k_ => some k_ ≠ (v117 : Value).ownBlock ∧ some k_ ≠ (v123 : Value).ownBlock ∧ some k_ ≠ (v15 : Value).ownBlock) v111 t108) ∧ Aside0 (Kd.S k36 36 w' w.heap.size (fun k_ => some k_ ≠ (v111 : Value).ownBlock ∧ some k_ ≠ (v117 : Value).ownBlock ∧ some k_ ≠ (v121 : Value).ownBlock ∧ some k_ ≠ (v123 : Value).ownBlock ∧ some k_ ≠ (v15 : Value).ownBlock) v115 t113) ∧ Aside0 (Kd.R (Kd.int .i64) 3 w' w.heap.size (fun k_ => some k_ ≠ (v111 : Value).ownBlock ∧ some k_ ≠ (v123 : Value).ownBlock ∧ some k_ ≠ (v15 : Value).ownBlock) v117 t114) ∧ Aside0 (Kd.S k36 36 w' w.heap.size (fun k_ => some k_ ≠ (v111 : Value).ownBlock ∧ some k_ ≠ (v115 : Value).ownBlock ∧ some k_ ≠ (v117 : Value).ownBlock ∧ some k_ ≠ (v123 : Value).ownBlock ∧ some k_ ≠ (v15 : Value).ownBlock) v121 t119) ∧ Aside0 (Kd.R (Kd.int .i64) 3 w' w.heap.size (fun k_ => some k_ ≠ (v111 : Value).ownBlock ∧ some k_ ≠ (v117 : Value).ownBlock ∧ some k_ ≠ (v15 : Value).ownBlock) v123 t120) ∧ Aside0 (Kd.R (Kd.int .i64) 3 w' w.heap.size (fun k_ => some k_ ≠ (v111 : Value).ownBlock ∧ some k_ ≠ (v117 : Value).ownBlock ∧ some k_ ≠ (v123 : Value).ownBlock) v15 x15_2) ∧ Aside0 (Below w.heap.size w w'))
          case atStart => exact ⟨(([] : List Int)), (0), (by first | rfl | (simp; done) | (simp [*]; done)), H', ⟨Nat.le_refl _⟩, ⟨by (with_reducible repeat (first | apply Kd.R_alloc | apply Kd.R_drewN | apply Kd.R_drew)); exact Kd.R_mono HO112.out (fun _ hk => ⟨hk.1.2, ⟨hk.2, (by simp [Value.ownBlock])⟩⟩)⟩, ⟨by (with_reducible repeat (first | apply Kd.S_alloc | apply Kd.S_drewN | apply Kd.S_drew)); exact Kd.S_mono HO116.out (fun _ hk => ⟨hk.1.1.2, ⟨hk.1.1.1.1, ⟨hk.1.2, ⟨hk.2, (by simp [Value.ownBlock])⟩⟩⟩⟩)⟩, ⟨by (with_reducible repeat (first | apply Kd.R_alloc | apply Kd.R_drewN | apply Kd.R_drew)); exact Kd.R_mono HO118.out (fun _ hk => ⟨hk.1.2, ⟨hk.2, (by simp [Value.ownBlock])⟩⟩)⟩, ⟨by (with_reducible repeat (first | apply Kd.S_alloc | apply Kd.S_drewN | apply Kd.S_drew)); exact Kd.S_mono HO122.out (fun _ hk => ⟨hk.1.1.2, ⟨hk.1.2, ⟨hk.2, ⟨hk.1.1.1.1, (by simp [Value.ownBlock])⟩⟩⟩⟩)⟩, ⟨by (with_reducible repeat (first | apply Kd.R_alloc | apply Kd.R_drewN | apply Kd.R_drew)); exact Kd.R_mono HO124.out (fun _ hk => ⟨hk.1.2, ⟨hk.2, (by simp [Value.ownBlock])⟩⟩)⟩, ⟨by first | exact Kd.R_nil _ _ _ _ _ | exact Kd.N_nil _ _ _ _ _ | exact Kd.V_nil _ _ _ _ _ | exact Kd.Q_nil _ _ _ _ _ | exact Kd.S_nil _ _ _ _ _⟩, ⟨by repeat (first | (with_reducible first | exact HB.out | apply below_alloc | apply pw_below_drewN | apply below_drew1) | exact HB.out)⟩⟩
          case round =>
            clear H'
            try clear c1
            try clear c2
            try clear p2
            try clear c3
            try clear c5
            try clear c6
            try clear p6
            try clear c7
            try clear c9
            try clear c9b0
            try clear c9b1
            try clear c10
            try clear c10b0
            try clear c10b1
            try clear c11
            try clear c11b0
            try clear c16
            try clear p2
            obtain ⟨x15_2, x16_2, rfl, HA, HK2, HO_10, HO_11, HO_12, HO_13, HO_14, HO_15, HB⟩ := hrel
            cases gk with
            | zero => exact absurd HA.out (by simp [oublaw11_EvictMore.l0])
            | succ k2 =>
              have H := HA.out
              clear HA
              simp only [oublaw11_EvictMore.l0] at H
              by_cases c25 : x16_2 < (l3.length : Int)
              · rw [if_pos c25] at H
                have c25b0 : decide (x16_2 < (l3.length : Int)) = true := decide_eq_true c25
                clear c25
                by_cases c26 : 0 ≤ x16_2
                · rw [if_pos c26] at H
                  have c26b0 : decide (0 ≤ x16_2) = true := decide_eq_true c26
                  clear c26
                  by_cases c27 : x15_2.length < 17592186044416
                  · rw [if_pos c27] at H
                    have LMc27 := Aside0.mk c27
                    clear c27
                    obtain ⟨y126, hy126⟩ : ∃ y_ : List Int, y_ = (x15_2 ++ [(rd_T39 l3 x16_2).f0]) := ⟨_, rfl⟩
                    replace H : (oublaw11_EvictMore.l0 k2 l3 t108 t113 t114 t119 t120 y126 (wrap64 (x16_2 + 1))) = some r := by first | (rw [hy126]; with_reducible exact H) | (have H2_ := (Option.bind_some _ _).symm.trans H; rw [hy126]; with_reducible exact H2_) | (have H2_ := (Option.bind_some _ _).symm.trans H; with_reducible exact H2_) | with_reducible exact H | (rw [hy126]; exact H) | exact H
                    have Ny126 := Aside0.mk hy126
                    clear hy126
                    have H' := Aside0.mk H
                    clear H
                    have p125 : 0 ≤ (x16_2 : Int) := of_decide_eq_true (by first | (with_reducible assumption) | assumption)
                    have q125 : x16_2 < (l3.length : Int) := of_decide_eq_true (by first | (with_reducible assumption) | assumption)
                    obtain ⟨ad125, e125, hx125_0, hx125_1⟩ := at_T39 HR3.out x16_2 p125 q125
                    cases e125
                    replace hx125_0 := (HB.out.cell (World.block_lt_of_cell? w _ hx125_0)).trans hx125_0
                    replace hx125_1 := (HB.out.cell (World.block_lt_of_cell? w _ hx125_1)).trans hx125_1
                    replace p125 := eq_true p125
                    replace q125 := eq_true q125
                    go_wp2_with (first | ((with_reducible refine gate_builtin (b := .append) (xs := #[.tmp 71, .tmp 77]) rfl ?_); (try (refine gate_guard (by rfl) ?_; dsimp only)); at_builtin; refine Kd.R_append (Kd.int .i64) (w0 := w) w.heap.size rfl (.tmp 71) (.tmp 77) 22 3 (.int .i64 0) 8 rfl Try.underlying22 info3 rfl (by decide) (by omega) u15 x15_2 ((rd_T39 l3 x16_2).f0) [.int .i64 ((rd_T39 l3 x16_2).f0)] (fun k_ => some k_ ≠ (v111 : Value).ownBlock ∧ some k_ ≠ (v117 : Value).ownBlock ∧ some k_ ≠ (v123 : Value).ownBlock) (fun _ => False) rfl rfl ?aP (fun _ hk => hk.elim) ?aF ?aO ?aB ?aS ?aL ?_; (case aP => exact rfl); (case aB => exact (by repeat (first | (with_reducible first | exact HB.out | apply below_alloc | apply pw_below_drewN | apply below_drew1) | exact HB.out))); (case aF => exact (fun k_ hk => ⟨Kd.fresh' (Kd.R_lt (by (with_reducible repeat (first | apply Kd.R_alloc | apply Kd.R_drewN | apply Kd.R_drew)); exact HO_10.out)) k_ hk, Kd.fresh' (Kd.R_lt (by (with_reducible repeat (first | apply Kd.R_alloc | apply Kd.R_drewN | apply Kd.R_drew)); exact HO_12.out)) k_ hk, Kd.fresh' (Kd.R_lt (by (with_reducible repeat (first | apply Kd.R_alloc | apply Kd.R_drewN | apply Kd.R_drew)); exact HO_14.out)) k_ hk⟩)); (case aO => exact (by (with_reducible repeat (first | apply Kd.R_alloc | apply Kd.R_drewN | apply Kd.R_drew)); exact HO_15.out)); (case aS => exact (below_size (by repeat (first | (with_reducible first | exact HB.out | apply below_alloc | apply pw_below_drewN | apply below_drew1) | exact HB.out)))); (case aL => have := LMc27.out; omega); intro v127 w28 ho hb hg hat; rw [← Ny126.out] at ho; have n0_ := Aside0.mk (Kd.R_after (ok := (fun k_ => some k_ ≠ (v117 : Value).ownBlock ∧ some k_ ≠ (v123 : Value).ownBlock)) (by (with_reducible repeat (first | apply Kd.R_alloc | apply Kd.R_drewN | apply Kd.R_drew)); exact Kd.R_mono HO_10.out (fun _ hk => ⟨⟨hk.1, hk.2.1⟩, hk.2.2⟩)) hg hat); have n1_ := Aside0.mk (Kd.S_after (ok := (fun k_ => some k_ ≠ (v111 : Value).ownBlock ∧ some k_ ≠ (v117 : Value).ownBlock ∧ some k_ ≠ (v121 : Value).ownBlock ∧ some k_ ≠ (v123 : Value).ownBlock)) (by (with_reducible repeat (first | apply Kd.S_alloc | apply Kd.S_drewN | apply Kd.S_drew)); exact Kd.S_mono HO_11.out (fun _ hk => ⟨⟨hk.1, ⟨hk.2.1, ⟨hk.2.2.1, hk.2.2.2.1⟩⟩⟩, hk.2.2.2.2⟩)) hg hat); have n2_ := Aside0.mk (Kd.R_after (ok := (fun k_ => some k_ ≠ (v111 : Value).ownBlock ∧ some k_ ≠ (v123 : Value).ownBlock)) (by (with_reducible repeat (first | apply Kd.R_alloc | apply Kd.R_drewN | apply Kd.R_drew)); exact Kd.R_mono HO_12.out (fun _ hk => ⟨⟨hk.1, hk.2.1⟩, hk.2.2⟩)) hg hat); have n3_ := Aside0.mk (Kd.S_after (ok := (fun k_ => some k_ ≠ (v111 : Value).ownBlock ∧ some k_ ≠ (v115 : Value).ownBlock ∧ some k_ ≠ (v117 : Value).ownBlock ∧ some k_ ≠ (v123 : Value).ownBlock)) (by (with_reducible repeat (first | apply Kd.S_alloc | apply Kd.S_drewN | apply Kd.S_drew)); exact Kd.S_mono HO_13.out (fun _ hk => ⟨⟨hk.1, ⟨hk.2.1, ⟨hk.2.2.1, hk.2.2.2.1⟩⟩⟩, hk.2.2.2.2⟩)) hg hat); have n4_ := Aside0.mk (Kd.R_after (ok := (fun k_ => some k_ ≠ (v111 : Value).ownBlock ∧ some k_ ≠ (v117 : Value).ownBlock)) (by (with_reducible repeat (first | apply Kd.R_alloc | apply Kd.R_drewN | apply Kd.R_drew)); exact Kd.R_mono HO_14.out (fun _ hk => ⟨⟨hk.1, hk.2.1⟩, hk.2.2⟩)) hg hat); have n5_ := Aside0.mk (hb); have n6_ := Aside0.mk (ho); clear HO_10; clear HO_11; clear HO_12; clear HO_13; clear HO_14; clear HB; clear HO_15; have HO_10 := n0_; have HO_11 := n1_; have HO_12 := n2_; have HO_13 := n3_; have HO_14 := n4_; have HB := n5_; have HO128 := n6_; clear n0_ n1_ n2_ n3_ n4_ n5_ n6_; clear ho hb hg hat))
                    go_roundg k2
                    case measure => have := HJ6.out; have := HK2.out; omega
                    case rel => exact ⟨(y126), (wrap64 (x16_2 + 1)), (by first | rfl | (simp; done) | (simp [*]; done)), H', ⟨by have := HJ6.out; have := HK2.out; omega⟩, ⟨by (with_reducible repeat (first | apply Kd.R_alloc | apply Kd.R_drewN | apply Kd.R_drew)); exact Kd.R_mono HO_10.out (fun _ hk => ⟨hk.1.1, ⟨hk.1.2, hk.2⟩⟩)⟩, ⟨by (with_reducible repeat (first | apply Kd.S_alloc | apply Kd.S_drewN | apply Kd.S_drew)); exact Kd.S_mono HO_11.out (fun _ hk => ⟨hk.1.1, ⟨hk.1.2.1, ⟨hk.1.2.2.1, ⟨hk.1.2.2.2, hk.2⟩⟩⟩⟩)⟩, ⟨by (with_reducible repeat (first | apply Kd.R_alloc | apply Kd.R_drewN | apply Kd.R_drew)); exact Kd.R_mono HO_12.out (fun _ hk => ⟨hk.1.1, ⟨hk.1.2, hk.2⟩⟩)⟩, ⟨by (with_reducible repeat (first | apply Kd.S_alloc | apply Kd.S_drewN | apply Kd.S_drew)); exact Kd.S_mono HO_13.out (fun _ hk => ⟨hk.1.1, ⟨hk.1.2.1, ⟨hk.1.2.2.1, ⟨hk.1.2.2.2, hk.2⟩⟩⟩⟩)⟩, ⟨by (with_reducible repeat (first | apply Kd.R_alloc | apply Kd.R_drewN | apply Kd.R_drew)); exact Kd.R_mono HO_14.out (fun _ hk => ⟨hk.1.1, ⟨hk.1.2, hk.2⟩⟩)⟩, ⟨by (with_reducible repeat (first | apply Kd.R_alloc | apply Kd.R_drewN | apply Kd.R_drew)); exact HO128.out⟩, ⟨by repeat (first | (with_reducible first | exact HB.out | apply below_alloc | apply pw_below_drewN | apply below_drew1) | exact HB.out)⟩⟩
                  · rw [if_neg c27] at H
                    exact absurd H (by simp)
                · rw [if_neg c26] at H
                  exact absurd H (by simp)
              · rw [if_neg c25] at H
                have c25b0 : decide (x16_2 < (l3.length : Int)) = false := decide_eq_false c25
                clear c25
                replace H := Option.bind_eq_some_iff.mp H
                obtain ⟨t129, A290, H⟩ := H
                replace H : (if t129 = true then (if (t108.length : Int) ≤ (t114.length : Int) then ((evict_Held.f k2 t113).bind fun t130 => (if t130 = (wrap64 ((l3.length : Int) - (t114.length : Int))) then (if (t119.length : Int) = 0 then ((oubref_Sorted.f x15_2).bind fun t131 => ((oubref_Ints.f k2 t120 t131).bind fun t134 => (some t134))) else (some false)) else (some false))) else (some false)) else (some false)) = some r := H
                have A29 := Aside0.mk A290
                clear A290
                by_cases c30 : t129 = true
                · subst c30
                  have H1 : (if (t108.length : Int) ≤ (t114.length : Int) then ((evict_Held.f k2 t113).bind fun t130 => (if t130 = (wrap64 ((l3.length : Int) - (t114.length : Int))) then (if (t119.length : Int) = 0 then ((oubref_Sorted.f x15_2).bind fun t131 => ((oubref_Ints.f k2 t120 t131).bind fun t134 => (some t134))) else (some false)) else (some false))) else (some false)) = some r := by rw [if_pos rfl] at H; exact H
                  clear H
                  have H := H1
                  clear H1
                  by_cases c31 : (t108.length : Int) ≤ (t114.length : Int)
                  · rw [if_pos c31] at H
                    have c31b0 : decide ((t108.length : Int) ≤ (t114.length : Int)) = true := decide_eq_true c31
                    have c31b1 : decide (t108.length ≤ t114.length) = true := decide_eq_true (Int.ofNat_le.mp c31)
                    clear c31
                    replace H := Option.bind_eq_some_iff.mp H
                    obtain ⟨t130, A320, H⟩ := H
                    replace H : (if t130 = (wrap64 ((l3.length : Int) - (t114.length : Int))) then (if (t119.length : Int) = 0 then ((oubref_Sorted.f x15_2).bind fun t131 => ((oubref_Ints.f k2 t120 t131).bind fun t134 => (some t134))) else (some false)) else (some false)) = some r := H
                    have A32 := Aside0.mk A320
                    clear A320
                    by_cases c33 : t130 = (wrap64 ((l3.length : Int) - (t114.length : Int)))
                    · rw [if_pos c33] at H
                      have c33b0 : (t130 == (wrap64 ((l3.length : Int) - (t114.length : Int)))) = true := beq_iff_eq.mpr c33
                      have c33b1 : (t130 != (wrap64 ((l3.length : Int) - (t114.length : Int)))) = false := bne_eq_false_iff_eq.mpr c33
                      clear c33
                      by_cases c34 : (t119.length : Int) = 0
                      · rw [if_pos c34] at H
                        have c34b0 : ((t119.length : Int) == 0) = true := beq_iff_eq.mpr c34
                        have c34b1 : ((t119.length : Int) != 0) = false := bne_eq_false_iff_eq.mpr c34
                        clear c34
                        replace H := Option.bind_eq_some_iff.mp H
                        obtain ⟨t131, A350, H⟩ := H
                        replace H : ((oubref_Ints.f k2 t120 t131).bind fun t134 => (some t134)) = some r := H
                        have A35 := Aside0.mk A350
                        clear A350
                        replace H := Option.bind_eq_some_iff.mp H
                        obtain ⟨t134, A360, H⟩ := H
                        replace H : (some t134) = some r := H
                        have A36 := Aside0.mk A360
                        clear A360
                        obtain rfl := Option.some.inj H
                        go_wp2_with (first | ((with_reducible refine gate_callee (f := 7) rfl ?_); refine goesL_ (some 79) rfl rfl Try.func7 (by kernel_rfl) rfl #[] rfl (by (try simp only [List.map_toArray, List.map_cons, List.map_nil]); first | done | rfl | (simp only [List.length_drop, List.length_take]; rfl)) ?_; (with_reducible refine (oublaw11_first.calls  true _ A29.out).mono ?_); rintro e w37 ⟨rfl, hb⟩; refine ⟨_, rfl, ?_⟩; have n0_ := Aside0.mk (Kd.R_below (by (with_reducible repeat (first | apply Kd.R_alloc | apply Kd.R_drewN | apply Kd.R_drew)); exact HO_10.out) hb); have n1_ := Aside0.mk (Kd.S_below (by (with_reducible repeat (first | apply Kd.S_alloc | apply Kd.S_drewN | apply Kd.S_drew)); exact HO_11.out) hb); have n2_ := Aside0.mk (Kd.R_below (by (with_reducible repeat (first | apply Kd.R_alloc | apply Kd.R_drewN | apply Kd.R_drew)); exact HO_12.out) hb); have n3_ := Aside0.mk (Kd.S_below (by (with_reducible repeat (first | apply Kd.S_alloc | apply Kd.S_drewN | apply Kd.S_drew)); exact HO_13.out) hb); have n4_ := Aside0.mk (Kd.R_below (by (with_reducible repeat (first | apply Kd.R_alloc | apply Kd.R_drewN | apply Kd.R_drew)); exact HO_14.out) hb); have n5_ := Aside0.mk (Kd.R_below (by (with_reducible repeat (first | apply Kd.R_alloc | apply Kd.R_drewN | apply Kd.R_drew)); exact HO_15.out) hb); have n6_ := Aside0.mk (below_step (by repeat (first | (with_reducible first | exact HB.out | apply below_alloc | apply pw_below_drewN | apply below_drew1) | exact HB.out)) hb); clear HO_10; clear HO_11; clear HO_12; clear HO_13; clear HO_14; clear HO_15; clear HB; have HO_10 := n0_; have HO_11 := n1_; have HO_12 := n2_; have HO_13 := n3_; have HO_14 := n4_; have HO_15 := n5_; have HB := n6_; clear n0_ n1_ n2_ n3_ n4_ n5_ n6_; (try clear hb); (try clear hb2); (try clear hk); (try clear hi); obtain ⟨Ao38, co38, eo38⟩ := Kd.R_slice HO_10.out; subst eo38; obtain ⟨Ao39, co39, eo39⟩ := Kd.R_slice HO_12.out; subst eo39; obtain ⟨Ao40, co40, eo40⟩ := Kd.S_slice HO_11.out; subst eo40) | (go_at_call 14; (with_reducible refine (evict_Held.calls k2 _ _ t113 t130 _ ?side1 ?side2 A32.out).mono ?_); (case side1 => repeat (first | exact (Kd.S_reads' HO_11.out).2.2 | (with_reducible refine Kd.C_alloc ?_ _) | (with_reducible refine Kd.C_drewN ?_ _) | (with_reducible refine Kd.C_drew ?_))); (case side2 => exact (Kd.S_reads' HO_11.out).2.1); rintro e w41 ⟨rfl, hb⟩; have n0_ := Aside0.mk (Kd.R_below (by (with_reducible repeat (first | apply Kd.R_alloc | apply Kd.R_drewN | apply Kd.R_drew)); exact HO_10.out) hb); have n1_ := Aside0.mk (Kd.S_below (by (with_reducible repeat (first | apply Kd.S_alloc | apply Kd.S_drewN | apply Kd.S_drew)); exact HO_11.out) hb); have n2_ := Aside0.mk (Kd.R_below (by (with_reducible repeat (first | apply Kd.R_alloc | apply Kd.R_drewN | apply Kd.R_drew)); exact HO_12.out) hb); have n3_ := Aside0.mk (Kd.S_below (by (with_reducible repeat (first | apply Kd.S_alloc | apply Kd.S_drewN | apply Kd.S_drew)); exact HO_13.out) hb); have n4_ := Aside0.mk (Kd.R_below (by (with_reducible repeat (first | apply Kd.R_alloc | apply Kd.R_drewN | apply Kd.R_drew)); exact HO_14.out) hb); have n5_ := Aside0.mk (Kd.R_below (by (with_reducible repeat (first | apply Kd.R_alloc | apply Kd.R_drewN | apply Kd.R_drew)); exact HO_15.out) hb); have n6_ := Aside0.mk (below_step (by repeat (first | (with_reducible first | exact HB.out | apply below_alloc | apply pw_below_drewN | apply below_drew1) | exact HB.out)) hb); clear HO_10; clear HO_11; clear HO_12; clear HO_13; clear HO_14; clear HO_15; clear HB; have HO_10 := n0_; have HO_11 := n1_; have HO_12 := n2_; have HO_13 := n3_; have HO_14 := n4_; have HO_15 := n5_; have HB := n6_; clear n0_ n1_ n2_ n3_ n4_ n5_ n6_; (try clear hb); (try clear hb2); (try clear hk); (try clear hi); obtain ⟨Ao42, co42, eo42⟩ := Kd.S_slice HO_13.out; subst eo42; obtain ⟨Ao43, co43, eo43⟩ := Kd.R_slice HO_15.out; subst eo43) | (go_at_call 20; (with_reducible refine (oubref_Sorted.calls _ _ x15_2 t131 _ ?side1 ?side2 A35.out).mono ?_); (case side1 => repeat (first | exact (Kd.R_reads' HO_15.out).2.2 | (with_reducible refine Kd.C_alloc ?_ _) | (with_reducible refine Kd.C_drewN ?_ _) | (with_reducible refine Kd.C_drew ?_))); (case side2 => exact (Kd.R_reads' HO_15.out).2.1); rintro e w44 ⟨v132, rfl, ho0, hb⟩; have n0_ := Aside0.mk (Kd.R_elder' (by (with_reducible repeat (first | apply Kd.R_alloc | apply Kd.R_drewN | apply Kd.R_drew)); exact HO_10.out) (Kd.R_base ho0) hb); have n1_ := Aside0.mk (Kd.S_elder' (by (with_reducible repeat (first | apply Kd.S_alloc | apply Kd.S_drewN | apply Kd.S_drew)); exact HO_11.out) (Kd.R_base ho0) hb); have n2_ := Aside0.mk (Kd.R_elder' (by (with_reducible repeat (first | apply Kd.R_alloc | apply Kd.R_drewN | apply Kd.R_drew)); exact HO_12.out) (Kd.R_base ho0) hb); have n3_ := Aside0.mk (Kd.S_elder' (by (with_reducible repeat (first | apply Kd.S_alloc | apply Kd.S_drewN | apply Kd.S_drew)); exact HO_13.out) (Kd.R_base ho0) hb); have n4_ := Aside0.mk (Kd.R_elder' (by (with_reducible repeat (first | apply Kd.R_alloc | apply Kd.R_drewN | apply Kd.R_drew)); exact HO_14.out) (Kd.R_base ho0) hb); have n5_ := Aside0.mk (Kd.R_elder' (by (with_reducible repeat (first | apply Kd.R_alloc | apply Kd.R_drewN | apply Kd.R_drew)); exact HO_15.out) (Kd.R_base ho0) hb); have n6_ := Aside0.mk (Kd.R_lower (Kd.R_new' (Kd.R_new' (Kd.R_new' (Kd.R_new' ho0 (Kd.R_lt (by (with_reducible repeat (first | apply Kd.R_alloc | apply Kd.R_drewN | apply Kd.R_drew)); exact HO_10.out))) (Kd.R_lt (by (with_reducible repeat (first | apply Kd.R_alloc | apply Kd.R_drewN | apply Kd.R_drew)); exact HO_12.out))) (Kd.R_lt (by (with_reducible repeat (first | apply Kd.R_alloc | apply Kd.R_drewN | apply Kd.R_drew)); exact HO_14.out))) (Kd.R_lt (by (with_reducible repeat (first | apply Kd.R_alloc | apply Kd.R_drewN | apply Kd.R_drew)); exact HO_15.out))) (below_size (by repeat (first | (with_reducible first | exact HB.out | apply below_alloc | apply pw_below_drewN | apply below_drew1) | exact HB.out)))); have n7_ := Aside0.mk (below_step (by repeat (first | (with_reducible first | exact HB.out | apply below_alloc | apply pw_below_drewN | apply below_drew1) | exact HB.out)) hb); clear HO_10; clear HO_11; clear HO_12; clear HO_13; clear HO_14; clear HO_15; clear HB; have HO_10 := n0_; have HO_11 := n1_; have HO_12 := n2_; have HO_13 := n3_; have HO_14 := n4_; have HO_15 := n5_; have HO133 := n6_; have HB := n7_; clear n0_ n1_ n2_ n3_ n4_ n5_ n6_ n7_; (try clear hb); (try clear hb2); (try clear hk); (try clear hi); (try clear ho0); obtain ⟨Ao45, co45, eo45⟩ := Kd.R_slice HO_14.out; subst eo45; obtain ⟨Ao46, co46, eo46⟩ := Kd.R_slice HO133.out; subst eo46) | (go_at_call 11; (with_reducible refine (oubref_Ints.calls k2 _ _ t120 _ _ t131 t134 _ ?side1 ?side2 ?side3 ?side4 A36.out).mono ?_); (case side1 => repeat (first | exact (Kd.R_reads' HO_14.out).2.2 | (with_reducible refine Kd.C_alloc ?_ _) | (with_reducible refine Kd.C_drewN ?_ _) | (with_reducible refine Kd.C_drew ?_))); (case side2 => exact (Kd.R_reads' HO_14.out).2.1); (case side3 => repeat (first | exact (Kd.R_reads' HO133.out).2.2 | (with_reducible refine Kd.C_alloc ?_ _) | (with_reducible refine Kd.C_drewN ?_ _) | (with_reducible refine Kd.C_drew ?_))); (case side4 => exact (Kd.R_reads' HO133.out).2.1); rintro e w' ⟨rfl, ⟨nd, rfl⟩⟩))
                        go_ret
                        exact ⟨by first | rfl | (simp [errW_none, errW_some] <;> rfl) | (simp [*, errW_none, errW_some] <;> rfl), by repeat (first | (with_reducible first | exact HB.out | apply below_alloc | apply pw_below_drewN | apply below_drew1) | exact HB.out)⟩
                      · rw [if_neg c34] at H
                        have c34b0 : ((t119.length : Int) == 0) = false := beq_eq_false_iff_ne.mpr c34
                        have c34b1 : ((t119.length : Int) != 0) = true := bne_iff_ne.mpr c34
                        have c34b2 : ¬ (t119 = []) := fun h_ => c34 (by rw [h_]; rfl)
                        exact absurd (Option.some.inj H) (by rw [HT.out]; decide)
                    · rw [if_neg c33] at H
                      have c33b0 : (t130 == (wrap64 ((l3.length : Int) - (t114.length : Int)))) = false := beq_eq_false_iff_ne.mpr c33
                      have c33b1 : (t130 != (wrap64 ((l3.length : Int) - (t114.length : Int)))) = true := bne_iff_ne.mpr c33
                      exact absurd (Option.some.inj H) (by rw [HT.out]; decide)
                  · rw [if_neg c31] at H
                    have c31b0 : decide ((t108.length : Int) ≤ (t114.length : Int)) = false := decide_eq_false c31
                    have c31b1 : decide (t108.length ≤ t114.length) = false := decide_eq_false (fun h => c31 (Int.ofNat_le.mpr h))
                    clear c31
                    exact absurd (Option.some.inj H) (by rw [HT.out]; decide)
                · replace c30 := Bool.eq_false_iff.mpr c30
                  subst c30
                  have H1 : (some false) = some r := by rw [if_neg (show ¬ (false = true) by decide)] at H; exact H
                  clear H
                  have H := H1
                  clear H1
                  exact absurd (Option.some.inj H) (by rw [HT.out]; decide)
  · replace c6 := Bool.eq_false_iff.mpr c6
    subst c6
    have H1 : (some false) = some r := by rw [if_neg (show ¬ (false = true) by decide)] at H; exact H
    clear H
    have H := H1
    clear H1
    exact absurd (Option.some.inj H) (by rw [HT.out]; decide)

end Go.Proofs.Ytfliapankgdeeaa.M
