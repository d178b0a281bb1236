import Derived.Test.YtfliapankgdeeaaGreatEvQ
import Derived.Deep.RegionWith
import Derived.Lib.Hide
/- oubref.Sorted: the numbers, rising. -/
namespace Go.Proofs.YtfliapankgdeeaaGreat.A
open Go.RowKit Go.Shelf Go.Lib Go.Sort Go.Proofs.YtfliapankgdeeaaGreatW.PrintWords Go.Proofs.YtfliapankgdeeaaGreatW.PrintLast Go.Proofs.YtfliapankgdeeaaGreatW.PrintMore Go.Proofs.YtfliapankgdeeaaGreat.G
set_option linter.unusedVariables false
set_option linter.unusedSimpArgs false

theorem drewB (w : World) : Below w.heap.size w w.drew := ⟨rfl, rfl, rfl, Nat.le_refl _, fun _ _ => rfl⟩
theorem cell_up {w w1 : World} {a : Addr} {v : Value} (h : Below w.heap.size w w1) (hc : w.cell? a = some v) : w1.cell? a = some v := (h.cell (World.block_lt_of_cell? w _ hc)).trans hc
theorem drop_C1 {w : World} {base n c k : Nat} {A : Option Addr} {xs : List Int} (h : Kd.R (Kd.int .i64) 3 w base (fun _ => True) (.slice A n c) xs) (hk : k ≤ xs.length) : Kd.C (Kd.int .i64) w (if c = k then A else A.map (·.add k)) (n - k) (xs.drop k) := by
  obtain ⟨rfl, hc, hC⟩ := Kd.R_reads' h
  have := Kd.C_drop hC hk hc
  rw [List.length_drop] at this
  simp only [show (Kd.int .i64).sz = 1 from rfl, Nat.mul_one] at this
  exact this
/-- A number put in its place. -/
theorem put_sorted {xs : List Int} {x : Int} {k : Nat} (hs : xs.Pairwise (· ≤ ·)) (hk : k ≤ xs.length) (h1 : ∀ t (ht : t < xs.length), k ≤ t → x < xs[t]) (h2 : ∀ t (ht : t < xs.length), t < k → xs[t] ≤ x) : (xs.take k ++ ([x] ++ xs.drop k)).Pairwise (· ≤ ·) := by
  rw [List.pairwise_append]
  refine ⟨hs.sublist (List.take_sublist _ _), ?_, ?_⟩
  · rw [List.singleton_append, List.pairwise_cons]
    refine ⟨fun y hy => ?_, hs.sublist (List.drop_sublist _ _)⟩
    obtain ⟨j, hj, rfl⟩ := List.getElem_of_mem hy
    rw [List.getElem_drop]
    have := h1 (k + j) (by rw [List.length_drop] at hj; omega) (by omega)
    omega
  · intro a ha b hb
    obtain ⟨i, hi, rfl⟩ := List.getElem_of_mem ha
    rw [List.length_take] at hi
    rw [List.getElem_take]
    have hai := h2 i (by omega) (by omega)
    rcases List.mem_append.1 hb with hb | hb
    · rw [List.mem_singleton.1 hb]; exact hai
    · obtain ⟨j, hj, rfl⟩ := List.getElem_of_mem hb
      rw [List.getElem_drop]
      have := h1 (k + j) (by rw [List.length_drop] at hj; omega) (by omega)
      omega
theorem put_perm (xs : List Int) (x : Int) (k : Nat) : (xs.take k ++ ([x] ++ xs.drop k)).Perm (xs ++ [x]) := by
  have h1 : (xs.take k ++ ([x] ++ xs.drop k)).Perm ([x] ++ (xs.take k ++ xs.drop k)) := by
    rw [← List.append_assoc, ← List.append_assoc]
    exact List.Perm.append_right _ List.perm_append_comm
  rw [List.take_append_drop] at h1
  exact h1.trans List.perm_append_comm
theorem isort_unique {l m : List Int} (h : m.Perm l) (hs : m.Pairwise (· ≤ ·)) : m = L.isort l :=
  List.Perm.eq_of_pairwise (fun a b _ _ h1 h2 => by omega) hs (L.isort_sorted l) (h.trans (L.isort_perm l).symm)

set_option maxHeartbeats 8000000 in
set_option maxRecDepth 100000 in
theorem Sorted_calls (A : Option Addr) (c : Nat) (l : List Int) (w : World) (hC : Kd.C (Kd.int .i64) w A l.length l) (hl : l.length < 1000) :
    Calls Tryz.prog 27 #[.slice A l.length c] w fun e w' => ∃ v, e = .returned v ∧ Kd.R (Kd.int .i64) 3 w' w.heap.size (fun _ => True) v (L.isort l) ∧ Below w.heap.size w w' := by
  have hm : Tryz.prog.follows .mixedOrders = true := rfl
  have CC := Aside0.mk hC
  clear hC
  go_enter Tryz.func27, Tryz.ntmps27
  go_wp2
  go_loopg [3, 4] l.length (fun gg vo vi wr => ∃ (i : Nat) (xs : List Int), vi = .int .i64 i ∧ i ≤ l.length ∧ l.length - i ≤ gg ∧ Aside0 (Kd.R (Kd.int .i64) 3 wr w.heap.size (fun _ => True) vo xs) ∧ Aside0 (xs.Perm (l.take i)) ∧ Aside0 (xs.Pairwise (· ≤ ·)) ∧ Aside0 (Below w.heap.size w wr))
  case atStart => exact ⟨0, [], by go_num, Nat.zero_le _, by omega, ⟨Kd.R_nil _ _ _ _ _⟩, ⟨List.Perm.refl _⟩, ⟨List.Pairwise.nil⟩, ⟨Below.refl _ _⟩⟩
  case round =>
    obtain ⟨i, xs, rfl, hi, hg, R1, P1, S1, B1⟩ := hrel
    have hxl : xs.length = i := by rw [P1.out.length_eq, List.length_take]; omega
    by_cases hlt : i < l.length
    · have hltz : (i : Int) < (l.length : Int) := by omega
      obtain ⟨ad, eA, hcell⟩ := (Kd.reads_of_C (d := (0 : Int)) CC.out).2.2 (by omega)
      subst eA
      have cx := hcell i hlt
      obtain ⟨x, hx⟩ : ∃ x, x = l[i] := ⟨_, rfl⟩
      rw [show l.getD i 0 = x by rw [hx]; simp [List.getD, List.getElem?_eq_getElem hlt]] at cx
      have X := Aside0.mk hx
      have CX := Aside0.mk cx
      obtain ⟨A1, c1, rfl, hc1, _⟩ := Kd.R_reads R1.out
      have HXL := Aside0.mk hxl
      clear hcell cx hx hxl
      go_wp2
      go_loopg [5] xs.length (fun gg v5 wr2 => ∃ (k : Nat), v5 = .int .i64 k ∧ k ≤ xs.length ∧ k ≤ gg ∧ Aside0 (∀ t (ht : t < xs.length), k ≤ t → x < xs[t]) ∧ Aside0 (Kd.R (Kd.int .i64) 3 wr2 w.heap.size (fun _ => True) (.slice A1 xs.length c1) xs) ∧ Aside0 (Below w.heap.size w wr2))
      case atStart => exact ⟨xs.length, rfl, Nat.le_refl _, Nat.le_refl _, ⟨fun t ht h => by omega⟩, R1, B1⟩
      case round =>
        clear R1 B1
        obtain ⟨k, rfl, hk, hg2, K1, R1, B1⟩ := hrel
        by_cases hk0 : k = 0
        · have hz : ¬ (0 : Int) < (k : Int) := by omega
          have hzd : decide ((k : Int) > 0) = false := decide_eq_false (by omega)
          have hzn : decide (0 < k) = false := decide_eq_false (by omega)
          have hzm : ¬ 0 < k := by omega
          have K2 : Aside0 (∀ t (ht : t < xs.length), t < k → xs[t] ≤ x) := ⟨fun t ht h => by omega⟩
          have HK0 := Aside0.mk hk0
          clear hk0
          go_wp2_with fail
          go_big_region_o
          go_wp2_with fail
          -- the place is found
          have HRc := Lib.hid (show Kd.R (Kd.int .i64) 3 wr.drew w.heap.size (fun _ => True) (.slice A1 xs.length c1) xs from Kd.R_below R1.out (drewB wr))
          have HBw := Lib.hid (show Below w.heap.size w wr.drew from below_trans B1.out B1.out.size (drewB wr))
          generalize wr.drew = wc at HRc HBw ⊢
          have CXc := Lib.hid (show wc.cell? (ad.add i) = some (.int .i64 x) from (HBw.out.cell (World.block_lt_of_cell? w _ CX.out)).trans CX.out)
          have HBn := Lib.hid (drewB wc)
          have hkc : k ≤ c1 := by omega
          have hxb : xs.length ≤ 1000 := by have := HXL.out; omega
          go_wp2_with fail
          refine start_ (n := 14) (S := fun w' => w'.cell? (ad.add i) = some (.int .i64 x)) (ds := []) #[false, false, false, false, false, false, false, false, false, false, false, false, false, false] (by kernel_rfl) rfl rfl (cell_up HBn.out CXc.out) (fun hHeld => ?_)
          refine pure_ (i := 0) (N := some 30) (v := ?_) (a' := ?_) #[true, false, false, false, false, false, false, false, false, false, false, false, false, false] rfl rfl (by kernel_rfl) (fun _ _ _ h => h) (Or.inl ⟨by rfl, ?_⟩) ?_ ?_
          rotate_left
          · intro w'
            go_simp
            with_reducible rfl
          rotate_left
          · simp only [Act.put, List.setIfInBounds_toArray, List.set_cons_zero, List.set_cons_succ, i64_w, i32_w]
            rfl
          refine pure_ (i := 1) (N := some 31) (v := ?_) (a' := ?_) #[true, true, false, false, false, false, false, false, false, false, false, false, false, false] rfl rfl (by kernel_rfl) (fun _ _ _ h => h) (Or.inl ⟨by rfl, ?_⟩) ?_ ?_
          rotate_left
          · intro w'
            go_simp
            with_reducible rfl
          rotate_left
          · simp only [Act.put, List.setIfInBounds_toArray, List.set_cons_zero, List.set_cons_succ, i64_w, i32_w]
            rfl
          refine pure_ (i := 2) (N := some 32) (v := ?_) (a' := ?_) #[true, true, true, false, false, false, false, false, false, false, false, false, false, false] rfl rfl (by kernel_rfl) (fun _ _ _ h => h) (Or.inl ⟨by rfl, ?_⟩) ?_ ?_
          rotate_left
          · intro w'
            go_simp
            with_reducible rfl
          rotate_left
          · simp only [Act.put, List.setIfInBounds_toArray, List.set_cons_zero, List.set_cons_succ, i64_w, i32_w]
            rfl
          refine pure_ (i := 3) (N := some 33) (v := ?_) (a' := ?_) #[true, true, true, true, false, false, false, false, false, false, false, false, false, false] rfl rfl (by kernel_rfl) (fun _ _ _ h => h) (Or.inl ⟨by rfl, ?_⟩) ?_ ?_
          rotate_left
          · intro w'
            go_simp
            with_reducible rfl
          rotate_left
          · simp only [Act.put, List.setIfInBounds_toArray, List.set_cons_zero, List.set_cons_succ, i64_w, i32_w]
            rfl
          refine pure_ (i := 4) (N := some 34) (v := ?_) (a' := ?_) #[true, true, true, true, true, false, false, false, false, false, false, false, false, false] rfl rfl (by kernel_rfl) (fun _ _ _ h => h) (Or.inl ⟨by rfl, ?_⟩) ?_ ?_
          rotate_left
          · intro w'
            go_simp
            with_reducible rfl
          rotate_left
          · simp only [Act.put, List.setIfInBounds_toArray, List.set_cons_zero, List.set_cons_succ, i64_w, i32_w]
            rfl
          refine pure_ (i := 5) (N := some 35) (v := ?_) (a' := ?_) #[true, true, true, true, true, true, false, false, false, false, false, false, false, false] rfl rfl (by kernel_rfl) (fun _ _ _ h => h) (Or.inl ⟨by rfl, ?_⟩) ?_ ?_
          rotate_left
          · intro w'
            go_simp
            with_reducible rfl
          rotate_left
          · simp only [Act.put, List.setIfInBounds_toArray, List.set_cons_zero, List.set_cons_succ, i64_w, i32_w]
            rfl
          refine pure_ (i := 8) (N := some 38) (v := ?_) (a' := ?_) #[true, true, true, true, true, true, false, false, true, false, false, false, false, false] rfl rfl (by kernel_rfl) (fun _ _ _ h => h) (Or.inl ⟨by rfl, ?_⟩) ?_ ?_
          rotate_left
          · intro w'
            go_simp
            with_reducible rfl
          rotate_left
          · simp only [Act.put, List.setIfInBounds_toArray, List.set_cons_zero, List.set_cons_succ, i64_w, i32_w]
            rfl
          refine pure_ (i := 9) (N := some 39) (v := ?_) (a' := ?_) #[true, true, true, true, true, true, false, false, true, true, false, false, false, false] rfl rfl (by kernel_rfl) (fun _ _ _ h => h) (Or.inl ⟨by rfl, ?_⟩) ?_ ?_
          rotate_left
          · intro w'
            go_simp
            with_reducible rfl
          rotate_left
          · simp only [Act.put, List.setIfInBounds_toArray, List.set_cons_zero, List.set_cons_succ, i64_w, i32_w]
            rfl
          refine pure_ (i := 10) (N := some 40) (v := ?_) (a' := ?_) #[true, true, true, true, true, true, false, false, true, true, true, false, false, false] rfl rfl (by kernel_rfl) (fun _ _ _ h => h) (Or.inl ⟨by rfl, ?_⟩) ?_ ?_
          rotate_left
          · intro w'
            go_simp
            with_reducible rfl
          rotate_left
          · simp only [Act.put, List.setIfInBounds_toArray, List.set_cons_zero, List.set_cons_succ, i64_w, i32_w]
            rfl
          refine take_ (i := 6) (N := some 36) (v := ?_) (a' := ?_) #[true, true, true, true, true, true, true, false, true, true, true, false, false, false] rfl rfl (by kernel_rfl) (fun _ _ _ h => h) (Or.inl ⟨by rfl, ?_⟩) hHeld ?_ ?_
          rotate_left
          · intro w' s0
            go_simp
            with_reducible rfl
          rotate_left
          · simp only [Act.put, List.setIfInBounds_toArray, List.set_cons_zero, List.set_cons_succ, i64_w, i32_w]
            rfl
          refine one_ (i := 7) (N := some 37) #[true, true, true, true, true, true, true, true, true, true, true, false, false, false] rfl rfl (by kernel_rfl) (by decide) (fun K hK => ?_)
          refine Kd.R_lit_step (Kd.int .i64) (w0 := wc) wc.heap.size 3 (by rfl) (N := 37) rfl (xs := [x]) (inner := [.int .i64 x]) (ok := fun _ => True) (okp := fun _ => False) ?_ ?_ (fun _ h_ => h_.elim) trivial HBn.out HBn.out.size (by simp) ?_
          · go_simp
          · exact Reps.one rfl (Reps.none _ _)
          intro v7 w3 ho hb hg hn
          have HR7 := Lib.hid ho
          have HBn := Lib.hid hb
          clear ho hb hg hn
          refine hK.out _ _ (cell_up HBn.out CXc.out) (fun hHeld => ?_)
          clear hK K
          refine norm_ (a' := ?_) ?_ ?_
          rotate_left
          · show Act.put _ (some 37) _ = _
            simp only [Act.put, List.setIfInBounds_toArray, List.set_cons_zero, List.set_cons_succ, i64_w, i32_w]
            rfl
          refine one_ (i := 11) (N := some 41) #[true, true, true, true, true, true, true, true, true, true, true, true, false, false] rfl rfl (by kernel_rfl) (by decide) (fun K hK => ?_)
          refine Kd.R_append_rows_step (Kd.int .i64) (w0 := wc) wc.heap.size (by rfl) (.tmp 37) (.tmp 40) 22 3 (.int .i64 0) 8 rfl Tryz.underlying22 infoI rfl (by decide) (by omega) v7 [x] (xs.drop k) (if c1 = k then A1 else A1.map (·.add k)) (xs.length - k) (c1 - k) (fun _ => True) (fun _ => False) rfl rfl HR7.out ?_ (fun _ _ h_ => h_) (fun _ h_ => h_.elim) (fun _ _ => trivial) HBn.out HBn.out.size ?_ ?_
          · exact drop_C1 (Kd.R_below HRc.out HBn.out) hk
          · simp; omega
          intro v8 w4 ho hb hg hn
          obtain ⟨A8, c8, hv8⟩ := Kd.R_slice ho
          obtain ⟨N8, hN8⟩ : ∃ N8 : Nat, ([x] ++ xs.drop k).length = N8 := ⟨_, rfl⟩
          rw [hN8] at hv8
          subst hv8
          have HR8 := Lib.hid ho
          have HN8 := Lib.hid hN8
          have HBn := Lib.hid hb
          clear ho hb hg hn hN8
          refine hK.out _ _ (cell_up HBn.out CXc.out) (fun hHeld => ?_)
          clear hK K
          refine norm_ (a' := ?_) ?_ ?_
          rotate_left
          · show Act.put _ (some 41) _ = _
            simp only [Act.put, List.setIfInBounds_toArray, List.set_cons_zero, List.set_cons_succ, i64_w, i32_w]
            rfl
          refine one_ (i := 12) (N := some 42) #[true, true, true, true, true, true, true, true, true, true, true, true, true, false] rfl rfl (by kernel_rfl) (by decide) (fun K hK => ?_)
          refine Kd.R_append_rows_step (Kd.int .i64) (w0 := w) w.heap.size (by rfl) (.tmp 32) (.tmp 41) 22 3 (.int .i64 0) 8 rfl Tryz.underlying22 infoI rfl (by decide) (by omega) (.slice A1 k c1) (xs.take k) ([x] ++ xs.drop k) A8 N8 c8 (fun _ => True) (fun _ => False) rfl rfl (Kd.R_take (Kd.R_below HRc.out HBn.out) hk) ?_ (fun _ _ h_ => h_) (fun _ h_ => h_.elim) (fun _ _ => trivial) (below_trans HBw.out HBw.out.size HBn.out) (Nat.le_trans HBw.out.size HBn.out.size) ?_ ?_
          · have h8_ := (Kd.R_reads' HR8.out).2.2
            rwa [HN8.out] at h8_
          · have h8_ := HN8.out; simp at h8_ ⊢; omega
          intro v9 w5 ho hb hg hn
          have HR9 := Lib.hid ho
          have HBf := Lib.hid hb
          have HBn := Lib.hid (show Below wc.heap.size wc wc from Below.refl _ _)
          have HC9 := Lib.hid (show w5.cell? (ad.add i) = some (.int .i64 x) from (hb.cell (World.block_lt_of_cell? w _ CX.out)).trans CX.out)
          clear ho hb hg hn
          refine hK.out _ _ (HC9.out) (fun hHeld => ?_)
          clear hK K
          refine norm_ (a' := ?_) ?_ ?_
          rotate_left
          · show Act.put _ (some 42) _ = _
            simp only [Act.put, List.setIfInBounds_toArray, List.set_cons_zero, List.set_cons_succ, i64_w, i32_w]
            rfl
          refine pure_ (i := 13) (N := some 3) (v := ?_) (a' := ?_) #[true, true, true, true, true, true, true, true, true, true, true, true, true, true] rfl rfl (by kernel_rfl) (fun _ _ _ h => h) (Or.inl ⟨by rfl, ?_⟩) ?_ ?_
          rotate_left
          · intro w'
            go_simp
            with_reducible rfl
          rotate_left
          · simp only [Act.put, List.setIfInBounds_toArray, List.set_cons_zero, List.set_cons_succ, i64_w, i32_w]
            rfl
          refine done_ (by kernel_rfl) ?_
          all_goals
            generalize (if c1 = k then A1 else Option.map (fun x => x.add k) A1) = Ak
            go_wp2
            go_roundg (l.length - (i + 1))
            case measure => omega
            case rel =>
              have etk : l.take (i + 1) = l.take i ++ [x] := by rw [List.take_succ_eq_append_getElem hlt, X.out]
              refine ⟨i + 1, _, by go_num, hlt, Nat.le_refl _, ⟨HR9.out⟩, ⟨?_⟩, ⟨?_⟩, ⟨HBf.out⟩⟩
              · rw [etk]; exact (put_perm xs x k).trans (List.Perm.append_right _ P1.out)
              · exact put_sorted S1.out hk K1.out K2.out
        · obtain ⟨kp, rfl⟩ : ∃ q, k = q + 1 := ⟨k - 1, by omega⟩
          have hz : (0 : Int) < (kp : Int) + 1 := by omega
          have em : (kp : Int) + 1 - 1 = (kp : Int) := by omega
          have ew : IntKind.i64.wrap (kp : Int) = (kp : Int) := by rw [IntKind.wrap_i64]; have := HXL.out; omega
          have hkz : (kp : Int) < (xs.length : Int) := by omega
          have hkl : kp < xs.length := by omega
          obtain ⟨ad1, eA1, hcell1⟩ := (Kd.reads_of_C (d := (0 : Int)) (Kd.R_reads' R1.out).2.2).2.2 (by omega)
          subst eA1
          have c0 := hcell1 kp hkl
          obtain ⟨y, hy⟩ : ∃ y, y = xs[kp] := ⟨_, rfl⟩
          rw [show xs.getD kp 0 = y by rw [hy]; simp [List.getD, List.getElem?_eq_getElem hkl]] at c0
          have Y := Aside0.mk hy
          have cx : wr.cell? (ad.add i) = some (.int .i64 x) := (B1.out.cell (World.block_lt_of_cell? w _ CX.out)).trans CX.out
          clear hcell1 hy
          cases ht : decide (x < y) with
          | true =>
            have hlt3 : x < y := of_decide_eq_true ht
            go_wp2_with fail
            go_big_region_o
            have R2 : Aside0 (Kd.R (Kd.int .i64) 3 wr.drew w.heap.size (fun _ => True) (.slice (some ad1) xs.length c1) xs) := ⟨Kd.R_below R1.out (drewB wr)⟩
            have B2 : Aside0 (Below w.heap.size w wr.drew) := ⟨below_trans B1.out B1.out.size (drewB wr)⟩
            clear c0 cx
            generalize wr.drew = w3 at R2 B2 ⊢
            go_wp2
            go_roundg kp
            case measure => omega
            case rel =>
              refine ⟨kp, by first | rfl | go_num, by omega, Nat.le_refl _, ⟨fun t ht h => ?_⟩, R2, B2⟩
              by_cases q : t = kp
              · subst q; rw [← Y.out]; exact hlt3
              · exact K1.out t ht (by omega)
          | false =>
            have hlt3 : ¬ x < y := of_decide_eq_false ht
            have K2 : Aside0 (∀ t (ht : t < xs.length), t < kp + 1 → xs[t] ≤ x) := ⟨fun t ht h => by
              have h1 : xs[t] ≤ xs[kp] := by
                by_cases q : t = kp
                · subst q; omega
                · have hs := S1.out
                  rw [List.pairwise_iff_getElem] at hs
                  exact hs t kp ht hkl (by omega)
              have := Y.out
              omega⟩
            go_wp2_with fail
            go_big_region_o
            clear c0 cx
            obtain ⟨k, hkk⟩ : ∃ k, k = kp + 1 := ⟨_, rfl⟩
            have ezk : (kp : Int) + 1 = (k : Int) := by omega
            rw [← hkk] at K1 K2 hk
            rw [ezk]
            have HKK := Aside0.mk hkk
            clear hkk ezk hz em ew hkz
            go_wp2_with fail
            -- the place is found
            have HRc := Lib.hid (show Kd.R (Kd.int .i64) 3 wr.drew w.heap.size (fun _ => True) (.slice (some ad1) xs.length c1) xs from Kd.R_below R1.out (drewB wr))
            have HBw := Lib.hid (show Below w.heap.size w wr.drew from below_trans B1.out B1.out.size (drewB wr))
            generalize wr.drew = wc at HRc HBw ⊢
            have CXc := Lib.hid (show wc.cell? (ad.add i) = some (.int .i64 x) from (HBw.out.cell (World.block_lt_of_cell? w _ CX.out)).trans CX.out)
            have HBn := Lib.hid (drewB wc)
            have hkc : k ≤ c1 := by omega
            have hxb : xs.length ≤ 1000 := by have := HXL.out; omega
            go_wp2_with fail
            refine start_ (n := 14) (S := fun w' => w'.cell? (ad.add i) = some (.int .i64 x)) (ds := []) #[false, false, false, false, false, false, false, false, false, false, false, false, false, false] (by kernel_rfl) rfl rfl (cell_up HBn.out CXc.out) (fun hHeld => ?_)
            refine pure_ (i := 0) (N := some 30) (v := ?_) (a' := ?_) #[true, false, false, false, false, false, false, false, false, false, false, false, false, false] rfl rfl (by kernel_rfl) (fun _ _ _ h => h) (Or.inl ⟨by rfl, ?_⟩) ?_ ?_
            rotate_left
            · intro w'
              go_simp
              with_reducible rfl
            rotate_left
            · simp only [Act.put, List.setIfInBounds_toArray, List.set_cons_zero, List.set_cons_succ, i64_w, i32_w]
              rfl
            refine pure_ (i := 1) (N := some 31) (v := ?_) (a' := ?_) #[true, true, false, false, false, false, false, false, false, false, false, false, false, false] rfl rfl (by kernel_rfl) (fun _ _ _ h => h) (Or.inl ⟨by rfl, ?_⟩) ?_ ?_
            rotate_left
            · intro w'
              go_simp
              with_reducible rfl
            rotate_left
            · simp only [Act.put, List.setIfInBounds_toArray, List.set_cons_zero, List.set_cons_succ, i64_w, i32_w]
              rfl
            refine pure_ (i := 2) (N := some 32) (v := ?_) (a' := ?_) #[true, true, true, false, false, false, false, false, false, false, false, false, false, false] rfl rfl (by kernel_rfl) (fun _ _ _ h => h) (Or.inl ⟨by rfl, ?_⟩) ?_ ?_
            rotate_left
            · intro w'
              go_simp
              with_reducible rfl
            rotate_left
            · simp only [Act.put, List.setIfInBounds_toArray, List.set_cons_zero, List.set_cons_succ, i64_w, i32_w]
              rfl
            refine pure_ (i := 3) (N := some 33) (v := ?_) (a' := ?_) #[true, true, true, true, false, false, false, false, false, false, false, false, false, false] rfl rfl (by kernel_rfl) (fun _ _ _ h => h) (Or.inl ⟨by rfl, ?_⟩) ?_ ?_
            rotate_left
            · intro w'
              go_simp
              with_reducible rfl
            rotate_left
            · simp only [Act.put, List.setIfInBounds_toArray, List.set_cons_zero, List.set_cons_succ, i64_w, i32_w]
              rfl
            refine pure_ (i := 4) (N := some 34) (v := ?_) (a' := ?_) #[true, true, true, true, true, false, false, false, false, false, false, false, false, false] rfl rfl (by kernel_rfl) (fun _ _ _ h => h) (Or.inl ⟨by rfl, ?_⟩) ?_ ?_
            rotate_left
            · intro w'
              go_simp
              with_reducible rfl
            rotate_left
            · simp only [Act.put, List.setIfInBounds_toArray, List.set_cons_zero, List.set_cons_succ, i64_w, i32_w]
              rfl
            refine pure_ (i := 5) (N := some 35) (v := ?_) (a' := ?_) #[true, true, true, true, true, true, false, false, false, false, false, false, false, false] rfl rfl (by kernel_rfl) (fun _ _ _ h => h) (Or.inl ⟨by rfl, ?_⟩) ?_ ?_
            rotate_left
            · intro w'
              go_simp
              with_reducible rfl
            rotate_left
            · simp only [Act.put, List.setIfInBounds_toArray, List.set_cons_zero, List.set_cons_succ, i64_w, i32_w]
              rfl
            refine pure_ (i := 8) (N := some 38) (v := ?_) (a' := ?_) #[true, true, true, true, true, true, false, false, true, false, false, false, false, false] rfl rfl (by kernel_rfl) (fun _ _ _ h => h) (Or.inl ⟨by rfl, ?_⟩) ?_ ?_
            rotate_left
            · intro w'
              go_simp
              with_reducible rfl
            rotate_left
            · simp only [Act.put, List.setIfInBounds_toArray, List.set_cons_zero, List.set_cons_succ, i64_w, i32_w]
              rfl
            refine pure_ (i := 9) (N := some 39) (v := ?_) (a' := ?_) #[true, true, true, true, true, true, false, false, true, true, false, false, false, false] rfl rfl (by kernel_rfl) (fun _ _ _ h => h) (Or.inl ⟨by rfl, ?_⟩) ?_ ?_
            rotate_left
            · intro w'
              go_simp
              with_reducible rfl
            rotate_left
            · simp only [Act.put, List.setIfInBounds_toArray, List.set_cons_zero, List.set_cons_succ, i64_w, i32_w]
              rfl
            refine pure_ (i := 10) (N := some 40) (v := ?_) (a' := ?_) #[true, true, true, true, true, true, false, false, true, true, true, false, false, false] rfl rfl (by kernel_rfl) (fun _ _ _ h => h) (Or.inl ⟨by rfl, ?_⟩) ?_ ?_
            rotate_left
            · intro w'
              go_simp
              with_reducible rfl
            rotate_left
            · simp only [Act.put, List.setIfInBounds_toArray, List.set_cons_zero, List.set_cons_succ, i64_w, i32_w]
              rfl
            refine take_ (i := 6) (N := some 36) (v := ?_) (a' := ?_) #[true, true, true, true, true, true, true, false, true, true, true, false, false, false] rfl rfl (by kernel_rfl) (fun _ _ _ h => h) (Or.inl ⟨by rfl, ?_⟩) hHeld ?_ ?_
            rotate_left
            · intro w' s0
              go_simp
              with_reducible rfl
            rotate_left
            · simp only [Act.put, List.setIfInBounds_toArray, List.set_cons_zero, List.set_cons_succ, i64_w, i32_w]
              rfl
            refine one_ (i := 7) (N := some 37) #[true, true, true, true, true, true, true, true, true, true, true, false, false, false] rfl rfl (by kernel_rfl) (by decide) (fun K hK => ?_)
            refine Kd.R_lit_step (Kd.int .i64) (w0 := wc) wc.heap.size 3 (by rfl) (N := 37) rfl (xs := [x]) (inner := [.int .i64 x]) (ok := fun _ => True) (okp := fun _ => False) ?_ ?_ (fun _ h_ => h_.elim) trivial HBn.out HBn.out.size (by simp) ?_
            · go_simp
            · exact Reps.one rfl (Reps.none _ _)
            intro v7 w3 ho hb hg hn
            have HR7 := Lib.hid ho
            have HBn := Lib.hid hb
            clear ho hb hg hn
            refine hK.out _ _ (cell_up HBn.out CXc.out) (fun hHeld => ?_)
            clear hK K
            refine norm_ (a' := ?_) ?_ ?_
            rotate_left
            · show Act.put _ (some 37) _ = _
              simp only [Act.put, List.setIfInBounds_toArray, List.set_cons_zero, List.set_cons_succ, i64_w, i32_w]
              rfl
            refine one_ (i := 11) (N := some 41) #[true, true, true, true, true, true, true, true, true, true, true, true, false, false] rfl rfl (by kernel_rfl) (by decide) (fun K hK => ?_)
            refine Kd.R_append_rows_step (Kd.int .i64) (w0 := wc) wc.heap.size (by rfl) (.tmp 37) (.tmp 40) 22 3 (.int .i64 0) 8 rfl Tryz.underlying22 infoI rfl (by decide) (by omega) v7 [x] (xs.drop k) (if c1 = k then (some ad1) else (some ad1).map (·.add k)) (xs.length - k) (c1 - k) (fun _ => True) (fun _ => False) rfl rfl HR7.out ?_ (fun _ _ h_ => h_) (fun _ h_ => h_.elim) (fun _ _ => trivial) HBn.out HBn.out.size ?_ ?_
            · exact drop_C1 (Kd.R_below HRc.out HBn.out) hk
            · simp; omega
            intro v8 w4 ho hb hg hn
            obtain ⟨A8, c8, hv8⟩ := Kd.R_slice ho
            obtain ⟨N8, hN8⟩ : ∃ N8 : Nat, ([x] ++ xs.drop k).length = N8 := ⟨_, rfl⟩
            rw [hN8] at hv8
            subst hv8
            have HR8 := Lib.hid ho
            have HN8 := Lib.hid hN8
            have HBn := Lib.hid hb
            clear ho hb hg hn hN8
            refine hK.out _ _ (cell_up HBn.out CXc.out) (fun hHeld => ?_)
            clear hK K
            refine norm_ (a' := ?_) ?_ ?_
            rotate_left
            · show Act.put _ (some 41) _ = _
              simp only [Act.put, List.setIfInBounds_toArray, List.set_cons_zero, List.set_cons_succ, i64_w, i32_w]
              rfl
            refine one_ (i := 12) (N := some 42) #[true, true, true, true, true, true, true, true, true, true, true, true, true, false] rfl rfl (by kernel_rfl) (by decide) (fun K hK => ?_)
            refine Kd.R_append_rows_step (Kd.int .i64) (w0 := w) w.heap.size (by rfl) (.tmp 32) (.tmp 41) 22 3 (.int .i64 0) 8 rfl Tryz.underlying22 infoI rfl (by decide) (by omega) (.slice (some ad1) k c1) (xs.take k) ([x] ++ xs.drop k) A8 N8 c8 (fun _ => True) (fun _ => False) rfl rfl (Kd.R_take (Kd.R_below HRc.out HBn.out) hk) ?_ (fun _ _ h_ => h_) (fun _ h_ => h_.elim) (fun _ _ => trivial) (below_trans HBw.out HBw.out.size HBn.out) (Nat.le_trans HBw.out.size HBn.out.size) ?_ ?_
            · have h8_ := (Kd.R_reads' HR8.out).2.2
              rwa [HN8.out] at h8_
            · have h8_ := HN8.out; simp at h8_ ⊢; omega
            intro v9 w5 ho hb hg hn
            have HR9 := Lib.hid ho
            have HBf := Lib.hid hb
            have HBn := Lib.hid (show Below wc.heap.size wc wc from Below.refl _ _)
            have HC9 := Lib.hid (show w5.cell? (ad.add i) = some (.int .i64 x) from (hb.cell (World.block_lt_of_cell? w _ CX.out)).trans CX.out)
            clear ho hb hg hn
            refine hK.out _ _ (HC9.out) (fun hHeld => ?_)
            clear hK K
            refine norm_ (a' := ?_) ?_ ?_
            rotate_left
            · show Act.put _ (some 42) _ = _
              simp only [Act.put, List.setIfInBounds_toArray, List.set_cons_zero, List.set_cons_succ, i64_w, i32_w]
              rfl
            refine pure_ (i := 13) (N := some 3) (v := ?_) (a' := ?_) #[true, true, true, true, true, true, true, true, true, true, true, true, true, true] rfl rfl (by kernel_rfl) (fun _ _ _ h => h) (Or.inl ⟨by rfl, ?_⟩) ?_ ?_
            rotate_left
            · intro w'
              go_simp
              with_reducible rfl
            rotate_left
            · simp only [Act.put, List.setIfInBounds_toArray, List.set_cons_zero, List.set_cons_succ, i64_w, i32_w]
              rfl
            refine done_ (by kernel_rfl) ?_
            all_goals
              go_wp2
              all_goals
                go_roundg (l.length - (i + 1))
                case measure => omega
                case rel =>
                  have etk : l.take (i + 1) = l.take i ++ [x] := by rw [List.take_succ_eq_append_getElem hlt, X.out]
                  refine ⟨i + 1, _, by go_num, hlt, Nat.le_refl _, ⟨HR9.out⟩, ⟨?_⟩, ⟨?_⟩, ⟨HBf.out⟩⟩
                  · rw [etk]; exact (put_perm xs x k).trans (List.Perm.append_right _ P1.out)
                  · exact put_sorted S1.out hk K1.out K2.out
    · obtain rfl : i = l.length := by omega
      have hltz : ¬ (l.length : Int) < (l.length : Int) := by omega
      have e1 := isort_unique (P1.out.trans (by rw [List.take_length])) S1.out
      have E1 := Aside0.mk e1
      clear e1
      go_wp2
      go_ret
      exact ⟨_, rfl, by rw [← E1.out]; exact R1.out, B1.out⟩
end Go.Proofs.YtfliapankgdeeaaGreat.A

/- oubref.Sorted in the form in which the printer tells contracts. -/
namespace Go.Proofs.YtfliapankgdeeaaGreat.G
set_option linter.unusedVariables false
open Go.RowKit Go.Proofs.YtfliapankgdeeaaGreatW.PrintWords Go.Proofs.YtfliapankgdeeaaGreatW.PrintLast Go.Proofs.YtfliapankgdeeaaGreatW.PrintMore

def oubref_Sorted.f (l0 : List Int) : Option (List Int) := if l0.length < 1000 then some (L.isort l0) else none
theorem oubref_Sorted.calls (A0 : Option Addr) (c0 : Nat) (l0 : List Int) (r : List Int) (w : World) (hr0 : Kd.C (Kd.int .i64) w A0 l0.length l0) (hc0 : l0.length ≤ c0) (h : oubref_Sorted.f l0 = some r) :
    Calls Tryz.prog 27 #[.slice A0 l0.length c0] w fun e w' => ∃ v0_ : Value, e = .returned v0_ ∧ Kd.R (Kd.int .i64) 3 w' w.heap.size (fun _ => True) v0_ r ∧ Below w.heap.size w w' := by
  unfold oubref_Sorted.f at h
  split at h
  · rename_i hl
    obtain rfl := Option.some.inj h
    exact A.Sorted_calls A0 c0 l0 w hr0 hl
  · cases h
end Go.Proofs.YtfliapankgdeeaaGreat.G
