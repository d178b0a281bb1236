/- StashOwn, walked. -/
import Derived.Test.YtmjbmbhpfckagaaStashI
namespace Go.Proofs.Ytmjbmbhpfckagaa.A
open Go.RowKit Go.Maps Go.Sort Go.Shelf Go.Proofs.YtmjbmbhpfckagaaW.PrintWords Go.Proofs.YtmjbmbhpfckagaaW.PrintLast Go.Proofs.Ytmjbmbhpfckagaa.B
set_option linter.unusedVariables false
set_option linter.unusedSimpArgs false

theorem cell_at {w : World} {b : Nat} {cs : Array Value} {t : TypeId} (h : w.heap[b]? = some (.cells cs t (0, 0))) (j : Nat) {v : Value} (hj : cs[j]? = some v) : w.cell? ⟨b, j, none⟩ = some v := by
  simp only [World.cell?, h]
  exact hj
theorem kept_at {w w1 : World} (h : Below w.heap.size w w1) {b : Nat} {o : Obj} (ho : w.heap[b]? = some o) : w1.heap[b]? = some o :=
  (h.block b (Array.getElem?_eq_some_iff.1 ho).1).trans ho
/-- A row of one's own that isn't empty: where it lies, its first cell. -/
theorem own_open {w : World} {base n : Nat} {v : Value} {xs : List Int} (h : w.ownsRow base 5 1 v n (xs.map (Value.int .u8))) (h0 : 0 < n) : ∃ a k, v = .slice (some ⟨a, 0, none⟩) n k ∧ n ≤ k ∧ base ≤ a ∧ a < w.heap.size ∧ w.cell? ⟨a, 0, none⟩ = some (.int .u8 (xs.getD 0 0)) ∧ w.frozen? ⟨a, 0, none⟩ = false ∧ Kd.C (Kd.int .u8) w (some ⟨a, 0, none⟩) n xs := by
  have hl : xs.length = n := by have := h.1; simpa using this
  subst hl
  rcases h.2 with ⟨_, hn⟩ | ⟨g, cap, cur, rfl, hg, hh, h1, h2, h3, h4⟩
  · omega
  · obtain ⟨a, o, c, e1, h5, _, _, h6, h7⟩ := row_of_own h h0
    cases e1
    refine ⟨_, _, rfl, h1, hg, h6, ?_, ?_, h7⟩
    · obtain ⟨ad, e2, hc⟩ := C_addr h7 h0
      cases e2
      simpa [Addr.add] using hc 0 h0
    · simp [World.frozen?, hh]
/-- A stash without blocks has no rows. -/
theorem OS.none {base top g : Nat} {w : World} {m : Int} (h : OS base top w g [] m) : ∃ bm, St w g bm (fun _ => False) [] m ∧ base ≤ g ∧ base ≤ bm := by
  obtain ⟨bm, Rs, E, h1, h2, h3, h4, _⟩ := h
  obtain rfl : E = [] := by simpa [vw] using h2
  exact ⟨bm, ⟨h1.cells, h1.map, h1.up, by simp, by simp, by simp, by simp, by simp, h1.wf⟩, h3, h4⟩
/-- A store beside it. -/
theorem St.beside {w : World} {g bm : Nat} {Rs : Nat → Prop} {E : List (Int × (Value × List Int))} {m : Int} (h : St w g bm Rs E m) {p : Addr} (u : Value) (h1 : p.block ≠ g) (h2 : p.block ≠ bm) (h3 : ∀ k, Rs k → k ≠ p.block) : St (w.setCell p u) g bm Rs E m :=
  h.kept ((Eff.refl w (fun k => k = p.block)).setCell (.inl rfl) u).kept (fun e => h1 e.symm) (fun e => h2 e.symm) h3
theorem below_set {b0 : Nat} {w w1 : World} (h : Below b0 w w1) {p : Addr} (hp : b0 ≤ p.block) (u : Value) : Below b0 w (w1.setCell p u) := h.setCell hp u
theorem set_size (w : World) (p : Addr) (u : Value) : (w.setCell p u).heap.size = w.heap.size := by simp [World.setCell]
theorem bytes_eq (xs : List Int) : oubref_Bytes.f xs xs = some true := by unfold oubref_Bytes.f; simp

theorem own_own {w w1 : World} {base : Nat} {v : Value} {n : Nat} {xs : List Value} (h : w.ownsRow base 5 1 v n xs) (hb : Below w.heap.size w w1) : w1.ownsRow base 5 1 v n xs := own_move h (fun k hk => hb.block k (own_lt h k hk))
theorem own_is {a o n k j : Nat} (h : (Value.slice (some ⟨a, o, none⟩) n k).ownBlock = some j) : a = j := by
  simpa [Value.ownBlock] using h
theorem Row37 (c : Int) (w : World) :
    Calls Try.prog 11 #[.int .u8 c] w fun e w' => ∃ a k, e = .returned (.slice (some ⟨a, 0, none⟩) 37 k) ∧ 37 ≤ k ∧ Kd.C (Kd.int .u8) w' (some ⟨a, 0, none⟩) 37 (rowL c) ∧ w.heap.size ≤ a ∧ Below w.heap.size w w' ∧ w'.ownsRow w.heap.size 5 1 (.slice (some ⟨a, 0, none⟩) 37 k) 37 ((rowL c).map (Value.int .u8)) := by
  have h := Row_calls c w
  simp only [rowL_length] at h
  exact h
theorem Get_one {w : World} {g bm : Nat} {Rs : Nat → Prop} {id c : Int} {v : Value} {m : Int} (h : St w g bm Rs [(id, (v, rowL c))] m) (wf : (Lit.int .i64 id).wf = true) :
    Calls Try.prog 13 #[.pointer (some ⟨g, 0, none⟩), .int .i64 id] w fun e w' => ∃ a k, e = .returned (.tuple #[.slice (some ⟨a, 0, none⟩) 37 k, .bool true]) ∧ w'.ownsRow w.heap.size 5 1 (.slice (some ⟨a, 0, none⟩) 37 k) 37 ((rowL c).map (Value.int .u8)) ∧ Below w.heap.size w w' := by
  have hg := Get_calls h id wf
  rw [getA_here] at hg
  refine hg.mono ?_
  rintro e w' ⟨x, rfl, hr, _, hb⟩
  have hr : w'.ownsRow w.heap.size 5 1 x (rowL c).length ((rowL c).map (Value.int .u8)) := hr
  rw [rowL_length] at hr
  obtain ⟨a, k, rfl, _⟩ := own_open hr (by omega)
  exact ⟨a, k, rfl, hr, hb⟩
theorem own_reads {w : World} {base a k : Nat} {c : Int} (h : w.ownsRow base 5 1 (.slice (some ⟨a, 0, none⟩) 37 k) 37 ((rowL c).map (Value.int .u8))) : Kd.C (Kd.int .u8) w (some ⟨a, 0, none⟩) 37 (rowL c) ∧ 37 ≤ k ∧ w.cell? ⟨a, 0, none⟩ = some (.int .u8 c) ∧ w.frozen? ⟨a, 0, none⟩ = false ∧ base ≤ a ∧ a < w.heap.size := by
  obtain ⟨_, _, e1, h1, h2, h3, h4, h5, h6⟩ := own_open h (by omega)
  cases e1
  exact ⟨h6, h1, h4, h5, h2, h3⟩
theorem Bytes37 (a k b j : Nat) (c : Int) (w : World) (h1 : Kd.C (Kd.int .u8) w (some ⟨a, 0, none⟩) 37 (rowL c)) (k1 : 37 ≤ k) (h2 : Kd.C (Kd.int .u8) w (some ⟨b, 0, none⟩) 37 (rowL c)) (k2 : 37 ≤ j) :
    Calls Try.prog 14 #[.slice (some ⟨a, 0, none⟩) 37 k, .slice (some ⟨b, 0, none⟩) 37 j] w fun e w' => e = .returned (.bool true) ∧ Below w.heap.size w w' := by
  have h := oubref_Bytes.calls (some ⟨a, 0, none⟩) k (rowL c) (some ⟨b, 0, none⟩) j (rowL c) true w (by rw [rowL_length]; exact h1) (by rw [rowL_length]; exact k1) (by rw [rowL_length]; exact h2) (by rw [rowL_length]; exact k2) (bytes_eq _)
  simp only [rowL_length] at h
  refine h.mono ?_
  rintro e w' ⟨rfl, ⟨n, rfl⟩⟩
  exact ⟨rfl, pw_below_drewN (Below.refl _ _) n⟩
theorem All_one {w : World} {g bm : Nat} {Rs : Nat → Prop} {id c : Int} {v : Value} {m : Int} (h : St w g bm Rs [(id, (v, rowL c))] m) :
    Calls Try.prog 15 #[.pointer (some ⟨g, 0, none⟩)] w fun e w' => ∃ a k b j, e = .returned (.slice (some ⟨a, 0, none⟩) 1 k) ∧ w'.cell? ⟨a, 1, none⟩ = some (.slice (some ⟨b, 0, none⟩) 37 j) ∧ w.heap.size ≤ a ∧ w'.ownsRow w.heap.size 5 1 (.slice (some ⟨b, 0, none⟩) 37 j) 37 ((rowL c).map (Value.int .u8)) ∧ Below w.heap.size w w' := by
  refine (All_calls h).mono ?_
  rintro e w' ⟨v, rfl, hR, hb⟩
  obtain ⟨A, k, rfl⟩ := Kd.R_slice hR
  obtain ⟨inner, ho⟩ := Kd.R_own hR
  rcases ho.2 with ⟨e1, _⟩ | ⟨a, cap, cur, e1, hg, _⟩
  · cases e1
  · cases e1
    obtain ⟨cs, hl, hM, hc, _⟩ := Kd.R_elem hR ⟨0, []⟩ 0 (by omega) (by simp)
    obtain ⟨v1, rfl, hr⟩ := k24_openM hM
    have how := Kd.own_of_R hr
    have how : w'.ownsRow w.heap.size 5 1 v1 (rowL c).length ((rowL c).map (Value.int .u8)) := how
    rw [rowL_length] at how
    obtain ⟨b, j, rfl, _⟩ := own_open how (by omega)
    exact ⟨a, k, b, j, rfl, by simpa using hc 1 _ rfl, hg, how, hb⟩
set_option maxHeartbeats 8000000 in
set_option maxRecDepth 100000 in
theorem StashOwn_main (id c : Int) (h0 : 0 ≤ id) (h1 : id < 64) (bid : Int) (A : Option Addr) (xs : List Int) (bc : Nat) (w : World) (hx : xs.length ≤ bc) (hC : Kd.C (Kd.int .u8) w A xs.length xs) (hF : oublaw9_Few.f 201 [⟨bid, xs⟩] = some true) (hM : mayF [] [(⟨bid, xs⟩ : S24)] = false) :
    Calls Try.prog 3 #[.int .i64 id, .int .u8 c, .agg #[.int .i64 bid, .slice A xs.length bc]] w fun e w' => e = .returned (.bool true) ∧ Below w.heap.size w w' := by
  have HC := Lib.hid hC
  have HM := Lib.hid hM
  have HF := Lib.hid hF
  have hwf := wf_small ⟨h0, h1⟩
  have HW := Lib.hid hwf
  have k0 : decide (id < 0) = false := decide_eq_false (by omega)
  have k1 : decide (64 ≤ id) = false := decide_eq_false (by omega)
  have HB0 := Lib.hid (below_alloc1 (Below.refl w.heap.size w) (Nat.le_refl _) (.cells #[.int .i64 bid, .slice A xs.length bc] 24))
  have HT0 := Lib.hid (heap_top w (.cells #[.int .i64 bid, .slice A xs.length bc] 24 (0, 0)))
  clear hC hM hF hwf
  go_enter Try.func3, Try.ntmps3
  go_wp2_with fail
  refine (first_calls _).mono ?_
  rintro e w1 ⟨rfl, hb⟩
  have HB1 := Lib.hid (HB0.out.trans (hb.mono HB0.out.size))
  have HT1 := Lib.hid (kept_at hb HT0.out)
  have p0 : w1.cell? ⟨w.heap.size, 0, none⟩ = some (.int .i64 bid) := cell_at HT1.out 0 rfl
  have p1 : w1.cell? ⟨w.heap.size, 1, none⟩ = some (.slice A xs.length bc) := cell_at HT1.out 1 rfl
  clear hb
  go_wp2_with fail
  have HB2 := Lib.hid (below_alloc1 HB1.out HB1.out.size (.cells #[.int .i64 bid, .slice A xs.length bc] 24))
  have HT2 := Lib.hid (heap_top w1 (.cells #[.int .i64 bid, .slice A xs.length bc] 24 (0, 0)))
  refine (oublaw9_Few.calls 201 (some ⟨w1.heap.size, 0, none⟩) 1 [⟨bid, xs⟩] true _ (C_one hx (Kd.C_below HC.out HB2.out) (cell_at HT2.out 0 rfl) (cell_at HT2.out 1 rfl)) (Nat.le_refl _) HF.out).mono ?_
  rintro e w2 ⟨rfl, hb⟩
  have HB3 := Lib.hid (HB2.out.trans (hb.mono HB2.out.size))
  have HT3 := Lib.hid (kept_at hb (kept_at ((Below.refl w1.heap.size w1).alloc (Nat.le_refl _) (.cells #[.int .i64 bid, .slice A xs.length bc] 24)) HT1.out))
  clear hb p0 p1
  have p0 : w2.cell? ⟨w.heap.size, 0, none⟩ = some (.int .i64 bid) := cell_at HT3.out 0 rfl
  have p1 : w2.cell? ⟨w.heap.size, 1, none⟩ = some (.slice A xs.length bc) := cell_at HT3.out 1 rfl
  go_wp2_with fail
  have HB4 := Lib.hid (below_alloc1 HB3.out HB3.out.size (.cells #[.int .i64 bid, .slice A xs.length bc] 24))
  have HM4 := May_calls (some ⟨w2.heap.size, 0, none⟩) 1 [⟨bid, xs⟩] _ (C_one hx (Kd.C_below HC.out HB4.out) (cell_at (heap_top w2 _) 0 rfl) (cell_at (heap_top w2 _) 1 rfl)) (Nat.le_refl _) (by simp)
  rw [HM.out] at HM4
  refine HM4.mono ?_
  clear HM4
  rintro e w3 ⟨rfl, hb⟩
  have HB5 := Lib.hid (HB4.out.trans (hb.mono HB4.out.size))
  have HT5 := Lib.hid (kept_at hb (kept_at ((Below.refl w2.heap.size w2).alloc (Nat.le_refl _) (.cells #[.int .i64 bid, .slice A xs.length bc] 24)) HT3.out))
  clear hb p0 p1
  go_wp2_with fail
  refine (New_calls none 0 [] _ (Kd.C_nil _ _) (Nat.le_refl _) (by simp)).mono ?_
  rintro e w4 ⟨g, rfl, ho, hb⟩
  obtain ⟨bm, hs, hg, hbm⟩ := OS.none (show OS w3.heap.size w4.heap.size w4 g [] 0 from ho)
  have HB6 := Lib.hid (HB5.out.trans (hb.mono HB5.out.size))
  have HT6 := Lib.hid (kept_at hb HT5.out)
  have HS := Lib.hid hs
  have hlt4 := hs.lt
  have HG := Lib.hid (show w.heap.size < g ∧ w.heap.size < bm ∧ g < w4.heap.size ∧ bm < w4.heap.size from by have := (Array.getElem?_eq_some_iff.1 HT5.out).1; exact ⟨by omega, by omega, hlt4.1, hlt4.2.1⟩)
  clear hb hs ho hg hbm hlt4
  go_wp2_with fail
  refine (Row37 c _).mono ?_
  rintro e w5 ⟨a, k, rfl, hk, hc, ha, hb, how⟩
  have HB7 := Lib.hid (HB6.out.trans (hb.mono HB6.out.size))
  have HT7 := Lib.hid (kept_at hb HT6.out)
  have HS7 := Lib.hid (HS.out.below hb)
  have HCd := Lib.hid hc
  have HOw := Lib.hid how
  have HA := Lib.hid (show w.heap.size < a ∧ g < a ∧ bm < a ∧ a < w5.heap.size from ⟨by have := HG.out; omega, by have := HG.out; omega, by have := HG.out; omega, own_lt how a (by simp [Value.ownBlock])⟩)
  clear hb hc how ha
  go_wp2_with fail
  have HP := Put_yes HS7.out id (some ⟨a, 0, none⟩) (rowL c) k (by rw [rowL_length]; exact hk) (by rw [rowL_length]; exact HCd.out) h0 h1 (rowL_length c)
  simp only [rowL_length] at HP
  refine HP.mono ?_
  clear HP
  rintro e w6 ⟨rfl, ⟨v, Rs', hs, hR⟩, he⟩
  have HB8 := Lib.hid (HB7.out.trans (Eff.low he HB7.out.size (fun j hj => by have := HG.out; rcases hj with rfl | rfl <;> omega)))
  have HT8 := Lib.hid ((he.kept.2 w.heap.size (Array.getElem?_eq_some_iff.1 HT7.out).1 (by have := HG.out; have := (Array.getElem?_eq_some_iff.1 HT3.out).1; omega)).trans HT7.out)
  obtain ⟨m1, hs⟩ : ∃ m1, St w6 g bm Rs' [(id, (v, rowL c))] m1 := ⟨_, hs⟩
  have HS8 := Lib.hid hs
  have HR8 := Lib.hid (show ∀ j, Rs' j → w5.heap.size ≤ j from fun j hj => by rcases hR j hj with h | h; exact h.elim; exact h)
  have HO8 := Lib.hid (own_move HOw.out (fun j hj => he.kept.2 j (own_lt HOw.out j hj) (by obtain rfl := own_is hj; have := HA.out; omega)))
  have sz6 := he.kept.1
  clear hs hR he
  have p0 : w6.cell? ⟨w.heap.size, 0, none⟩ = some (.int .i64 bid) := cell_at HT8.out 0 rfl
  have p1 : w6.cell? ⟨w.heap.size, 1, none⟩ = some (.slice A xs.length bc) := cell_at HT8.out 1 rfl
  go_wp2_with fail
  refine (Put_no bid A xs bc hx (Kd.C_below HC.out HB8.out) HM.out).mono ?_
  rintro e w7 ⟨rfl, hb⟩
  have HB9 := Lib.hid (HB8.out.trans (hb.mono HB8.out.size))
  have HS9 := Lib.hid (HS8.out.below hb)
  have HO9 := Lib.hid (own_own HO8.out hb)
  have sz7 := hb.size
  clear hb p0 p1 HT0 HT1 HT2 HT3 HT5 HT6 HT7 HT8
  obtain ⟨_, _, q0, f0, _, _⟩ := own_reads HO9.out
  go_wp2_with fail
  refine (Get_one (HS9.out.beside _ (Nat.ne_of_gt HA.out.2.1) (Nat.ne_of_gt HA.out.2.2.1) (fun j hj => by have := HA.out; have := HR8.out j hj; show j ≠ a; omega)) HW.out).mono ?_
  rintro e w8 ⟨a2, k2, rfl, hr, hb⟩
  have HB10 := Lib.hid ((HB9.out.setCell (p := ⟨a, 0, none⟩) (Nat.le_of_lt HA.out.1) _).trans (hb.mono (HB9.out.setCell (p := ⟨a, 0, none⟩) (Nat.le_of_lt HA.out.1) _).size))
  have HS10 := Lib.hid ((HS9.out.beside _ (Nat.ne_of_gt HA.out.2.1) (Nat.ne_of_gt HA.out.2.2.1) (fun j hj => by have := HA.out; have := HR8.out j hj; show j ≠ a; omega)).below hb)
  rw [set_size] at hr
  have HX := Lib.hid hr
  have HL10 := Lib.hid (show ∀ j, Rs' j → j < w7.heap.size from HS9.out.low)
  have HA2 := Lib.hid (show g < a2 ∧ bm < a2 ∧ w.heap.size < a2 ∧ w7.heap.size ≤ a2 from by have := (own_reads hr).2.2.2.2.1; have := HG.out; have := HA.out; omega)
  clear hb hr q0 f0
  go_wp2_with fail
  refine (Row37 c _).mono ?_
  rintro e w9 ⟨b2, j2, rfl, hj2, hc, _, hb, _⟩
  have HB11 := Lib.hid (HB10.out.trans (hb.mono HB10.out.size))
  have HS11 := Lib.hid (HS10.out.below hb)
  have HX11 := Lib.hid (own_own HX.out hb)
  have HC11 := Lib.hid hc
  clear hb hc
  go_wp2_with fail
  refine (Bytes37 _ _ _ _ c _ (own_reads HX11.out).1 (own_reads HX11.out).2.1 HC11.out hj2).mono ?_
  rintro e w10 ⟨rfl, hb⟩
  have HB12 := Lib.hid (HB11.out.trans (hb.mono HB11.out.size))
  have HS12 := Lib.hid (HS11.out.below hb)
  obtain ⟨_, _, q0, f0, _, _⟩ := own_reads (own_own HX11.out hb)
  clear hb
  go_wp2_with fail
  refine (All_one (HS12.out.beside _ (Nat.ne_of_gt HA2.out.1) (Nat.ne_of_gt HA2.out.2.1) (fun j hj => by have := HA2.out; have := HL10.out j hj; show j ≠ a2; omega))).mono ?_
  rintro e w11 ⟨a3, k3, b3, j3, rfl, hc3, ha3, ho3, hb⟩
  have HB13 := Lib.hid ((HB12.out.setCell (p := ⟨a2, 0, none⟩) (Nat.le_of_lt HA2.out.2.2.1) _).trans (hb.mono (HB12.out.setCell (p := ⟨a2, 0, none⟩) (Nat.le_of_lt HA2.out.2.2.1) _).size))
  have HS13 := Lib.hid ((HS12.out.beside _ (Nat.ne_of_gt HA2.out.1) (Nat.ne_of_gt HA2.out.2.1) (fun j hj => by have := HA2.out; have := HL10.out j hj; show j ≠ a2; omega)).below hb)
  have HL13 := Lib.hid (show ∀ j, Rs' j → j < w10.heap.size from HS12.out.low)
  rw [set_size] at ho3
  have HA3 := Lib.hid (show g < b3 ∧ bm < b3 ∧ w.heap.size < b3 ∧ w10.heap.size ≤ b3 from by have := (own_reads ho3).2.2.2.2.1; have := HS12.out.lt; have := HB12.out.size; have := HG.out; omega)
  have HO3 := Lib.hid ho3
  have HC3 := Lib.hid hc3
  clear hb ho3 hc3 ha3 q0 f0
  go_wp2_with fail
  refine start_ (n := 13) (S := fun w' => w'.cell? ⟨a3, 1, none⟩ = some (.slice (some ⟨b3, 0, none⟩) 37 j3)) (ds := []) #[false, false, false, false, false, false, false, false, false, false, false, false, false] (by kernel_rfl) rfl rfl (HC3.out) (fun hHeld => ?_)
  refine pure_ (i := 0) (N := some 77) (v := ?_) (a' := ?_) #[true, false, false, false, false, false, false, false, false, false, false, false, false] rfl rfl (by kernel_rfl) (fun _ _ _ h => h) (Or.inl ⟨by rfl, ?_⟩) ?_ ?_
  rotate_left
  · intro w'
    go_simp
    with_reducible rfl
  rotate_left
  · simp only [Act.put, List.setIfInBounds_toArray, List.set_cons_zero, List.set_cons_succ, i64_w, i32_w]
    rfl
  refine pure_ (i := 1) (N := some 78) (v := ?_) (a' := ?_) #[true, true, false, false, false, false, false, false, false, false, false, false, false] rfl rfl (by kernel_rfl) (fun _ _ _ h => h) (Or.inl ⟨by rfl, ?_⟩) ?_ ?_
  rotate_left
  · intro w'
    go_simp
    with_reducible rfl
  rotate_left
  · simp only [Act.put, List.setIfInBounds_toArray, List.set_cons_zero, List.set_cons_succ, i64_w, i32_w]
    rfl
  refine pure_ (i := 2) (N := some 79) (v := ?_) (a' := ?_) #[true, true, true, false, false, false, false, false, false, false, false, false, false] rfl rfl (by kernel_rfl) (fun _ _ _ h => h) (Or.inl ⟨by rfl, ?_⟩) ?_ ?_
  rotate_left
  · intro w'
    go_simp
    with_reducible rfl
  rotate_left
  · simp only [Act.put, List.setIfInBounds_toArray, List.set_cons_zero, List.set_cons_succ, i64_w, i32_w]
    rfl
  refine pure_ (i := 3) (N := some 80) (v := ?_) (a' := ?_) #[true, true, true, true, false, false, false, false, false, false, false, false, false] rfl rfl (by kernel_rfl) (fun _ _ _ h => h) (Or.inl ⟨by rfl, ?_⟩) ?_ ?_
  rotate_left
  · intro w'
    go_simp
    with_reducible rfl
  rotate_left
  · simp only [Act.put, List.setIfInBounds_toArray, List.set_cons_zero, List.set_cons_succ, i64_w, i32_w]
    rfl
  refine pure_ (i := 4) (N := some 81) (v := ?_) (a' := ?_) #[true, true, true, true, true, false, false, false, false, false, false, false, false] rfl rfl (by kernel_rfl) (fun _ _ _ h => h) (Or.inl ⟨by rfl, ?_⟩) ?_ ?_
  rotate_left
  · intro w'
    go_simp
    with_reducible rfl
  rotate_left
  · simp only [Act.put, List.setIfInBounds_toArray, List.set_cons_zero, List.set_cons_succ, i64_w, i32_w]
    rfl
  refine pure_ (i := 5) (N := some 82) (v := ?_) (a' := ?_) #[true, true, true, true, true, true, false, false, false, false, false, false, false] rfl rfl (by kernel_rfl) (fun _ _ _ h => h) (Or.inl ⟨by rfl, ?_⟩) ?_ ?_
  rotate_left
  · intro w'
    go_simp
    with_reducible rfl
  rotate_left
  · simp only [Act.put, List.setIfInBounds_toArray, List.set_cons_zero, List.set_cons_succ, i64_w, i32_w]
    rfl
  refine pure_ (i := 6) (N := some 83) (v := ?_) (a' := ?_) #[true, true, true, true, true, true, true, false, false, false, false, false, false] rfl rfl (by kernel_rfl) (fun _ _ _ h => h) (Or.inl ⟨by rfl, ?_⟩) ?_ ?_
  rotate_left
  · intro w'
    go_simp
    with_reducible rfl
  rotate_left
  · simp only [Act.put, List.setIfInBounds_toArray, List.set_cons_zero, List.set_cons_succ, i64_w, i32_w]
    rfl
  refine pure_ (i := 8) (N := some 85) (v := ?_) (a' := ?_) #[true, true, true, true, true, true, true, false, true, false, false, false, false] rfl rfl (by kernel_rfl) (fun _ _ _ h => h) (Or.inl ⟨by rfl, ?_⟩) ?_ ?_
  rotate_left
  · intro w'
    go_simp
    with_reducible rfl
  rotate_left
  · simp only [Act.put, List.setIfInBounds_toArray, List.set_cons_zero, List.set_cons_succ, i64_w, i32_w]
    rfl
  refine take_ (i := 7) (N := some 84) (v := ?_) (a' := ?_) #[true, true, true, true, true, true, true, true, true, false, false, false, false] rfl rfl (by kernel_rfl) (fun _ _ _ h => h) (Or.inl ⟨by rfl, ?_⟩) hHeld ?_ ?_
  rotate_left
  · intro w' s0
    go_simp
    with_reducible rfl
  rotate_left
  · simp only [Act.put, List.setIfInBounds_toArray, List.set_cons_zero, List.set_cons_succ, i64_w, i32_w]
    rfl
  refine one_ (i := 9) (N := some 86) #[true, true, true, true, true, true, true, true, true, true, false, false, false] rfl rfl (by kernel_rfl) (by decide) (fun K hK => ?_)
  refine goes_ Try.func11 (by kernel_rfl) rfl #[.int .u8 c] (by rfl) rfl rfl (by simp only [List.map_toArray, List.map_cons, List.map_nil]; rfl) ?_
  with_reducible refine (Row37 c _).mono ?_
  rintro e w12 ⟨b4, j4, rfl, hj4, hc, _, hb, _⟩
  refine ⟨_, rfl, ?_⟩
  have HB14 := Lib.hid ((HB13.out.trans ((Below.drew' _).mono HB13.out.size)).trans (hb.mono (HB13.out.trans ((Below.drew' _).mono HB13.out.size)).size))
  have HS14 := Lib.hid ((HS13.out.below (Below.drew' _)).below hb)
  have HO14 := Lib.hid (own_own (own_own HO3.out (Below.drew' _)) hb)
  have HC14 := Lib.hid hc
  have HC3b := Lib.hid (pw_cell_below hb (show w11.drew.cell? ⟨a3, 1, none⟩ = _ from HC3.out))
  clear hb hc
  refine hK.out _ _ (HC3b.out) (fun hHeld => ?_)
  clear hK K
  refine norm_ (a' := ?_) ?_ ?_
  rotate_left
  · show Act.put _ (some 86) _ = _
    simp only [Act.put, List.setIfInBounds_toArray, List.set_cons_zero, List.set_cons_succ, i64_w, i32_w]
    rfl
  refine one_ (i := 10) (N := some 87) #[true, true, true, true, true, true, true, true, true, true, true, false, false] rfl rfl (by kernel_rfl) (by decide) (fun K hK => ?_)
  refine goes_ Try.func14 (by kernel_rfl) rfl #[.slice (some ⟨b3, 0, none⟩) 37 j3, .slice (some ⟨b4, 0, none⟩) 37 j4] (by rfl) rfl rfl (by simp only [List.map_toArray, List.map_cons, List.map_nil]; rfl) ?_
  with_reducible refine (Bytes37 _ _ _ _ c _ (own_reads HO14.out).1 (own_reads HO14.out).2.1 HC14.out hj4).mono ?_
  rintro e w13 ⟨rfl, hb⟩
  refine ⟨_, rfl, ?_⟩
  have HB15 := Lib.hid (HB14.out.trans (hb.mono HB14.out.size))
  have HS15 := Lib.hid (HS14.out.below hb)
  have HO15 := Lib.hid (own_own HO14.out hb)
  have HC3c := Lib.hid (pw_cell_below hb HC3b.out)
  clear hb
  refine hK.out _ _ (HC3c.out) (fun hHeld => ?_)
  clear hK K
  refine norm_ (a' := ?_) ?_ ?_
  rotate_left
  · show Act.put _ (some 87) _ = _
    simp only [Act.put, List.setIfInBounds_toArray, List.set_cons_zero, List.set_cons_succ, i64_w, i32_w]
    rfl
  refine pure_ (i := 11) (N := some 88) (v := ?_) (a' := ?_) #[true, true, true, true, true, true, true, true, true, true, true, true, false] rfl rfl (by kernel_rfl) (fun _ _ _ h => h) (Or.inl ⟨by rfl, ?_⟩) ?_ ?_
  rotate_left
  · intro w'
    go_simp
    with_reducible rfl
  rotate_left
  · simp only [Act.put, List.setIfInBounds_toArray, List.set_cons_zero, List.set_cons_succ, i64_w, i32_w]
    rfl
  refine pure_ (i := 12) (N := some 89) (v := ?_) (a' := ?_) #[true, true, true, true, true, true, true, true, true, true, true, true, true] rfl rfl (by kernel_rfl) (fun _ _ _ h => h) (Or.inl ⟨by rfl, ?_⟩) ?_ ?_
  rotate_left
  · intro w'
    go_simp
    with_reducible rfl
  rotate_left
  · simp only [Act.put, List.setIfInBounds_toArray, List.set_cons_zero, List.set_cons_succ, i64_w, i32_w]
    rfl
  refine done_ (by kernel_rfl) ?_
  have q2 := HC3c.out
  obtain ⟨_, _, q0, f0, _, _⟩ := own_reads HO15.out
  have HL15 := Lib.hid (show ∀ j, Rs' j → j ≠ b3 from fun j hj => by have := HL13.out j hj; have := HA3.out; omega)
  go_wp2_with fail
  refine (Get_one (HS15.out.beside _ (Nat.ne_of_gt HA3.out.1) (Nat.ne_of_gt HA3.out.2.1) HL15.out) HW.out).mono ?_
  rintro e w16 ⟨a5, k5, rfl, hr, hb⟩
  have HB16 := Lib.hid ((HB15.out.setCell (p := ⟨b3, 0, none⟩) (Nat.le_of_lt HA3.out.2.2.1) _).trans (hb.mono (HB15.out.setCell (p := ⟨b3, 0, none⟩) (Nat.le_of_lt HA3.out.2.2.1) _).size))
  have HS16 := Lib.hid ((HS15.out.beside _ (Nat.ne_of_gt HA3.out.1) (Nat.ne_of_gt HA3.out.2.1) HL15.out).below hb)
  have HX16 := Lib.hid hr
  clear hb hr q0 q2 f0
  go_wp2_with fail
  refine (first_calls _).mono ?_
  rintro e w17 ⟨rfl, hb⟩
  have HB17 := Lib.hid (HB16.out.trans (hb.mono HB16.out.size))
  have HS17 := Lib.hid (HS16.out.below hb)
  have HX17 := Lib.hid (own_own HX16.out hb)
  clear hb
  go_wp2_with fail
  refine (Row37 c _).mono ?_
  rintro e w18 ⟨b6, j6, rfl, hj6, hc, _, hb, _⟩
  have HB18 := Lib.hid (HB17.out.trans (hb.mono HB17.out.size))
  have HS18 := Lib.hid (HS17.out.below hb)
  have HX18 := Lib.hid (own_own HX17.out hb)
  have HC18 := Lib.hid hc
  clear hb hc
  go_wp2_with fail
  refine (Bytes37 _ _ _ _ c _ (own_reads HX18.out).1 (own_reads HX18.out).2.1 HC18.out hj6).mono ?_
  rintro e w19 ⟨rfl, hb⟩
  have HB19 := Lib.hid (HB18.out.trans (hb.mono HB18.out.size))
  have HS19 := Lib.hid (HS18.out.below hb)
  clear hb
  go_wp2_with fail
  refine (Len_calls HS19.out).mono ?_
  rintro e w20 ⟨rfl, rfl⟩
  go_wp2_with fail
  go_ret
  exact ⟨rfl, HB19.out⟩
end Go.Proofs.Ytmjbmbhpfckagaa.A
