/- The document's Put, walked. -/
import Derived.Test.YtmjbmbhpfckagaaStashR
namespace Go.Proofs.Ytmjbmbhpfckagaa.A
open Go.RowKit Go.Maps Go.Sort Go.Shelf Go.Proofs.YtmjbmbhpfckagaaW.PrintWords Go.Proofs.YtmjbmbhpfckagaaW.PrintLast Go.Proofs.Ytmjbmbhpfckagaa.B
set_option linter.unusedVariables false
set_option linter.unusedSimpArgs false

theorem alloc_cell' {w : World} {a : Addr} {v : Value} (h : w.cell? a = some v) (o : Obj) : (w.alloc o).cell? a = some v := pw_cell_below ((Below.refl w.heap.size w).alloc (Nat.le_refl _) o) h
theorem own_lower' {w : World} {b b' : Nat} {e : TypeId} {s n : Nat} {v : Value} {xs : List Value} (h : w.ownsRow b e s v n xs) (hb : b' ≤ b) : w.ownsRow b' e s v n xs := own_weaken h hb
theorem frozen_at {w : World} {b : Nat} {cs : Array Value} {t : TypeId} (h : w.heap[b]? = some (.cells cs t (0, 0))) (j : Nat) : w.frozen? ⟨b, j, none⟩ = false := by simp [World.frozen?, h]
theorem allocB' (w : World) (o : Obj) : Below w.heap.size w (w.alloc o) := (Below.refl _ w).alloc (Nat.le_refl _) o
theorem drewB (w : World) : Below w.heap.size w w.drew := Below.drew' w
theorem row_of_block {w : World} {a : Nat} {q : Ent} {xs : List Int} (h : Row w (fun j => j = a) (entV q) xs) : a < w.heap.size := by
  obtain ⟨a', _, _, _, _, _, h4, h5, _⟩ := h
  omega
theorem posE {id : Int} {P : List (Int × List Int)} {w : World} {g : Nat} {Rs : Nat → Prop} {v : Value} {ys : List Ent} {m z : Int} (h : XS w g Rs v ys P m) (hP : P.length ≤ 64) (hz : posF id P = z) :
    Calls Try.prog 24 #[.pointer (some ⟨g, 0, none⟩), .int .i64 id] w fun e w' => e = .returned (.int .i64 z) ∧ w' = w := hz ▸ XFind h id hP

section
variable {w : World} {g : Nat} {Rs : Nat → Prop} {v : Value} {ys : List Ent} {P : List (Int × List Int)} {m : Int}
set_option maxHeartbeats 2000000 in
set_option maxRecDepth 100000 in
theorem XPut_no (id : Int) (A : Option Addr) (xs : List Int) (c : Nat) (hx : xs.length ≤ c) (hC : Kd.C (Kd.int .u8) w A xs.length xs) (hM : mayF [] [(⟨id, xs⟩ : S24)] = false) :
    Calls Try.prog 22 #[.pointer (some ⟨g, 0, none⟩), .agg #[.int .i64 id, .slice A xs.length c]] w fun e w' => e = .returned (.bool false) ∧ Below w.heap.size w w' := by
  have B2 := (allocB' w (.cells #[.int .i64 id, .slice A xs.length c] 53)).alloc (by simp) (.cells #[.int .i64 id, .slice A xs.length c] 53)
  have hT := heap_top (w.alloc (.cells #[.int .i64 id, .slice A xs.length c] 53)) (.cells #[.int .i64 id, .slice A xs.length c] 53 (0, 0))
  rw [show (w.alloc (.cells #[.int .i64 id, .slice A xs.length c] 53)).heap.size = w.heap.size + 1 by simp] at hT
  have HM := Lib.hid (MayB_one hM hx (Kd.C_below hC B2) (w.heap.size + 1) (cell_at hT 0 rfl) (cell_at hT 1 rfl))
  have HB := Lib.hid B2
  clear hC B2 hM hT
  go_enter Try.func22, Try.ntmps22
  go_wp2_with fail
  refine HM.out.mono ?_
  rintro e w1 ⟨rfl, hb⟩
  have HB1 := Lib.hid (HB.out.trans (hb.mono HB.out.size))
  clear hb
  go_wp2_with fail
  go_ret
  exact ⟨rfl, HB1.out⟩

set_option maxHeartbeats 8000000 in
set_option maxRecDepth 100000 in
theorem XPut_yes (h : XS w g Rs v ys P m) (id : Int) (A : Option Addr) (xs : List Int) (c : Nat) (hx : xs.length ≤ c) (hC : Kd.C (Kd.int .u8) w A xs.length xs) (hM : mayF [] [(⟨id, xs⟩ : S24)] = true) (hl : xs.length = 37) (hu : Up P) (hP : P.length ≤ 64) (hm : (P.length : Int) ≤ m) :
    Calls Try.prog 22 #[.pointer (some ⟨g, 0, none⟩), .agg #[.int .i64 id, .slice A xs.length c]] w fun e w' => e = .returned (.bool true) ∧ (∃ Rs' v' ys', XS w' g Rs' v' ys' (putA id xs P) (max m (putA id xs P).length) ∧ (∀ k, Rs' k → Rs k ∨ w.heap.size ≤ k) ∧ (∀ k, v'.ownBlock = some k → v.ownBlock = some k ∨ w.heap.size ≤ k)) ∧ Eff w w' (fun k => k = g ∨ v.ownBlock = some k) := by
  have B2 := (allocB' w (.cells #[.int .i64 id, .slice A xs.length c] 53)).alloc (by simp) (.cells #[.int .i64 id, .slice A xs.length c] 53)
  have hT := heap_top (w.alloc (.cells #[.int .i64 id, .slice A xs.length c] 53)) (.cells #[.int .i64 id, .slice A xs.length c] 53 (0, 0))
  rw [show (w.alloc (.cells #[.int .i64 id, .slice A xs.length c] 53)).heap.size = w.heap.size + 1 by simp] at hT
  have HM := Lib.hid (MayB_one hM hx (Kd.C_below hC B2) (w.heap.size + 1) (cell_at hT 0 rfl) (cell_at hT 1 rfl))
  have HB := Lib.hid B2
  have HT := Lib.hid (kept_at (allocB' _ (.cells #[.int .i64 id, .slice A xs.length c] 53)) (heap_top w (.cells #[.int .i64 id, .slice A xs.length c] 53 (0, 0))))
  have H := Lib.hid h
  have HC := Lib.hid hC
  have HL := Lib.hid hl
  have HU := Lib.hid hu
  have HMM := Lib.hid hm
  clear hC B2 hM hT h hl hu hm
  go_enter Try.func22, Try.ntmps22
  go_wp2_with fail
  refine HM.out.mono ?_
  rintro e w1 ⟨rfl, hb⟩
  have HB1 := Lib.hid (HB.out.trans (hb.mono HB.out.size))
  have HT1 := Lib.hid (kept_at hb HT.out)
  clear hb HM HT
  go_wp2_with fail
  go_cut [5] (fun s5 wx => ∃ (b a k : Nat), s5 = .pointer (some ⟨b, 0, none⟩) ∧ Hid (wx.heap[b]? = some (.cells #[.int .i64 id, .slice (some ⟨a, 0, none⟩) xs.length k] 53 (0, 0))) ∧ Hid (wx.ownsRow w.heap.size 5 1 (.slice (some ⟨a, 0, none⟩) xs.length k) xs.length (xs.map (Value.int .u8))) ∧ Hid (Below w.heap.size w wx) ∧ Hid (wx.heap[w.heap.size]? = some (.cells #[.int .i64 id, .slice A xs.length c] 53 (0, 0))) ∧ Hid (w.heap.size < b ∧ a ≠ b))
  case first =>
    obtain ⟨B, hBn⟩ : ∃ B : Nat, w.heap.size = B := ⟨_, rfl⟩
    rw [hBn] at HT1
    have HCo0 := Lib.hid (CopyB hx (Kd.C_below (Kd.C_below HC.out HB1.out) (drewB w1)) HL.out)
    have HCo1 := Lib.hid (CopyB hx (Kd.C_below (Kd.C_below (Kd.C_below HC.out HB1.out) (allocB' w1 (.cells #[.int .i64 0, .slice none 0 0] 53))) (drewB _)) HL.out)
    have HT0 := Lib.hid (kept_at (drewB w1) HT1.out)
    have HTa := Lib.hid (kept_at (drewB _) (kept_at (allocB' w1 (.cells #[.int .i64 0, .slice none 0 0] 53 (0, 0))) HT1.out))
    have HTn := Lib.hid (kept_at (drewB _) (heap_top w1 (.cells #[.int .i64 0, .slice none 0 0] 53 (0, 0))))
    have hB1 : B < w1.heap.size := (Array.getElem?_eq_some_iff.1 HT1.out).1
    refine start_ (n := 8) (S := fun w' => w'.cell? ⟨B, 0, none⟩ = some (.int .i64 id) ∧ w'.cell? ⟨B, 1, none⟩ = some (.slice A xs.length c)) (ds := [7]) #[false, false, false, false, false, false, false, false] (by kernel_rfl) rfl rfl ⟨cell_at HT0.out 0 rfl, cell_at HT0.out 1 rfl⟩ (fun hHeld => ?_)
    refine pure_ (i := 0) (N := some 12) (v := ?_) (a' := ?_) #[true, false, false, false, false, false, false, false] rfl rfl (by kernel_rfl) (fun _ _ _ h => h) (Or.inl ⟨by rfl, ?_⟩) ?_ ?_
    rotate_left
    · intro w'
      go_simp
      with_reducible rfl
    rotate_left
    · simp only [Act.put, List.setIfInBounds_toArray, List.set_cons_zero, List.set_cons_succ, i64_w, i32_w]
      rfl
    refine pure_ (i := 2) (N := some 14) (v := ?_) (a' := ?_) #[true, false, true, false, false, false, false, false] rfl rfl (by kernel_rfl) (fun _ _ _ h => h) (Or.inl ⟨by rfl, ?_⟩) ?_ ?_
    rotate_left
    · intro w'
      go_simp
      with_reducible rfl
    rotate_left
    · simp only [Act.put, List.setIfInBounds_toArray, List.set_cons_zero, List.set_cons_succ, i64_w, i32_w]
      rfl
    refine take_ (i := 1) (N := some 13) (v := ?_) (a' := ?_) #[true, true, true, false, false, false, false, false] rfl rfl (by kernel_rfl) (fun _ _ _ h => h) (Or.inl ⟨by rfl, ?_⟩) hHeld ?_ ?_
    rotate_left
    · rintro w' ⟨s0, s1⟩
      go_simp
      with_reducible rfl
    rotate_left
    · simp only [Act.put, List.setIfInBounds_toArray, List.set_cons_zero, List.set_cons_succ, i64_w, i32_w]
      rfl
    refine take_ (i := 3) (N := some 15) (v := ?_) (a' := ?_) #[true, true, true, true, false, false, false, false] rfl rfl (by kernel_rfl) (fun _ _ _ h => h) (Or.inl ⟨by rfl, ?_⟩) hHeld ?_ ?_
    rotate_left
    · rintro w' ⟨s0, s1⟩
      go_simp
      with_reducible rfl
    rotate_left
    · simp only [Act.put, List.setIfInBounds_toArray, List.set_cons_zero, List.set_cons_succ, i64_w, i32_w]
      rfl
    refine join_ (σ := Nat × Nat × Nat) 1 #[true, true, true, true, true, true, true, false] (fun s => [(16, .slice (some ⟨s.2.1, 0, none⟩) xs.length s.2.2), (5, .pointer (some ⟨s.1, 0, none⟩)), (17, .agg #[.int .i64 id, .slice (some ⟨s.2.1, 0, none⟩) xs.length s.2.2])]) (fun s w' => w'.heap[s.1]? = some (.cells #[.int .i64 0, .slice none 0 0] 53 (0, 0)) ∧ w'.ownsRow w1.heap.size 5 1 (.slice (some ⟨s.2.1, 0, none⟩) xs.length s.2.2) xs.length (xs.map (Value.int .u8)) ∧ Below w.heap.size w w' ∧ w'.heap[B]? = some (.cells #[.int .i64 id, .slice A xs.length c] 53 (0, 0)) ∧ (B < s.1 ∧ s.2.1 ≠ s.1)) ?_ ?_
    rotate_left
    · intro hCont
      refine two_ (i := 4) (j := 6) (Ni := some 16) (Nj := some 5) #[true, true, true, true, true, false, false, false] #[true, true, true, true, false, false, true, false] rfl rfl rfl rfl (by kernel_rfl) (by decide) (by decide) (fun K hK => ?_) (fun K hK => ?_)
      · skip
        refine goes_ Try.func34 (by kernel_rfl) rfl #[.slice A xs.length c] (by rfl) rfl rfl (by simp only [List.map_toArray, List.map_cons, List.map_nil]; rfl) ?_
        with_reducible refine (HCo0.out).mono ?_
        rintro e w3 ⟨a, k, rfl, how, hb⟩
        refine ⟨_, rfl, ?_⟩
        have HOw3 := Lib.hid how
        have HB3 := Lib.hid hb
        have T3 := Lib.hid (kept_at hb HT0.out)
        clear how hb
        refine hK.out _ _ ⟨cell_at T3.out 0 rfl, cell_at T3.out 1 rfl⟩ (fun hHeld => ?_)
        clear hK K
        refine norm_ (a' := ?_) ?_ ?_
        rotate_left
        · show Act.put _ (some 16) _ = _
          simp only [Act.put, List.setIfInBounds_toArray, List.set_cons_zero, List.set_cons_succ, i64_w, i32_w]
          rfl
        refine pure_ (i := 5) (N := some 17) (v := ?_) (a' := ?_) #[true, true, true, true, true, true, false, false] rfl rfl (by kernel_rfl) (fun _ _ _ h => h) (Or.inl ⟨by rfl, ?_⟩) ?_ ?_
        rotate_left
        · intro w'
          go_simp
          with_reducible rfl
        rotate_left
        · simp only [Act.put, List.setIfInBounds_toArray, List.set_cons_zero, List.set_cons_succ, i64_w, i32_w]
          rfl
        refine one_ (i := 6) (N := some 5) #[true, true, true, true, true, true, true, false] rfl rfl (by kernel_rfl) (by decide) (fun K hK => ?_)
        refine value_ (w1 := ?_) (v := ?_) (by rfl) rfl ?_ ?_
        rotate_left 2
        · go_simp
          constructor
          · rfl
          · rfl
        refine hK.out _ _ ⟨alloc_cell' (cell_at T3.out 0 rfl) _, alloc_cell' (cell_at T3.out 1 rfl) _⟩ (fun hHeld => ?_)
        clear hK K
        refine norm_ (a' := ?_) ?_ ?_
        rotate_left
        · show Act.put _ (some 5) _ = _
          simp only [Act.put, List.setIfInBounds_toArray, List.set_cons_zero, List.set_cons_succ, i64_w, i32_w]
          rfl
        exact norm_ (by simp only [putAll, Act.put, List.setIfInBounds_toArray, List.set_cons_zero, List.set_cons_succ]) (hCont ⟨w3.heap.size, a, k⟩ _ ⟨heap_top _ _, own_own HOw3.out (allocB' _ _), (HB1.out.trans ((drewB w1).mono HB1.out.size)).trans ((HB3.out.trans ((allocB' w3 _).mono HB3.out.size)).mono (HB1.out.trans ((drewB w1).mono HB1.out.size)).size), kept_at (allocB' _ _) T3.out, by show B < w3.heap.size ∧ a ≠ w3.heap.size; have := (own_row HOw3.out (by rw [HL.out]; omega)).2; have := HB3.out.size; have e : w1.drew.heap.size = w1.heap.size := rfl; omega⟩)
      · skip
        refine value_ (w1 := ?_) (v := ?_) (by rfl) rfl ?_ ?_
        rotate_left 2
        · go_simp
          constructor
          · rfl
          · rfl
        refine hK.out _ _ ⟨cell_at HTa.out 0 rfl, cell_at HTa.out 1 rfl⟩ (fun hHeld => ?_)
        clear hK K
        refine norm_ (a' := ?_) ?_ ?_
        rotate_left
        · show Act.put _ (some 5) _ = _
          simp only [Act.put, List.setIfInBounds_toArray, List.set_cons_zero, List.set_cons_succ, i64_w, i32_w]
          rfl
        refine one_ (i := 4) (N := some 16) #[true, true, true, true, true, false, true, false] rfl rfl (by kernel_rfl) (by decide) (fun K hK => ?_)
        refine goes_ Try.func34 (by kernel_rfl) rfl #[.slice A xs.length c] (by rfl) rfl rfl (by simp only [List.map_toArray, List.map_cons, List.map_nil]; rfl) ?_
        with_reducible refine (HCo1.out).mono ?_
        rintro e w3 ⟨a, k, rfl, how, hb⟩
        refine ⟨_, rfl, ?_⟩
        have HOw3 := Lib.hid how
        have HB3 := Lib.hid hb
        have T3 := Lib.hid (kept_at hb HTa.out)
        clear how hb
        refine hK.out _ _ ⟨cell_at T3.out 0 rfl, cell_at T3.out 1 rfl⟩ (fun hHeld => ?_)
        clear hK K
        refine norm_ (a' := ?_) ?_ ?_
        rotate_left
        · show Act.put _ (some 16) _ = _
          simp only [Act.put, List.setIfInBounds_toArray, List.set_cons_zero, List.set_cons_succ, i64_w, i32_w]
          rfl
        refine pure_ (i := 5) (N := some 17) (v := ?_) (a' := ?_) #[true, true, true, true, true, true, true, false] rfl rfl (by kernel_rfl) (fun _ _ _ h => h) (Or.inl ⟨by rfl, ?_⟩) ?_ ?_
        rotate_left
        · intro w'
          go_simp
          with_reducible rfl
        rotate_left
        · simp only [Act.put, List.setIfInBounds_toArray, List.set_cons_zero, List.set_cons_succ, i64_w, i32_w]
          rfl
        exact norm_ (by simp only [putAll, Act.put, List.setIfInBounds_toArray, List.set_cons_zero, List.set_cons_succ]) (hCont ⟨w1.heap.size, a, k⟩ _ ⟨kept_at HB3.out HTn.out, own_lower' HOw3.out (by simp [heap_drew]), ((HB1.out.trans ((allocB' w1 _).mono HB1.out.size)).trans ((drewB _).mono (HB1.out.trans ((allocB' w1 _).mono HB1.out.size)).size)).trans (HB3.out.mono ((HB1.out.trans ((allocB' w1 _).mono HB1.out.size)).trans ((drewB _).mono (HB1.out.trans ((allocB' w1 _).mono HB1.out.size)).size)).size), T3.out, by show B < w1.heap.size ∧ a ≠ w1.heap.size; have := (own_row HOw3.out (by rw [HL.out]; omega)).2; simp [heap_drew] at this; omega⟩)
    rintro ⟨b, a, k⟩ w4 ⟨hs, how, hb, ht, hn⟩
    simp only at hs how hn ⊢
    have HTs := Lib.hid hs
    have HOw := Lib.hid (own_lower' (b' := w.heap.size) how (by omega))
    have HB4 := Lib.hid hb
    have HT4 := Lib.hid ht
    have HNe := Lib.hid hn
    have z0 := cell_at hs 0 rfl
    have z1 := cell_at hs 1 rfl
    have f0 := frozen_at hs 0
    have f1 := frozen_at hs 1
    clear hs how hb ht hn
    have hHeld : w4.cell? ⟨B, 0, none⟩ = some (.int .i64 id) ∧ w4.cell? ⟨B, 1, none⟩ = some (.slice A xs.length c) := ⟨cell_at HT4.out 0 rfl, cell_at HT4.out 1 rfl⟩
    refine norm_ (a' := ?_) ?_ ?_
    rotate_left
    · simp only [putAll, Act.put, List.setIfInBounds_toArray, List.set_cons_zero, List.set_cons_succ]
      rfl
    refine last_ (i := 7) (N := none) #[true, true, true, true, true, true, true, true] rfl rfl (by kernel_rfl) (by decide) (fun K hK => ?_)
    refine skip_ (w1 := ?_) (by rfl) rfl ?_ ?_
    rotate_left
    · go_simp
      rfl
    refine hK.out _ _ ?_
    clear hK K
    refine done_ (by kernel_rfl) ?_
    go_wp2_with fail
    subst hBn
    go_meet
    exact ⟨b, a, k, rfl, two_set HTs.out _ _, own_move HOw.out (fun j hj => by obtain rfl := own_is hj; exact two_other _ _ HNe.out.2), (HB4.out.setCell (p := ⟨b, 0, none⟩) (Nat.le_of_lt HNe.out.1) _).setCell (p := ⟨b, 1, none⟩) (Nat.le_of_lt HNe.out.1) _, (two_other _ _ (Nat.ne_of_lt HNe.out.1)).trans HT4.out, HNe.out⟩
  case rest =>
    clear HT1 HB1 HB
    obtain ⟨b, a, k, rfl, HTb, HOw, HB5, HT5, HNe⟩ := hcut
    have p0 : wc.cell? ⟨w.heap.size, 0, none⟩ = some (.int .i64 id) := cell_at HT5.out 0 rfl
    have H5 := Lib.hid (H.out.below HB5.out)
    have HRow := Lib.hid (own_row HOw.out (by rw [HL.out]; omega))
    go_wp2_with fail
    cases hix : ix id P with
    | some j =>
      have HP5 := Lib.hid (show posF id P = (j : Int) by unfold posF; rw [hix])
      obtain ⟨hj1, hj2, hj3, hj⟩ := ix_get hix
      have HE := Lib.hid (put_at (x := xs) HU.out hix)
      refine (posE H5.out hP HP5.out).mono ?_
      rintro e wc ⟨rfl, rfl⟩
      obtain ⟨bl, cl, e1⟩ := H5.out.head (by omega)
      subst e1
      clear hix hj1 hj2 hj3
      go_wp2_with fail
      have H6 := Lib.hid (H5.out.below (drewB wc))
      obtain ⟨y6, p6, _, _, _, _, z0, z1, f0, f1⟩ := H5.out.at j hj
      have HTb6 := Lib.hid (kept_at (drewB wc) HTb.out)
      have HRow6 := Lib.hid (own_row HOw.out (by rw [HL.out]; omega))
      have Hbl := Lib.hid (show bl < w.heap.size ∧ g < w.heap.size from ⟨(H.out.base bl (by simp [Value.ownBlock])).2, H.out.lt⟩)
      refine start_ (n := 8) (S := fun w' => w'.cell? ⟨g, 0, none⟩ = some (.slice (some ⟨bl, 0, none⟩) P.length cl) ∧ w'.cell? ⟨b, 0, none⟩ = some (.int .i64 id) ∧ w'.cell? ⟨b, 1, none⟩ = some (.slice (some ⟨a, 0, none⟩) xs.length k)) (ds := [7]) #[false, false, false, false, false, false, false, false] (by kernel_rfl) rfl rfl ⟨H6.out.cell0, cell_at HTb6.out 0 rfl, cell_at HTb6.out 1 rfl⟩ (fun hHeld => ?_)
      refine pure_ (i := 0) (N := some 24) (v := ?_) (a' := ?_) #[true, false, false, false, false, false, false, false] rfl rfl (by kernel_rfl) (fun _ _ _ h => h) (Or.inl ⟨by rfl, ?_⟩) ?_ ?_
      rotate_left
      · intro w'
        go_simp
        with_reducible rfl
      rotate_left
      · simp only [Act.put, List.setIfInBounds_toArray, List.set_cons_zero, List.set_cons_succ, i64_w, i32_w]
        rfl
      refine pure_ (i := 1) (N := some 25) (v := ?_) (a' := ?_) #[true, true, false, false, false, false, false, false] rfl rfl (by kernel_rfl) (fun _ _ _ h => h) (Or.inl ⟨by rfl, ?_⟩) ?_ ?_
      rotate_left
      · intro w'
        go_simp
        with_reducible rfl
      rotate_left
      · simp only [Act.put, List.setIfInBounds_toArray, List.set_cons_zero, List.set_cons_succ, i64_w, i32_w]
        rfl
      refine pure_ (i := 2) (N := some 26) (v := ?_) (a' := ?_) #[true, true, true, false, false, false, false, false] rfl rfl (by kernel_rfl) (fun _ _ _ h => h) (Or.inl ⟨by rfl, ?_⟩) ?_ ?_
      rotate_left
      · intro w'
        go_simp
        with_reducible rfl
      rotate_left
      · simp only [Act.put, List.setIfInBounds_toArray, List.set_cons_zero, List.set_cons_succ, i64_w, i32_w]
        rfl
      refine pure_ (i := 4) (N := some 28) (v := ?_) (a' := ?_) #[true, true, true, false, true, false, false, false] rfl rfl (by kernel_rfl) (fun _ _ _ h => h) (Or.inl ⟨by rfl, ?_⟩) ?_ ?_
      rotate_left
      · intro w'
        go_simp
        with_reducible rfl
      rotate_left
      · simp only [Act.put, List.setIfInBounds_toArray, List.set_cons_zero, List.set_cons_succ, i64_w, i32_w]
        rfl
      refine take_ (i := 3) (N := some 27) (v := ?_) (a' := ?_) #[true, true, true, true, true, false, false, false] rfl rfl (by kernel_rfl) (fun _ _ _ h => h) (Or.inl ⟨by rfl, ?_⟩) hHeld ?_ ?_
      rotate_left
      · rintro w' ⟨s0, s1, s2⟩
        go_simp
        with_reducible rfl
      rotate_left
      · simp only [Act.put, List.setIfInBounds_toArray, List.set_cons_zero, List.set_cons_succ, i64_w, i32_w]
        rfl
      refine take_ (i := 5) (N := some 29) (v := ?_) (a' := ?_) #[true, true, true, true, true, true, false, false] rfl rfl (by kernel_rfl) (fun _ _ _ h => h) (Or.inl ⟨by rfl, ?_⟩) hHeld ?_ ?_
      rotate_left
      · rintro w' ⟨s0, s1, s2⟩
        go_simp
        with_reducible rfl
      rotate_left
      · simp only [Act.put, List.setIfInBounds_toArray, List.set_cons_zero, List.set_cons_succ, i64_w, i32_w]
        rfl
      refine pure_ (i := 6) (N := some 30) (v := ?_) (a' := ?_) #[true, true, true, true, true, true, true, false] rfl rfl (by kernel_rfl) (fun _ _ _ h => h) (Or.inl ⟨by rfl, ?_⟩) ?_ ?_
      rotate_left
      · intro w'
        go_simp
        with_reducible rfl
      rotate_left
      · simp only [Act.put, List.setIfInBounds_toArray, List.set_cons_zero, List.set_cons_succ, i64_w, i32_w]
        rfl
      refine last_ (i := 7) (N := none) #[true, true, true, true, true, true, true, true] rfl rfl (by kernel_rfl) (by decide) (fun K hK => ?_)
      refine skip_ (w1 := ?_) (by rfl) rfl ?_ ?_
      rotate_left
      · go_simp
        rfl
      refine hK.out _ _ ?_
      clear hK K
      refine done_ (by kernel_rfl) ?_
      have HX := Lib.hid ((H5.out.set (id := id) hj HRow6.out.1 (by have := HRow6.out.2; have := Hbl.out; omega)).below (drewB _))
      clear z0 z1 f0 f1
      go_wp2_with fail
      go_ret
      refine ⟨rfl, ⟨fun j_ => Rs j_ ∨ j_ = a, .slice (some ⟨bl, 0, none⟩) P.length cl, ys.set j (id, (some ⟨a, 0, none⟩, xs.length, k)), ?_, fun k_ hk_ => ?_, fun k_ hk_ => .inl hk_⟩, ((Eff.of_below HB5.out).trans (two_eff _ _ (.inr (by simp [Value.ownBlock])))).then_below (drewB _)⟩
      · have e1 : (max m ((P.set j (id, xs)).length : Int)) = m := by rw [List.length_set]; have := HMM.out; omega
        rw [HE.out, e1]
        exact HX.out
      · rcases hk_ with h1 | rfl
        · exact .inl h1
        · exact .inr HRow6.out.2.1
    | none =>
      have HP5 := Lib.hid (show posF id P = -1 by unfold posF; rw [hix])
      have HIX := Lib.hid hix
      clear hix
      refine (posE H5.out hP HP5.out).mono ?_
      rintro e wc ⟨rfl, rfl⟩
      obtain ⟨A2, c2, e1, hc2, _⟩ := H5.out.slice
      subst e1
      go_upto_block 0 with fail
      go_cut [7] (fun s7 wx => ∃ k : Nat, k ≤ P.length ∧ s7 = .int .i64 k ∧ Hid (∀ (i : Nat) p, i < k → P[i]? = some p → p.1 < id) ∧ Hid (∀ p, P[k]? = some p → ¬ p.1 < id) ∧ Hid (Below wc.heap.size wc wx))
      case first =>
        go_wp2_with fail
        go_loopw [7] (fun s7 wr => ∃ k : Nat, k ≤ P.length ∧ s7 = .int .i64 k ∧ Hid (∀ (i : Nat) p, i < k → P[i]? = some p → p.1 < id) ∧ Hid (Below wc.heap.size wc wr)) (fun i _ => P.length - (intOf i).toNat)
        case atStart => exact ⟨0, Nat.zero_le _, rfl, fun i p hi => by omega, Below.refl _ _⟩
        case round =>
          obtain ⟨k7, hk7, rfl, HA7, HB7⟩ := hrel
          have H7 := Lib.hid ((H5.out.below HB7.out).below (drewB wr))
          have HT7 := Lib.hid (kept_at (drewB wr) (kept_at HB7.out HT5.out))
          have HBn7 := Lib.hid (HB7.out.trans ((drewB wr).mono HB7.out.size))
          by_cases hlt : k7 < P.length
          · obtain ⟨b7, c7, e7⟩ := H7.out.head (by omega)
            cases e7
            obtain ⟨y7, p7, _, hp7, _, _, z0, _⟩ := H7.out.at k7 hlt
            have HP7 := Lib.hid hp7
            clear hp7
            by_cases hkey : p7.1 < id
            · have HN7 := Lib.hid (show ∀ (i : Nat) p, i < k7 + 1 → P[i]? = some p → p.1 < id from fun i p hi hp => by
                by_cases hik : i < k7
                · exact HA7.out i p hik hp
                · obtain rfl : i = k7 := by omega
                  have e := HP7.out
                  rw [hp] at e
                  cases e
                  exact hkey)
              have HQ := Lib.hid z0
              clear z0
              generalize p7.1 = z at hkey HQ
              have t1 : decide (z < id) = true := decide_eq_true hkey
              clear hkey
              go_wp2_with fail
              refine start_ (n := 20) (S := fun w' => w'.cell? ⟨g, 0, none⟩ = some (.slice (some ⟨b7, 0, none⟩) P.length c2) ∧ w'.cell? ⟨b7, k7 * 2, none⟩ = some (.int .i64 z) ∧ w'.cell? ⟨w.heap.size, 0, none⟩ = some (.int .i64 id)) (ds := []) #[false, false, false, false, false, false, false, false, false, false, false, false, false, false, false, false, false, false, false, false] (by kernel_rfl) rfl rfl ⟨H7.out.cell0, HQ.out, cell_at HT7.out 0 rfl⟩ (fun hHeld => ?_)
              refine pure_ (i := 0) (N := some 31) (v := ?_) (a' := ?_) #[true, false, false, false, false, false, false, false, false, false, false, false, false, false, false, false, false, false, false, false] rfl rfl (by kernel_rfl) (fun _ _ _ h => h) (Or.inl ⟨by rfl, ?_⟩) ?_ ?_
              rotate_left
              · intro w'
                go_simp
                with_reducible rfl
              rotate_left
              · simp only [Act.put, List.setIfInBounds_toArray, List.set_cons_zero, List.set_cons_succ, i64_w, i32_w]
                rfl
              refine pure_ (i := 1) (N := some 32) (v := ?_) (a' := ?_) #[true, true, false, false, false, false, false, false, false, false, false, false, false, false, false, false, false, false, false, false] rfl rfl (by kernel_rfl) (fun _ _ _ h => h) (Or.inl ⟨by rfl, ?_⟩) ?_ ?_
              rotate_left
              · intro w'
                go_simp
                with_reducible rfl
              rotate_left
              · simp only [Act.put, List.setIfInBounds_toArray, List.set_cons_zero, List.set_cons_succ, i64_w, i32_w]
                rfl
              refine pure_ (i := 2) (N := some 33) (v := ?_) (a' := ?_) #[true, true, true, false, false, false, false, false, false, false, false, false, false, false, false, false, false, false, false, false] rfl rfl (by kernel_rfl) (fun _ _ _ h => h) (Or.inl ⟨by rfl, ?_⟩) ?_ ?_
              rotate_left
              · intro w'
                go_simp
                with_reducible rfl
              rotate_left
              · simp only [Act.put, List.setIfInBounds_toArray, List.set_cons_zero, List.set_cons_succ, i64_w, i32_w]
                rfl
              refine pure_ (i := 3) (N := some 34) (v := ?_) (a' := ?_) #[true, true, true, true, false, false, false, false, false, false, false, false, false, false, false, false, false, false, false, false] rfl rfl (by kernel_rfl) (fun _ _ _ h => h) (Or.inl ⟨by rfl, ?_⟩) ?_ ?_
              rotate_left
              · intro w'
                go_simp
                with_reducible rfl
              rotate_left
              · simp only [Act.put, List.setIfInBounds_toArray, List.set_cons_zero, List.set_cons_succ, i64_w, i32_w]
                rfl
              refine take_ (i := 4) (N := some 35) (v := ?_) (a' := ?_) #[true, true, true, true, true, false, false, false, false, false, false, false, false, false, false, false, false, false, false, false] rfl rfl (by kernel_rfl) (fun _ _ _ h => h) (Or.inl ⟨by rfl, ?_⟩) hHeld ?_ ?_
              rotate_left
              · rintro w' ⟨s0, s1, s2⟩
                go_simp
                with_reducible rfl
              rotate_left
              · simp only [Act.put, List.setIfInBounds_toArray, List.set_cons_zero, List.set_cons_succ, i64_w, i32_w]
                rfl
              refine pure_ (i := 5) (N := some 36) (v := ?_) (a' := ?_) #[true, true, true, true, true, true, false, false, false, false, false, false, false, false, false, false, false, false, false, false] rfl rfl (by kernel_rfl) (fun _ _ _ h => h) (Or.inl ⟨by rfl, ?_⟩) ?_ ?_
              rotate_left
              · intro w'
                go_simp
                with_reducible rfl
              rotate_left
              · simp only [Act.put, List.setIfInBounds_toArray, List.set_cons_zero, List.set_cons_succ, i64_w, i32_w]
                rfl
              refine pure_ (i := 6) (N := some 37) (v := ?_) (a' := ?_) #[true, true, true, true, true, true, true, false, false, false, false, false, false, false, false, false, false, false, false, false] rfl rfl (by kernel_rfl) (fun _ _ _ h => h) (Or.inl ⟨by rfl, ?_⟩) ?_ ?_
              rotate_left
              · intro w'
                go_simp
                with_reducible rfl
              rotate_left
              · simp only [Act.put, List.setIfInBounds_toArray, List.set_cons_zero, List.set_cons_succ, i64_w, i32_w]
                rfl
              refine pure_ (i := 7) (N := some 38) (v := ?_) (a' := ?_) #[true, true, true, true, true, true, true, true, false, false, false, false, false, false, false, false, false, false, false, false] rfl rfl (by kernel_rfl) (fun _ _ _ h => h) (Or.inl ⟨by rfl, ?_⟩) ?_ ?_
              rotate_left
              · intro w'
                go_simp
                with_reducible rfl
              rotate_left
              · simp only [Act.put, List.setIfInBounds_toArray, List.set_cons_zero, List.set_cons_succ, i64_w, i32_w]
                rfl
              refine pure_ (i := 8) (N := some 39) (v := ?_) (a' := ?_) #[true, true, true, true, true, true, true, true, true, false, false, false, false, false, false, false, false, false, false, false] rfl rfl (by kernel_rfl) (fun _ _ _ h => h) (Or.inl ⟨by rfl, ?_⟩) ?_ ?_
              rotate_left
              · intro w'
                go_simp
                with_reducible rfl
              rotate_left
              · simp only [Act.put, List.setIfInBounds_toArray, List.set_cons_zero, List.set_cons_succ, i64_w, i32_w]
                rfl
              refine pure_ (i := 9) (N := some 40) (v := ?_) (a' := ?_) #[true, true, true, true, true, true, true, true, true, true, false, false, false, false, false, false, false, false, false, false] rfl rfl (by kernel_rfl) (fun _ _ _ h => h) (Or.inl ⟨by rfl, ?_⟩) ?_ ?_
              rotate_left
              · intro w'
                go_simp
                with_reducible rfl
              rotate_left
              · simp only [Act.put, List.setIfInBounds_toArray, List.set_cons_zero, List.set_cons_succ, i64_w, i32_w]
                rfl
              refine pure_ (i := 10) (N := some 41) (v := ?_) (a' := ?_) #[true, true, true, true, true, true, true, true, true, true, true, false, false, false, false, false, false, false, false, false] rfl rfl (by kernel_rfl) (fun _ _ _ h => h) (Or.inl ⟨by rfl, ?_⟩) ?_ ?_
              rotate_left
              · intro w'
                go_simp
                with_reducible rfl
              rotate_left
              · simp only [Act.put, List.setIfInBounds_toArray, List.set_cons_zero, List.set_cons_succ, i64_w, i32_w]
                rfl
              refine pure_ (i := 12) (N := some 43) (v := ?_) (a' := ?_) #[true, true, true, true, true, true, true, true, true, true, true, false, true, false, false, false, false, false, false, false] rfl rfl (by kernel_rfl) (fun _ _ _ h => h) (Or.inl ⟨by rfl, ?_⟩) ?_ ?_
              rotate_left
              · intro w'
                go_simp
                with_reducible rfl
              rotate_left
              · simp only [Act.put, List.setIfInBounds_toArray, List.set_cons_zero, List.set_cons_succ, i64_w, i32_w]
                rfl
              refine pure_ (i := 16) (N := some 47) (v := ?_) (a' := ?_) #[true, true, true, true, true, true, true, true, true, true, true, false, true, false, false, false, true, false, false, false] rfl rfl (by kernel_rfl) (fun _ _ _ h => h) (Or.inl ⟨by rfl, ?_⟩) ?_ ?_
              rotate_left
              · intro w'
                go_simp
                with_reducible rfl
              rotate_left
              · simp only [Act.put, List.setIfInBounds_toArray, List.set_cons_zero, List.set_cons_succ, i64_w, i32_w]
                rfl
              refine take_ (i := 11) (N := some 42) (v := ?_) (a' := ?_) #[true, true, true, true, true, true, true, true, true, true, true, true, true, false, false, false, true, false, false, false] rfl rfl (by kernel_rfl) (fun _ _ _ h => h) (Or.inl ⟨by rfl, ?_⟩) hHeld ?_ ?_
              rotate_left
              · rintro w' ⟨s0, s1, s2⟩
                go_simp
                with_reducible rfl
              rotate_left
              · simp only [Act.put, List.setIfInBounds_toArray, List.set_cons_zero, List.set_cons_succ, i64_w, i32_w]
                rfl
              refine pure_ (i := 13) (N := some 44) (v := ?_) (a' := ?_) #[true, true, true, true, true, true, true, true, true, true, true, true, true, true, false, false, true, false, false, false] rfl rfl (by kernel_rfl) (fun _ _ _ h => h) (Or.inl ⟨by rfl, ?_⟩) ?_ ?_
              rotate_left
              · intro w'
                go_simp
                with_reducible rfl
              rotate_left
              · simp only [Act.put, List.setIfInBounds_toArray, List.set_cons_zero, List.set_cons_succ, i64_w, i32_w]
                rfl
              refine pure_ (i := 14) (N := some 45) (v := ?_) (a' := ?_) #[true, true, true, true, true, true, true, true, true, true, true, true, true, true, true, false, true, false, false, false] rfl rfl (by kernel_rfl) (fun _ _ _ h => h) (Or.inl ⟨by rfl, ?_⟩) ?_ ?_
              rotate_left
              · intro w'
                go_simp
                with_reducible rfl
              rotate_left
              · simp only [Act.put, List.setIfInBounds_toArray, List.set_cons_zero, List.set_cons_succ, i64_w, i32_w]
                rfl
              refine take_ (i := 15) (N := some 46) (v := ?_) (a' := ?_) #[true, true, true, true, true, true, true, true, true, true, true, true, true, true, true, true, true, false, false, false] rfl rfl (by kernel_rfl) (fun _ _ _ h => h) (Or.inl ⟨by rfl, ?_⟩) hHeld ?_ ?_
              rotate_left
              · rintro w' ⟨s0, s1, s2⟩
                go_simp
                with_reducible rfl
              rotate_left
              · simp only [Act.put, List.setIfInBounds_toArray, List.set_cons_zero, List.set_cons_succ, i64_w, i32_w]
                rfl
              refine take_ (i := 17) (N := some 48) (v := ?_) (a' := ?_) #[true, true, true, true, true, true, true, true, true, true, true, true, true, true, true, true, true, true, false, false] rfl rfl (by kernel_rfl) (fun _ _ _ h => h) (Or.inl ⟨by rfl, ?_⟩) hHeld ?_ ?_
              rotate_left
              · rintro w' ⟨s0, s1, s2⟩
                go_simp
                with_reducible rfl
              rotate_left
              · simp only [Act.put, List.setIfInBounds_toArray, List.set_cons_zero, List.set_cons_succ, i64_w, i32_w]
                rfl
              refine pure_ (i := 18) (N := some 49) (v := ?_) (a' := ?_) #[true, true, true, true, true, true, true, true, true, true, true, true, true, true, true, true, true, true, true, false] rfl rfl (by kernel_rfl) (fun _ _ _ h => h) (Or.inl ⟨by rfl, ?_⟩) ?_ ?_
              rotate_left
              · intro w'
                go_simp
                with_reducible rfl
              rotate_left
              · simp only [Act.put, List.setIfInBounds_toArray, List.set_cons_zero, List.set_cons_succ, i64_w, i32_w]
                rfl
              refine pure_ (i := 19) (N := some 50) (v := ?_) (a' := ?_) #[true, true, true, true, true, true, true, true, true, true, true, true, true, true, true, true, true, true, true, true] rfl rfl (by kernel_rfl) (fun _ _ _ h => h) (Or.inl ⟨by rfl, ?_⟩) ?_ ?_
              rotate_left
              · intro w'
                go_simp
                with_reducible rfl
              rotate_left
              · simp only [Act.put, List.setIfInBounds_toArray, List.set_cons_zero, List.set_cons_succ, i64_w, i32_w]
                rfl
              refine done_ (by kernel_rfl) ?_
              go_wp2_with fail
              go_roundw
              case rel => exact ⟨k7 + 1, by omega, by go_num, HN7.out, HBn7.out⟩
              case measure => simp [intOf]; omega
            · have HN7 := Lib.hid (show ∀ p, P[k7]? = some p → ¬ p.1 < id from fun p hp => by
                have e := HP7.out
                rw [hp] at e
                cases e
                exact hkey)
              have HQ := Lib.hid z0
              clear z0
              generalize p7.1 = z at hkey HQ
              have t1 : decide (z < id) = false := decide_eq_false hkey
              clear hkey
              go_wp2_with fail
              refine start_ (n := 20) (S := fun w' => w'.cell? ⟨g, 0, none⟩ = some (.slice (some ⟨b7, 0, none⟩) P.length c2) ∧ w'.cell? ⟨b7, k7 * 2, none⟩ = some (.int .i64 z) ∧ w'.cell? ⟨w.heap.size, 0, none⟩ = some (.int .i64 id)) (ds := []) #[false, false, false, false, false, false, false, false, false, false, false, false, false, false, false, false, false, false, false, false] (by kernel_rfl) rfl rfl ⟨H7.out.cell0, HQ.out, cell_at HT7.out 0 rfl⟩ (fun hHeld => ?_)
              refine pure_ (i := 0) (N := some 31) (v := ?_) (a' := ?_) #[true, false, false, false, false, false, false, false, false, false, false, false, false, false, false, false, false, false, false, false] rfl rfl (by kernel_rfl) (fun _ _ _ h => h) (Or.inl ⟨by rfl, ?_⟩) ?_ ?_
              rotate_left
              · intro w'
                go_simp
                with_reducible rfl
              rotate_left
              · simp only [Act.put, List.setIfInBounds_toArray, List.set_cons_zero, List.set_cons_succ, i64_w, i32_w]
                rfl
              refine pure_ (i := 1) (N := some 32) (v := ?_) (a' := ?_) #[true, true, false, false, false, false, false, false, false, false, false, false, false, false, false, false, false, false, false, false] rfl rfl (by kernel_rfl) (fun _ _ _ h => h) (Or.inl ⟨by rfl, ?_⟩) ?_ ?_
              rotate_left
              · intro w'
                go_simp
                with_reducible rfl
              rotate_left
              · simp only [Act.put, List.setIfInBounds_toArray, List.set_cons_zero, List.set_cons_succ, i64_w, i32_w]
                rfl
              refine pure_ (i := 2) (N := some 33) (v := ?_) (a' := ?_) #[true, true, true, false, false, false, false, false, false, false, false, false, false, false, false, false, false, false, false, false] rfl rfl (by kernel_rfl) (fun _ _ _ h => h) (Or.inl ⟨by rfl, ?_⟩) ?_ ?_
              rotate_left
              · intro w'
                go_simp
                with_reducible rfl
              rotate_left
              · simp only [Act.put, List.setIfInBounds_toArray, List.set_cons_zero, List.set_cons_succ, i64_w, i32_w]
                rfl
              refine pure_ (i := 3) (N := some 34) (v := ?_) (a' := ?_) #[true, true, true, true, false, false, false, false, false, false, false, false, false, false, false, false, false, false, false, false] rfl rfl (by kernel_rfl) (fun _ _ _ h => h) (Or.inl ⟨by rfl, ?_⟩) ?_ ?_
              rotate_left
              · intro w'
                go_simp
                with_reducible rfl
              rotate_left
              · simp only [Act.put, List.setIfInBounds_toArray, List.set_cons_zero, List.set_cons_succ, i64_w, i32_w]
                rfl
              refine take_ (i := 4) (N := some 35) (v := ?_) (a' := ?_) #[true, true, true, true, true, false, false, false, false, false, false, false, false, false, false, false, false, false, false, false] rfl rfl (by kernel_rfl) (fun _ _ _ h => h) (Or.inl ⟨by rfl, ?_⟩) hHeld ?_ ?_
              rotate_left
              · rintro w' ⟨s0, s1, s2⟩
                go_simp
                with_reducible rfl
              rotate_left
              · simp only [Act.put, List.setIfInBounds_toArray, List.set_cons_zero, List.set_cons_succ, i64_w, i32_w]
                rfl
              refine pure_ (i := 5) (N := some 36) (v := ?_) (a' := ?_) #[true, true, true, true, true, true, false, false, false, false, false, false, false, false, false, false, false, false, false, false] rfl rfl (by kernel_rfl) (fun _ _ _ h => h) (Or.inl ⟨by rfl, ?_⟩) ?_ ?_
              rotate_left
              · intro w'
                go_simp
                with_reducible rfl
              rotate_left
              · simp only [Act.put, List.setIfInBounds_toArray, List.set_cons_zero, List.set_cons_succ, i64_w, i32_w]
                rfl
              refine pure_ (i := 6) (N := some 37) (v := ?_) (a' := ?_) #[true, true, true, true, true, true, true, false, false, false, false, false, false, false, false, false, false, false, false, false] rfl rfl (by kernel_rfl) (fun _ _ _ h => h) (Or.inl ⟨by rfl, ?_⟩) ?_ ?_
              rotate_left
              · intro w'
                go_simp
                with_reducible rfl
              rotate_left
              · simp only [Act.put, List.setIfInBounds_toArray, List.set_cons_zero, List.set_cons_succ, i64_w, i32_w]
                rfl
              refine pure_ (i := 7) (N := some 38) (v := ?_) (a' := ?_) #[true, true, true, true, true, true, true, true, false, false, false, false, false, false, false, false, false, false, false, false] rfl rfl (by kernel_rfl) (fun _ _ _ h => h) (Or.inl ⟨by rfl, ?_⟩) ?_ ?_
              rotate_left
              · intro w'
                go_simp
                with_reducible rfl
              rotate_left
              · simp only [Act.put, List.setIfInBounds_toArray, List.set_cons_zero, List.set_cons_succ, i64_w, i32_w]
                rfl
              refine pure_ (i := 8) (N := some 39) (v := ?_) (a' := ?_) #[true, true, true, true, true, true, true, true, true, false, false, false, false, false, false, false, false, false, false, false] rfl rfl (by kernel_rfl) (fun _ _ _ h => h) (Or.inl ⟨by rfl, ?_⟩) ?_ ?_
              rotate_left
              · intro w'
                go_simp
                with_reducible rfl
              rotate_left
              · simp only [Act.put, List.setIfInBounds_toArray, List.set_cons_zero, List.set_cons_succ, i64_w, i32_w]
                rfl
              refine pure_ (i := 9) (N := some 40) (v := ?_) (a' := ?_) #[true, true, true, true, true, true, true, true, true, true, false, false, false, false, false, false, false, false, false, false] rfl rfl (by kernel_rfl) (fun _ _ _ h => h) (Or.inl ⟨by rfl, ?_⟩) ?_ ?_
              rotate_left
              · intro w'
                go_simp
                with_reducible rfl
              rotate_left
              · simp only [Act.put, List.setIfInBounds_toArray, List.set_cons_zero, List.set_cons_succ, i64_w, i32_w]
                rfl
              refine pure_ (i := 10) (N := some 41) (v := ?_) (a' := ?_) #[true, true, true, true, true, true, true, true, true, true, true, false, false, false, false, false, false, false, false, false] rfl rfl (by kernel_rfl) (fun _ _ _ h => h) (Or.inl ⟨by rfl, ?_⟩) ?_ ?_
              rotate_left
              · intro w'
                go_simp
                with_reducible rfl
              rotate_left
              · simp only [Act.put, List.setIfInBounds_toArray, List.set_cons_zero, List.set_cons_succ, i64_w, i32_w]
                rfl
              refine pure_ (i := 12) (N := some 43) (v := ?_) (a' := ?_) #[true, true, true, true, true, true, true, true, true, true, true, false, true, false, false, false, false, false, false, false] rfl rfl (by kernel_rfl) (fun _ _ _ h => h) (Or.inl ⟨by rfl, ?_⟩) ?_ ?_
              rotate_left
              · intro w'
                go_simp
                with_reducible rfl
              rotate_left
              · simp only [Act.put, List.setIfInBounds_toArray, List.set_cons_zero, List.set_cons_succ, i64_w, i32_w]
                rfl
              refine pure_ (i := 16) (N := some 47) (v := ?_) (a' := ?_) #[true, true, true, true, true, true, true, true, true, true, true, false, true, false, false, false, true, false, false, false] rfl rfl (by kernel_rfl) (fun _ _ _ h => h) (Or.inl ⟨by rfl, ?_⟩) ?_ ?_
              rotate_left
              · intro w'
                go_simp
                with_reducible rfl
              rotate_left
              · simp only [Act.put, List.setIfInBounds_toArray, List.set_cons_zero, List.set_cons_succ, i64_w, i32_w]
                rfl
              refine take_ (i := 11) (N := some 42) (v := ?_) (a' := ?_) #[true, true, true, true, true, true, true, true, true, true, true, true, true, false, false, false, true, false, false, false] rfl rfl (by kernel_rfl) (fun _ _ _ h => h) (Or.inl ⟨by rfl, ?_⟩) hHeld ?_ ?_
              rotate_left
              · rintro w' ⟨s0, s1, s2⟩
                go_simp
                with_reducible rfl
              rotate_left
              · simp only [Act.put, List.setIfInBounds_toArray, List.set_cons_zero, List.set_cons_succ, i64_w, i32_w]
                rfl
              refine pure_ (i := 13) (N := some 44) (v := ?_) (a' := ?_) #[true, true, true, true, true, true, true, true, true, true, true, true, true, true, false, false, true, false, false, false] rfl rfl (by kernel_rfl) (fun _ _ _ h => h) (Or.inl ⟨by rfl, ?_⟩) ?_ ?_
              rotate_left
              · intro w'
                go_simp
                with_reducible rfl
              rotate_left
              · simp only [Act.put, List.setIfInBounds_toArray, List.set_cons_zero, List.set_cons_succ, i64_w, i32_w]
                rfl
              refine pure_ (i := 14) (N := some 45) (v := ?_) (a' := ?_) #[true, true, true, true, true, true, true, true, true, true, true, true, true, true, true, false, true, false, false, false] rfl rfl (by kernel_rfl) (fun _ _ _ h => h) (Or.inl ⟨by rfl, ?_⟩) ?_ ?_
              rotate_left
              · intro w'
                go_simp
                with_reducible rfl
              rotate_left
              · simp only [Act.put, List.setIfInBounds_toArray, List.set_cons_zero, List.set_cons_succ, i64_w, i32_w]
                rfl
              refine take_ (i := 15) (N := some 46) (v := ?_) (a' := ?_) #[true, true, true, true, true, true, true, true, true, true, true, true, true, true, true, true, true, false, false, false] rfl rfl (by kernel_rfl) (fun _ _ _ h => h) (Or.inl ⟨by rfl, ?_⟩) hHeld ?_ ?_
              rotate_left
              · rintro w' ⟨s0, s1, s2⟩
                go_simp
                with_reducible rfl
              rotate_left
              · simp only [Act.put, List.setIfInBounds_toArray, List.set_cons_zero, List.set_cons_succ, i64_w, i32_w]
                rfl
              refine take_ (i := 17) (N := some 48) (v := ?_) (a' := ?_) #[true, true, true, true, true, true, true, true, true, true, true, true, true, true, true, true, true, true, false, false] rfl rfl (by kernel_rfl) (fun _ _ _ h => h) (Or.inl ⟨by rfl, ?_⟩) hHeld ?_ ?_
              rotate_left
              · rintro w' ⟨s0, s1, s2⟩
                go_simp
                with_reducible rfl
              rotate_left
              · simp only [Act.put, List.setIfInBounds_toArray, List.set_cons_zero, List.set_cons_succ, i64_w, i32_w]
                rfl
              refine pure_ (i := 18) (N := some 49) (v := ?_) (a' := ?_) #[true, true, true, true, true, true, true, true, true, true, true, true, true, true, true, true, true, true, true, false] rfl rfl (by kernel_rfl) (fun _ _ _ h => h) (Or.inl ⟨by rfl, ?_⟩) ?_ ?_
              rotate_left
              · intro w'
                go_simp
                with_reducible rfl
              rotate_left
              · simp only [Act.put, List.setIfInBounds_toArray, List.set_cons_zero, List.set_cons_succ, i64_w, i32_w]
                rfl
              refine pure_ (i := 19) (N := some 50) (v := ?_) (a' := ?_) #[true, true, true, true, true, true, true, true, true, true, true, true, true, true, true, true, true, true, true, true] rfl rfl (by kernel_rfl) (fun _ _ _ h => h) (Or.inl ⟨by rfl, ?_⟩) ?_ ?_
              rotate_left
              · intro w'
                go_simp
                with_reducible rfl
              rotate_left
              · simp only [Act.put, List.setIfInBounds_toArray, List.set_cons_zero, List.set_cons_succ, i64_w, i32_w]
                rfl
              refine done_ (by kernel_rfl) ?_
              go_wp2_with fail
              go_meet
              exact ⟨k7, by omega, rfl, HA7.out, HN7.out, HBn7.out⟩
          · have HN7 := Lib.hid (show ∀ p, P[k7]? = some p → ¬ p.1 < id from fun p hp => by have := (List.getElem?_eq_some_iff.1 hp).1; omega)
            go_wp2_with fail
            refine start_ (n := 20) (S := fun w' => w'.cell? ⟨g, 0, none⟩ = some (.slice A2 P.length c2)) (ds := []) #[false, false, false, false, false, false, false, false, false, false, false, false, false, false, false, false, false, false, false, false] (by kernel_rfl) rfl rfl (H7.out.cell0) (fun hHeld => ?_)
            refine pure_ (i := 0) (N := some 31) (v := ?_) (a' := ?_) #[true, false, false, false, false, false, false, false, false, false, false, false, false, false, false, false, false, false, false, false] rfl rfl (by kernel_rfl) (fun _ _ _ h => h) (Or.inl ⟨by rfl, ?_⟩) ?_ ?_
            rotate_left
            · intro w'
              go_simp
              with_reducible rfl
            rotate_left
            · simp only [Act.put, List.setIfInBounds_toArray, List.set_cons_zero, List.set_cons_succ, i64_w, i32_w]
              rfl
            refine pure_ (i := 1) (N := some 32) (v := ?_) (a' := ?_) #[true, true, false, false, false, false, false, false, false, false, false, false, false, false, false, false, false, false, false, false] rfl rfl (by kernel_rfl) (fun _ _ _ h => h) (Or.inl ⟨by rfl, ?_⟩) ?_ ?_
            rotate_left
            · intro w'
              go_simp
              with_reducible rfl
            rotate_left
            · simp only [Act.put, List.setIfInBounds_toArray, List.set_cons_zero, List.set_cons_succ, i64_w, i32_w]
              rfl
            refine pure_ (i := 2) (N := some 33) (v := ?_) (a' := ?_) #[true, true, true, false, false, false, false, false, false, false, false, false, false, false, false, false, false, false, false, false] rfl rfl (by kernel_rfl) (fun _ _ _ h => h) (Or.inl ⟨by rfl, ?_⟩) ?_ ?_
            rotate_left
            · intro w'
              go_simp
              with_reducible rfl
            rotate_left
            · simp only [Act.put, List.setIfInBounds_toArray, List.set_cons_zero, List.set_cons_succ, i64_w, i32_w]
              rfl
            refine pure_ (i := 3) (N := some 34) (v := ?_) (a' := ?_) #[true, true, true, true, false, false, false, false, false, false, false, false, false, false, false, false, false, false, false, false] rfl rfl (by kernel_rfl) (fun _ _ _ h => h) (Or.inl ⟨by rfl, ?_⟩) ?_ ?_
            rotate_left
            · intro w'
              go_simp
              with_reducible rfl
            rotate_left
            · simp only [Act.put, List.setIfInBounds_toArray, List.set_cons_zero, List.set_cons_succ, i64_w, i32_w]
              rfl
            refine take_ (i := 4) (N := some 35) (v := ?_) (a' := ?_) #[true, true, true, true, true, false, false, false, false, false, false, false, false, false, false, false, false, false, false, false] rfl rfl (by kernel_rfl) (fun _ _ _ h => h) (Or.inl ⟨by rfl, ?_⟩) hHeld ?_ ?_
            rotate_left
            · intro w' s0
              go_simp
              with_reducible rfl
            rotate_left
            · simp only [Act.put, List.setIfInBounds_toArray, List.set_cons_zero, List.set_cons_succ, i64_w, i32_w]
              rfl
            refine pure_ (i := 5) (N := some 36) (v := ?_) (a' := ?_) #[true, true, true, true, true, true, false, false, false, false, false, false, false, false, false, false, false, false, false, false] rfl rfl (by kernel_rfl) (fun _ _ _ h => h) (Or.inl ⟨by rfl, ?_⟩) ?_ ?_
            rotate_left
            · intro w'
              go_simp
              with_reducible rfl
            rotate_left
            · simp only [Act.put, List.setIfInBounds_toArray, List.set_cons_zero, List.set_cons_succ, i64_w, i32_w]
              rfl
            refine pure_ (i := 6) (N := some 37) (v := ?_) (a' := ?_) #[true, true, true, true, true, true, true, false, false, false, false, false, false, false, false, false, false, false, false, false] rfl rfl (by kernel_rfl) (fun _ _ _ h => h) (Or.inl ⟨by rfl, ?_⟩) ?_ ?_
            rotate_left
            · intro w'
              go_simp
              with_reducible rfl
            rotate_left
            · simp only [Act.put, List.setIfInBounds_toArray, List.set_cons_zero, List.set_cons_succ, i64_w, i32_w]
              rfl
            refine pure_ (i := 7) (N := some 38) (v := ?_) (a' := ?_) #[true, true, true, true, true, true, true, true, false, false, false, false, false, false, false, false, false, false, false, false] rfl rfl (by kernel_rfl) (fun _ _ _ h => h) (Or.inl ⟨by rfl, ?_⟩) ?_ ?_
            rotate_left
            · intro w'
              go_simp
              with_reducible rfl
            rotate_left
            · simp only [Act.put, List.setIfInBounds_toArray, List.set_cons_zero, List.set_cons_succ, i64_w, i32_w]
              rfl
            refine pure_ (i := 8) (N := some 39) (v := undef) (a' := ?_) #[true, true, true, true, true, true, true, true, true, false, false, false, false, false, false, false, false, false, false, false] rfl rfl (by kernel_rfl) (fun _ _ _ h => h) (Or.inr ⟨by rfl, rfl⟩) ?_ ?_
            rotate_left
            · simp only [Act.put, List.setIfInBounds_toArray, List.set_cons_zero, List.set_cons_succ, i64_w, i32_w]
              rfl
            refine pure_ (i := 9) (N := some 40) (v := undef) (a' := ?_) #[true, true, true, true, true, true, true, true, true, true, false, false, false, false, false, false, false, false, false, false] rfl rfl (by kernel_rfl) (fun _ _ _ h => h) (Or.inr ⟨by rfl, rfl⟩) ?_ ?_
            rotate_left
            · simp only [Act.put, List.setIfInBounds_toArray, List.set_cons_zero, List.set_cons_succ, i64_w, i32_w]
              rfl
            refine pure_ (i := 10) (N := some 41) (v := undef) (a' := ?_) #[true, true, true, true, true, true, true, true, true, true, true, false, false, false, false, false, false, false, false, false] rfl rfl (by kernel_rfl) (fun _ _ _ h => h) (Or.inr ⟨by rfl, rfl⟩) ?_ ?_
            rotate_left
            · simp only [Act.put, List.setIfInBounds_toArray, List.set_cons_zero, List.set_cons_succ, i64_w, i32_w]
              rfl
            refine pure_ (i := 11) (N := some 42) (v := undef) (a' := ?_) #[true, true, true, true, true, true, true, true, true, true, true, true, false, false, false, false, false, false, false, false] rfl rfl (by kernel_rfl) (fun _ _ _ h => h) (Or.inr ⟨by rfl, rfl⟩) ?_ ?_
            rotate_left
            · simp only [Act.put, List.setIfInBounds_toArray, List.set_cons_zero, List.set_cons_succ, i64_w, i32_w]
              rfl
            refine pure_ (i := 12) (N := some 43) (v := undef) (a' := ?_) #[true, true, true, true, true, true, true, true, true, true, true, true, true, false, false, false, false, false, false, false] rfl rfl (by kernel_rfl) (fun _ _ _ h => h) (Or.inr ⟨by rfl, rfl⟩) ?_ ?_
            rotate_left
            · simp only [Act.put, List.setIfInBounds_toArray, List.set_cons_zero, List.set_cons_succ, i64_w, i32_w]
              rfl
            refine pure_ (i := 13) (N := some 44) (v := undef) (a' := ?_) #[true, true, true, true, true, true, true, true, true, true, true, true, true, true, false, false, false, false, false, false] rfl rfl (by kernel_rfl) (fun _ _ _ h => h) (Or.inr ⟨by rfl, rfl⟩) ?_ ?_
            rotate_left
            · simp only [Act.put, List.setIfInBounds_toArray, List.set_cons_zero, List.set_cons_succ, i64_w, i32_w]
              rfl
            refine pure_ (i := 14) (N := some 45) (v := undef) (a' := ?_) #[true, true, true, true, true, true, true, true, true, true, true, true, true, true, true, false, false, false, false, false] rfl rfl (by kernel_rfl) (fun _ _ _ h => h) (Or.inr ⟨by rfl, rfl⟩) ?_ ?_
            rotate_left
            · simp only [Act.put, List.setIfInBounds_toArray, List.set_cons_zero, List.set_cons_succ, i64_w, i32_w]
              rfl
            refine pure_ (i := 15) (N := some 46) (v := undef) (a' := ?_) #[true, true, true, true, true, true, true, true, true, true, true, true, true, true, true, true, false, false, false, false] rfl rfl (by kernel_rfl) (fun _ _ _ h => h) (Or.inr ⟨by rfl, rfl⟩) ?_ ?_
            rotate_left
            · simp only [Act.put, List.setIfInBounds_toArray, List.set_cons_zero, List.set_cons_succ, i64_w, i32_w]
              rfl
            refine pure_ (i := 16) (N := some 47) (v := undef) (a' := ?_) #[true, true, true, true, true, true, true, true, true, true, true, true, true, true, true, true, true, false, false, false] rfl rfl (by kernel_rfl) (fun _ _ _ h => h) (Or.inr ⟨by rfl, rfl⟩) ?_ ?_
            rotate_left
            · simp only [Act.put, List.setIfInBounds_toArray, List.set_cons_zero, List.set_cons_succ, i64_w, i32_w]
              rfl
            refine pure_ (i := 17) (N := some 48) (v := undef) (a' := ?_) #[true, true, true, true, true, true, true, true, true, true, true, true, true, true, true, true, true, true, false, false] rfl rfl (by kernel_rfl) (fun _ _ _ h => h) (Or.inr ⟨by rfl, rfl⟩) ?_ ?_
            rotate_left
            · simp only [Act.put, List.setIfInBounds_toArray, List.set_cons_zero, List.set_cons_succ, i64_w, i32_w]
              rfl
            refine pure_ (i := 18) (N := some 49) (v := undef) (a' := ?_) #[true, true, true, true, true, true, true, true, true, true, true, true, true, true, true, true, true, true, true, false] rfl rfl (by kernel_rfl) (fun _ _ _ h => h) (Or.inr ⟨by rfl, rfl⟩) ?_ ?_
            rotate_left
            · simp only [Act.put, List.setIfInBounds_toArray, List.set_cons_zero, List.set_cons_succ, i64_w, i32_w]
              rfl
            refine pure_ (i := 19) (N := some 50) (v := ?_) (a' := ?_) #[true, true, true, true, true, true, true, true, true, true, true, true, true, true, true, true, true, true, true, true] rfl rfl (by kernel_rfl) (fun _ _ _ h => h) (Or.inl ⟨by rfl, ?_⟩) ?_ ?_
            rotate_left
            · intro w'
              go_simp
              with_reducible rfl
            rotate_left
            · simp only [Act.put, List.setIfInBounds_toArray, List.set_cons_zero, List.set_cons_succ, i64_w, i32_w]
              rfl
            refine done_ (by kernel_rfl) ?_
            go_wp2_with fail
            go_meet
            exact ⟨k7, by omega, rfl, HA7.out, HN7.out, HBn7.out⟩
      case rest =>
        obtain ⟨k8, hk8, rfl, HA8, HN8, HB8⟩ := hcut
        have HX8 := Lib.hid (H5.out.below HB8.out)
        have HT8 := Lib.hid (kept_at HB8.out HTb.out)
        have HO8 := Lib.hid (own_own HOw.out HB8.out)
        have HBw8 := Lib.hid (HB5.out.trans (HB8.out.mono HB5.out.size))
        have HRw8 := Lib.hid (own_row HOw.out (by rw [HL.out]; omega))
        have HYS := Lib.hid HX8.out.len
        have hkc : k8 ≤ c2 := by omega
        go_wp2_with fail
        have HBn := Lib.hid (drewB wc)
        refine start_ (n := 22) (S := fun w' => w'.cell? ⟨g, 0, none⟩ = some (.slice A2 P.length c2) ∧ w'.cell? ⟨b, 0, none⟩ = some (.int .i64 id) ∧ w'.cell? ⟨b, 1, none⟩ = some (.slice (some ⟨a, 0, none⟩) xs.length k)) (ds := [21]) #[false, false, false, false, false, false, false, false, false, false, false, false, false, false, false, false, false, false, false, false, false, false] (by kernel_rfl) rfl rfl ⟨(HX8.out.below HBn.out).cell0, cell_at (kept_at HBn.out HT8.out) 0 rfl, cell_at (kept_at HBn.out HT8.out) 1 rfl⟩ (fun hHeld => ?_)
        refine pure_ (i := 0) (N := some 53) (v := ?_) (a' := ?_) #[true, false, false, false, false, false, false, false, false, false, false, false, false, false, false, false, false, false, false, false, false, false] rfl rfl (by kernel_rfl) (fun _ _ _ h => h) (Or.inl ⟨by rfl, ?_⟩) ?_ ?_
        rotate_left
        · intro w'
          go_simp
          with_reducible rfl
        rotate_left
        · simp only [Act.put, List.setIfInBounds_toArray, List.set_cons_zero, List.set_cons_succ, i64_w, i32_w]
          rfl
        refine pure_ (i := 2) (N := some 55) (v := ?_) (a' := ?_) #[true, false, true, false, false, false, false, false, false, false, false, false, false, false, false, false, false, false, false, false, false, false] rfl rfl (by kernel_rfl) (fun _ _ _ h => h) (Or.inl ⟨by rfl, ?_⟩) ?_ ?_
        rotate_left
        · intro w'
          go_simp
          with_reducible rfl
        rotate_left
        · simp only [Act.put, List.setIfInBounds_toArray, List.set_cons_zero, List.set_cons_succ, i64_w, i32_w]
          rfl
        refine pure_ (i := 3) (N := some 56) (v := ?_) (a' := ?_) #[true, false, true, true, false, false, false, false, false, false, false, false, false, false, false, false, false, false, false, false, false, false] rfl rfl (by kernel_rfl) (fun _ _ _ h => h) (Or.inl ⟨by rfl, ?_⟩) ?_ ?_
        rotate_left
        · intro w'
          go_simp
          with_reducible rfl
        rotate_left
        · simp only [Act.put, List.setIfInBounds_toArray, List.set_cons_zero, List.set_cons_succ, i64_w, i32_w]
          rfl
        refine pure_ (i := 4) (N := some 57) (v := ?_) (a' := ?_) #[true, false, true, true, true, false, false, false, false, false, false, false, false, false, false, false, false, false, false, false, false, false] rfl rfl (by kernel_rfl) (fun _ _ _ h => h) (Or.inl ⟨by rfl, ?_⟩) ?_ ?_
        rotate_left
        · intro w'
          go_simp
          with_reducible rfl
        rotate_left
        · simp only [Act.put, List.setIfInBounds_toArray, List.set_cons_zero, List.set_cons_succ, i64_w, i32_w]
          rfl
        refine pure_ (i := 6) (N := some 59) (v := ?_) (a' := ?_) #[true, false, true, true, true, false, true, false, false, false, false, false, false, false, false, false, false, false, false, false, false, false] rfl rfl (by kernel_rfl) (fun _ _ _ h => h) (Or.inl ⟨by rfl, ?_⟩) ?_ ?_
        rotate_left
        · intro w'
          go_simp
          with_reducible rfl
        rotate_left
        · simp only [Act.put, List.setIfInBounds_toArray, List.set_cons_zero, List.set_cons_succ, i64_w, i32_w]
          rfl
        refine pure_ (i := 12) (N := some 65) (v := ?_) (a' := ?_) #[true, false, true, true, true, false, true, false, false, false, false, false, true, false, false, false, false, false, false, false, false, false] rfl rfl (by kernel_rfl) (fun _ _ _ h => h) (Or.inl ⟨by rfl, ?_⟩) ?_ ?_
        rotate_left
        · intro w'
          go_simp
          with_reducible rfl
        rotate_left
        · simp only [Act.put, List.setIfInBounds_toArray, List.set_cons_zero, List.set_cons_succ, i64_w, i32_w]
          rfl
        refine pure_ (i := 13) (N := some 66) (v := ?_) (a' := ?_) #[true, false, true, true, true, false, true, false, false, false, false, false, true, true, false, false, false, false, false, false, false, false] rfl rfl (by kernel_rfl) (fun _ _ _ h => h) (Or.inl ⟨by rfl, ?_⟩) ?_ ?_
        rotate_left
        · intro w'
          go_simp
          with_reducible rfl
        rotate_left
        · simp only [Act.put, List.setIfInBounds_toArray, List.set_cons_zero, List.set_cons_succ, i64_w, i32_w]
          rfl
        refine pure_ (i := 14) (N := some 67) (v := ?_) (a' := ?_) #[true, false, true, true, true, false, true, false, false, false, false, false, true, true, true, false, false, false, false, false, false, false] rfl rfl (by kernel_rfl) (fun _ _ _ h => h) (Or.inl ⟨by rfl, ?_⟩) ?_ ?_
        rotate_left
        · intro w'
          go_simp
          with_reducible rfl
        rotate_left
        · simp only [Act.put, List.setIfInBounds_toArray, List.set_cons_zero, List.set_cons_succ, i64_w, i32_w]
          rfl
        refine pure_ (i := 16) (N := some 69) (v := ?_) (a' := ?_) #[true, false, true, true, true, false, true, false, false, false, false, false, true, true, true, false, true, false, false, false, false, false] rfl rfl (by kernel_rfl) (fun _ _ _ h => h) (Or.inl ⟨by rfl, ?_⟩) ?_ ?_
        rotate_left
        · intro w'
          go_simp
          with_reducible rfl
        rotate_left
        · simp only [Act.put, List.setIfInBounds_toArray, List.set_cons_zero, List.set_cons_succ, i64_w, i32_w]
          rfl
        refine take_ (i := 5) (N := some 58) (v := ?_) (a' := ?_) #[true, false, true, true, true, true, true, false, false, false, false, false, true, true, true, false, true, false, false, false, false, false] rfl rfl (by kernel_rfl) (fun _ _ _ h => h) (Or.inl ⟨by rfl, ?_⟩) hHeld ?_ ?_
        rotate_left
        · rintro w' ⟨s0, s1, s2⟩
          go_simp
          with_reducible rfl
        rotate_left
        · simp only [Act.put, List.setIfInBounds_toArray, List.set_cons_zero, List.set_cons_succ, i64_w, i32_w]
          rfl
        refine pure_ (i := 7) (N := some 60) (v := ?_) (a' := ?_) #[true, false, true, true, true, true, true, true, false, false, false, false, true, true, true, false, true, false, false, false, false, false] rfl rfl (by kernel_rfl) (fun _ _ _ h => h) (Or.inl ⟨by rfl, ?_⟩) ?_ ?_
        rotate_left
        · intro w'
          go_simp
          with_reducible rfl
        rotate_left
        · simp only [Act.put, List.setIfInBounds_toArray, List.set_cons_zero, List.set_cons_succ, i64_w, i32_w]
          rfl
        refine take_ (i := 9) (N := some 62) (v := ?_) (a' := ?_) #[true, false, true, true, true, true, true, true, false, true, false, false, true, true, true, false, true, false, false, false, false, false] rfl rfl (by kernel_rfl) (fun _ _ _ h => h) (Or.inl ⟨by rfl, ?_⟩) hHeld ?_ ?_
        rotate_left
        · rintro w' ⟨s0, s1, s2⟩
          go_simp
          with_reducible rfl
        rotate_left
        · simp only [Act.put, List.setIfInBounds_toArray, List.set_cons_zero, List.set_cons_succ, i64_w, i32_w]
          rfl
        refine take_ (i := 15) (N := some 68) (v := ?_) (a' := ?_) #[true, false, true, true, true, true, true, true, false, true, false, false, true, true, true, true, true, false, false, false, false, false] rfl rfl (by kernel_rfl) (fun _ _ _ h => h) (Or.inl ⟨by rfl, ?_⟩) hHeld ?_ ?_
        rotate_left
        · rintro w' ⟨s0, s1, s2⟩
          go_simp
          with_reducible rfl
        rotate_left
        · simp only [Act.put, List.setIfInBounds_toArray, List.set_cons_zero, List.set_cons_succ, i64_w, i32_w]
          rfl
        refine pure_ (i := 17) (N := some 70) (v := ?_) (a' := ?_) #[true, false, true, true, true, true, true, true, false, true, false, false, true, true, true, true, true, true, false, false, false, false] rfl rfl (by kernel_rfl) (fun _ _ _ h => h) (Or.inl ⟨by rfl, ?_⟩) ?_ ?_
        rotate_left
        · intro w'
          go_simp
          with_reducible rfl
        rotate_left
        · simp only [Act.put, List.setIfInBounds_toArray, List.set_cons_zero, List.set_cons_succ, i64_w, i32_w]
          rfl
        refine join_ (σ := Value × Value × Nat) 5 #[true, true, true, true, true, true, true, true, true, true, true, false, true, true, true, true, true, true, false, false, false, false] (fun s => [(54, s.1), (61, s.2.1), (63, .slice (some ⟨s.2.2, 0, none⟩) 1 1)]) (fun s w' => kF.R 53 w' wc.heap.size (fun _ => True) s.2.1 (ys.take k8) ∧ w'.heap[s.2.2]? = some (.cells #[.int .i64 id, .slice (some ⟨a, 0, none⟩) xs.length k] 53 (0, 0)) ∧ Below wc.heap.size wc w') ?_ ?_
        rotate_left
        · intro hCont
          refine two_ (i := 1) (j := 10) (Ni := some 54) (Nj := some 63) #[true, true, true, true, true, true, true, true, false, true, false, false, true, true, true, true, true, true, false, false, false, false] #[true, false, true, true, true, true, true, true, false, true, true, false, true, true, true, true, true, true, false, false, false, false] rfl rfl rfl rfl (by kernel_rfl) (by decide) (by decide) (fun K hK => ?_) (fun K hK => ?_)
          · skip
            refine Kd.R_lit_step kF (w0 := wc) wc.heap.size 53 (by rfl) (N := 54) rfl (xs := ([] : List Ent)) (inner := []) (ok := fun _ => True) (okp := fun _ => False) ?_ (Reps.none _ _) (fun _ h_ => h_.elim) trivial HBn.out HBn.out.size (by simp) ?_
            · go_simp
            intro v1 w3 ho hb hg hn
            have HR1 := Lib.hid ho
            have HBn := Lib.hid hb
            clear ho hb hg hn
            refine hK.out _ _ ⟨(HX8.out.below HBn.out).cell0, cell_at (kept_at HBn.out HT8.out) 0 rfl, cell_at (kept_at HBn.out HT8.out) 1 rfl⟩ (fun hHeld => ?_)
            clear hK K
            refine norm_ (a' := ?_) ?_ ?_
            rotate_left
            · show Act.put _ (some 54) _ = _
              simp only [Act.put, List.setIfInBounds_toArray, List.set_cons_zero, List.set_cons_succ, i64_w, i32_w]
              rfl
            refine two_ (i := 8) (j := 10) (Ni := some 61) (Nj := some 63) #[true, true, true, true, true, true, true, true, true, true, false, false, true, true, true, true, true, true, false, false, false, false] #[true, true, true, true, true, true, true, true, false, true, true, false, true, true, true, true, true, true, false, false, false, false] rfl rfl rfl rfl (by kernel_rfl) (by decide) (by decide) (fun K hK => ?_) (fun K hK => ?_)
            · skip
              refine Kd.R_append_rows_step kF (w0 := wc) wc.heap.size (by rfl) (.tmp 54) (.tmp 60) 49 53 (.agg #[.int .i64 0, .slice none 0 0]) 32 rfl Try.underlying49 info53 rfl (show 0 < 2 by omega) (by omega) v1 [] (ys.take k8) A2 k8 c2 (fun _ => True) (fun _ => False) rfl rfl HR1.out ?_ kF_KM (fun _ h_ => h_.elim) (fun _ _ => trivial) HBn.out HBn.out.size ?_ ?_
              · have hC_ := (HX8.out.below HBn.out).slice
                exact take_C hC_ (by rw [HYS.out]; exact hk8)
              · simp; omega
              intro v2 w4 ho hb hg hn
              have HR2 := Lib.hid (show kF.R 53 w4 wc.heap.size (fun _ => True) v2 (ys.take k8) from ho)
              have HBn := Lib.hid hb
              clear ho hb hg hn
              refine hK.out _ _ ⟨(HX8.out.below HBn.out).cell0, cell_at (kept_at HBn.out HT8.out) 0 rfl, cell_at (kept_at HBn.out HT8.out) 1 rfl⟩ (fun hHeld => ?_)
              clear hK K
              refine norm_ (a' := ?_) ?_ ?_
              rotate_left
              · show Act.put _ (some 61) _ = _
                simp only [Act.put, List.setIfInBounds_toArray, List.set_cons_zero, List.set_cons_succ, i64_w, i32_w]
                rfl
              refine one_ (i := 10) (N := some 63) #[true, true, true, true, true, true, true, true, true, true, true, false, true, true, true, true, true, true, false, false, false, false] rfl rfl (by kernel_rfl) (by decide) (fun K hK => ?_)
              have HS1 := Lib.hid (heap_top w4 (.cells #[.int .i64 id, .slice (some ⟨a, 0, none⟩) xs.length k] 53 (0, 0)))
              have HR2 := Lib.hid (Kd.R_below HR2.out (allocB' w4 (.cells #[.int .i64 id, .slice (some ⟨a, 0, none⟩) xs.length k] 53 (0, 0))))
              have HBn := Lib.hid (HBn.out.trans ((allocB' w4 (.cells #[.int .i64 id, .slice (some ⟨a, 0, none⟩) xs.length k] 53 (0, 0))).mono HBn.out.size))
              refine value_ (w1 := ?_) (v := ?_) (by rfl) rfl ?_ ?_
              rotate_left 2
              · go_simp
                constructor
                · rfl
                · rfl
              refine hK.out _ _ ⟨(HX8.out.below HBn.out).cell0, cell_at (kept_at HBn.out HT8.out) 0 rfl, cell_at (kept_at HBn.out HT8.out) 1 rfl⟩ (fun hHeld => ?_)
              clear hK K
              refine norm_ (a' := ?_) ?_ ?_
              rotate_left
              · show Act.put _ (some 63) _ = _
                simp only [Act.put, List.setIfInBounds_toArray, List.set_cons_zero, List.set_cons_succ, i64_w, i32_w]
                rfl
              exact norm_ (by simp only [putAll, Act.put, List.setIfInBounds_toArray, List.set_cons_zero, List.set_cons_succ]) (hCont ⟨v1, v2, w4.heap.size⟩ _ ⟨HR2.out, HS1.out, HBn.out⟩)
            · skip
              have HS1 := Lib.hid (heap_top w3 (.cells #[.int .i64 id, .slice (some ⟨a, 0, none⟩) xs.length k] 53 (0, 0)))
              have HNE := Lib.hid (own_ne HR1.out (Nat.le_refl w3.heap.size))
              have HR1 := Lib.hid (Kd.R_below HR1.out (allocB' w3 (.cells #[.int .i64 id, .slice (some ⟨a, 0, none⟩) xs.length k] 53 (0, 0))))
              have HBn := Lib.hid (HBn.out.trans ((allocB' w3 (.cells #[.int .i64 id, .slice (some ⟨a, 0, none⟩) xs.length k] 53 (0, 0))).mono HBn.out.size))
              refine value_ (w1 := ?_) (v := ?_) (by rfl) rfl ?_ ?_
              rotate_left 2
              · go_simp
                constructor
                · rfl
                · rfl
              refine hK.out _ _ ⟨(HX8.out.below HBn.out).cell0, cell_at (kept_at HBn.out HT8.out) 0 rfl, cell_at (kept_at HBn.out HT8.out) 1 rfl⟩ (fun hHeld => ?_)
              clear hK K
              refine norm_ (a' := ?_) ?_ ?_
              rotate_left
              · show Act.put _ (some 63) _ = _
                simp only [Act.put, List.setIfInBounds_toArray, List.set_cons_zero, List.set_cons_succ, i64_w, i32_w]
                rfl
              refine one_ (i := 8) (N := some 61) #[true, true, true, true, true, true, true, true, true, true, true, false, true, true, true, true, true, true, false, false, false, false] rfl rfl (by kernel_rfl) (by decide) (fun K hK => ?_)
              refine Kd.R_append_rows_step kF (w0 := wc) wc.heap.size (by rfl) (.tmp 54) (.tmp 60) 49 53 (.agg #[.int .i64 0, .slice none 0 0]) 32 rfl Try.underlying49 info53 rfl (show 0 < 2 by omega) (by omega) v1 [] (ys.take k8) A2 k8 c2 (fun _ => True) (fun _ => False) rfl rfl HR1.out ?_ kF_KM (fun _ h_ => h_.elim) (fun _ _ => trivial) HBn.out HBn.out.size ?_ ?_
              · have hC_ := (HX8.out.below HBn.out).slice
                exact take_C hC_ (by rw [HYS.out]; exact hk8)
              · simp; omega
              intro v2 w4 ho hb hg hn
              have HR2 := Lib.hid (show kF.R 53 w4 wc.heap.size (fun _ => True) v2 (ys.take k8) from ho)
              have HS1 := Lib.hid ((hg.block _ (Array.getElem?_eq_some_iff.1 HS1.out).1 HNE.out).trans HS1.out)
              have HBn := Lib.hid hb
              clear ho hb hg hn
              refine hK.out _ _ ⟨(HX8.out.below HBn.out).cell0, cell_at (kept_at HBn.out HT8.out) 0 rfl, cell_at (kept_at HBn.out HT8.out) 1 rfl⟩ (fun hHeld => ?_)
              clear hK K
              refine norm_ (a' := ?_) ?_ ?_
              rotate_left
              · show Act.put _ (some 61) _ = _
                simp only [Act.put, List.setIfInBounds_toArray, List.set_cons_zero, List.set_cons_succ, i64_w, i32_w]
                rfl
              exact norm_ (by simp only [putAll, Act.put, List.setIfInBounds_toArray, List.set_cons_zero, List.set_cons_succ]) (hCont ⟨v1, v2, w3.heap.size⟩ _ ⟨HR2.out, HS1.out, HBn.out⟩)
          · skip
            have HS0 := Lib.hid (kept_at (drewB _) (heap_top wc (.cells #[.int .i64 id, .slice (some ⟨a, 0, none⟩) xs.length k] 53 (0, 0))))
            have HS1 := HS0
            have HBn := Lib.hid ((allocB' wc (.cells #[.int .i64 id, .slice (some ⟨a, 0, none⟩) xs.length k] 53 (0, 0))).trans ((drewB _).mono (allocB' wc (.cells #[.int .i64 id, .slice (some ⟨a, 0, none⟩) xs.length k] 53 (0, 0))).size))
            refine value_ (w1 := ?_) (v := ?_) (by rfl) rfl ?_ ?_
            rotate_left 2
            · go_simp
              constructor
              · rfl
              · rfl
            refine hK.out _ _ ⟨(HX8.out.below HBn.out).cell0, cell_at (kept_at HBn.out HT8.out) 0 rfl, cell_at (kept_at HBn.out HT8.out) 1 rfl⟩ (fun hHeld => ?_)
            clear hK K
            refine norm_ (a' := ?_) ?_ ?_
            rotate_left
            · show Act.put _ (some 63) _ = _
              simp only [Act.put, List.setIfInBounds_toArray, List.set_cons_zero, List.set_cons_succ, i64_w, i32_w]
              rfl
            refine one_ (i := 1) (N := some 54) #[true, true, true, true, true, true, true, true, false, true, true, false, true, true, true, true, true, true, false, false, false, false] rfl rfl (by kernel_rfl) (by decide) (fun K hK => ?_)
            refine Kd.R_lit_step kF (w0 := wc) wc.heap.size 53 (by rfl) (N := 54) rfl (xs := ([] : List Ent)) (inner := []) (ok := fun _ => True) (okp := fun _ => False) ?_ (Reps.none _ _) (fun _ h_ => h_.elim) trivial HBn.out HBn.out.size (by simp) ?_
            · go_simp
            intro v1 w3 ho hb hg hn
            have HR1 := Lib.hid ho
            have HS1 := Lib.hid ((hg.block _ (Array.getElem?_eq_some_iff.1 HS1.out).1 (by simp)).trans HS1.out)
            have HNE := Lib.hid (show some wc.heap.size ≠ v1.ownBlock from fun e_ => by obtain ⟨b_, hb1, hb2⟩ := hn; rw [hb1] at e_; injection e_ with e_; have := (Array.getElem?_eq_some_iff.1 HS0.out).1; omega)
            have HBn := Lib.hid hb
            clear ho hb hg hn
            refine hK.out _ _ ⟨(HX8.out.below HBn.out).cell0, cell_at (kept_at HBn.out HT8.out) 0 rfl, cell_at (kept_at HBn.out HT8.out) 1 rfl⟩ (fun hHeld => ?_)
            clear hK K
            refine norm_ (a' := ?_) ?_ ?_
            rotate_left
            · show Act.put _ (some 54) _ = _
              simp only [Act.put, List.setIfInBounds_toArray, List.set_cons_zero, List.set_cons_succ, i64_w, i32_w]
              rfl
            refine one_ (i := 8) (N := some 61) #[true, true, true, true, true, true, true, true, true, true, true, false, true, true, true, true, true, true, false, false, false, false] rfl rfl (by kernel_rfl) (by decide) (fun K hK => ?_)
            refine Kd.R_append_rows_step kF (w0 := wc) wc.heap.size (by rfl) (.tmp 54) (.tmp 60) 49 53 (.agg #[.int .i64 0, .slice none 0 0]) 32 rfl Try.underlying49 info53 rfl (show 0 < 2 by omega) (by omega) v1 [] (ys.take k8) A2 k8 c2 (fun _ => True) (fun _ => False) rfl rfl HR1.out ?_ kF_KM (fun _ h_ => h_.elim) (fun _ _ => trivial) HBn.out HBn.out.size ?_ ?_
            · have hC_ := (HX8.out.below HBn.out).slice
              exact take_C hC_ (by rw [HYS.out]; exact hk8)
            · simp; omega
            intro v2 w4 ho hb hg hn
            have HR2 := Lib.hid (show kF.R 53 w4 wc.heap.size (fun _ => True) v2 (ys.take k8) from ho)
            have HS1 := Lib.hid ((hg.block _ (Array.getElem?_eq_some_iff.1 HS1.out).1 HNE.out).trans HS1.out)
            have HBn := Lib.hid hb
            clear ho hb hg hn
            refine hK.out _ _ ⟨(HX8.out.below HBn.out).cell0, cell_at (kept_at HBn.out HT8.out) 0 rfl, cell_at (kept_at HBn.out HT8.out) 1 rfl⟩ (fun hHeld => ?_)
            clear hK K
            refine norm_ (a' := ?_) ?_ ?_
            rotate_left
            · show Act.put _ (some 61) _ = _
              simp only [Act.put, List.setIfInBounds_toArray, List.set_cons_zero, List.set_cons_succ, i64_w, i32_w]
              rfl
            exact norm_ (by simp only [putAll, Act.put, List.setIfInBounds_toArray, List.set_cons_zero, List.set_cons_succ]) (hCont ⟨v1, v2, wc.heap.size⟩ _ ⟨HR2.out, HS1.out, HBn.out⟩)
        rintro ⟨v1, v2, b1⟩ w5 ⟨hr, hs, hb⟩
        simp only at hr hs ⊢
        have HR2 := Lib.hid hr
        have HS1 := Lib.hid hs
        have HBn := Lib.hid hb
        clear hr hs hb
        have hHeld : w5.cell? ⟨g, 0, none⟩ = some (.slice A2 P.length c2) ∧ w5.cell? ⟨b, 0, none⟩ = some (.int .i64 id) ∧ w5.cell? ⟨b, 1, none⟩ = some (.slice (some ⟨a, 0, none⟩) xs.length k) := ⟨(HX8.out.below HBn.out).cell0, cell_at (kept_at HBn.out HT8.out) 0 rfl, cell_at (kept_at HBn.out HT8.out) 1 rfl⟩
        refine norm_ (a' := ?_) ?_ ?_
        rotate_left
        · simp only [putAll, Act.put, List.setIfInBounds_toArray, List.set_cons_zero, List.set_cons_succ]
          rfl
        refine one_ (i := 11) (N := some 64) #[true, true, true, true, true, true, true, true, true, true, true, true, true, true, true, true, true, true, false, false, false, false] rfl rfl (by kernel_rfl) (by decide) (fun K hK => ?_)
        refine Kd.R_append_rows_step kF (w0 := wc) wc.heap.size (by rfl) (.tmp 61) (.tmp 63) 49 53 (.agg #[.int .i64 0, .slice none 0 0]) 32 rfl Try.underlying49 info53 rfl (show 0 < 2 by omega) (by omega) v2 (ys.take k8) [(id, (some ⟨a, 0, none⟩, xs.length, k))] (some ⟨b1, 0, none⟩) 1 1 (fun _ => True) (fun _ => False) rfl rfl HR2.out ?_ kF_KM (fun _ h_ => h_.elim) (fun _ _ => trivial) HBn.out HBn.out.size ?_ ?_
        · exact kF_one HS1.out
        · have := HYS.out; simp; omega
        intro v3 w6 ho hb hg hn
        have HR3 := Lib.hid ho
        have HBn := Lib.hid hb
        clear ho hb hg hn
        refine hK.out _ _ ⟨(HX8.out.below HBn.out).cell0, cell_at (kept_at HBn.out HT8.out) 0 rfl, cell_at (kept_at HBn.out HT8.out) 1 rfl⟩ (fun hHeld => ?_)
        clear hK K
        refine norm_ (a' := ?_) ?_ ?_
        rotate_left
        · show Act.put _ (some 64) _ = _
          simp only [Act.put, List.setIfInBounds_toArray, List.set_cons_zero, List.set_cons_succ, i64_w, i32_w]
          rfl
        refine one_ (i := 18) (N := some 71) #[true, true, true, true, true, true, true, true, true, true, true, true, true, true, true, true, true, true, true, false, false, false] rfl rfl (by kernel_rfl) (by decide) (fun K hK => ?_)
        refine Kd.R_append_rows_step kF (w0 := wc) wc.heap.size (by rfl) (.tmp 64) (.tmp 70) 49 53 (.agg #[.int .i64 0, .slice none 0 0]) 32 rfl Try.underlying49 info53 rfl (show 0 < 2 by omega) (by omega) v3 (ys.take k8 ++ [(id, (some ⟨a, 0, none⟩, xs.length, k))]) (ys.drop k8) (if c2 = k8 then A2 else A2.map (·.add (k8 * 2))) (P.length - k8) (c2 - k8) (fun _ => True) (fun _ => False) rfl rfl HR3.out ?_ kF_KM (fun _ h_ => h_.elim) (fun _ _ => trivial) HBn.out HBn.out.size ?_ ?_
        · exact drop_C ((HX8.out.below HBn.out).slice) (by rw [HYS.out]; exact hk8)
        · have := HYS.out; simp; omega
        intro v4 w7 ho hb hg hn
        have HR4 := Lib.hid ho
        have HBn := Lib.hid hb
        obtain ⟨A4, c4, hv4⟩ := Kd.R_slice ho
        obtain ⟨N4, hN4⟩ : ∃ N4 : Nat, ((ys.take k8 ++ [((id, (some (⟨a, 0, none⟩ : Addr), xs.length, k)) : Ent)]) ++ ys.drop k8).length = N4 := ⟨_, rfl⟩
        rw [hN4] at hv4
        subst hv4
        have HN4 := Lib.hid hN4
        have q0 := (HX8.out.below hb).cell0
        have f0 := (HX8.out.below hb).frozen 0
        clear ho hb hg hn hN4
        refine hK.out _ _ ⟨(HX8.out.below HBn.out).cell0, cell_at (kept_at HBn.out HT8.out) 0 rfl, cell_at (kept_at HBn.out HT8.out) 1 rfl⟩ (fun hHeld => ?_)
        clear hK K
        refine norm_ (a' := ?_) ?_ ?_
        rotate_left
        · show Act.put _ (some 71) _ = _
          simp only [Act.put, List.setIfInBounds_toArray, List.set_cons_zero, List.set_cons_succ, i64_w, i32_w]
          rfl
        refine pure_ (i := 19) (N := some 72) (v := ?_) (a' := ?_) #[true, true, true, true, true, true, true, true, true, true, true, true, true, true, true, true, true, true, true, true, false, false] rfl rfl (by kernel_rfl) (fun _ _ _ h => h) (Or.inl ⟨by rfl, ?_⟩) ?_ ?_
        rotate_left
        · intro w'
          go_simp
          with_reducible rfl
        rotate_left
        · simp only [Act.put, List.setIfInBounds_toArray, List.set_cons_zero, List.set_cons_succ, i64_w, i32_w]
          rfl
        refine pure_ (i := 20) (N := some 73) (v := ?_) (a' := ?_) #[true, true, true, true, true, true, true, true, true, true, true, true, true, true, true, true, true, true, true, true, true, false] rfl rfl (by kernel_rfl) (fun _ _ _ h => h) (Or.inl ⟨by rfl, ?_⟩) ?_ ?_
        rotate_left
        · intro w'
          go_simp
          with_reducible rfl
        rotate_left
        · simp only [Act.put, List.setIfInBounds_toArray, List.set_cons_zero, List.set_cons_succ, i64_w, i32_w]
          rfl
        refine last_ (i := 21) (N := none) #[true, true, true, true, true, true, true, true, true, true, true, true, true, true, true, true, true, true, true, true, true, true] rfl rfl (by kernel_rfl) (by decide) (fun K hK => ?_)
        refine skip_ (w1 := ?_) (by rfl) rfl ?_ ?_
        rotate_left
        · go_simp
          rfl
        refine hK.out _ _ ?_
        clear hK K
        refine done_ (by kernel_rfl) ?_
        have HX9 := HX8.out.below HBn.out
        have HRow9 := own_row (own_own HO8.out HBn.out) (by rw [HL.out]; omega)
        have hwc := HBw8.out.size
        have HFit : Fit w7 (fun j_ => Rs j_ ∨ j_ = a) ((ys.take k8 ++ [(id, (some ⟨a, 0, none⟩, xs.length, k))]) ++ ys.drop k8) ((P.take k8 ++ [(id, xs)]) ++ P.drop k8) :=
          (((HX9.fit.take k8).mono (fun _ h_ => .inl h_)).append (Fit.one rfl (HRow9.1.mono (fun _ h_ => .inr h_)))).append ((HX9.fit.drop k8).mono (fun _ h_ => .inl h_))
        have hglt : g < wc.heap.size := HX8.out.lt
        have halt : a < wc.heap.size := (own_row HO8.out (by rw [HL.out]; omega)).2.2
        have hgw : g < w.heap.size := H.out.lt
        have hage : w.heap.size ≤ a := HRw8.out.2.1
        have HX10 := Lib.hid (HX9.lay (Kd.R_lower HR4.out (show g + 1 ≤ wc.heap.size by omega)) HFit.1 HFit.2 (fun k_ hk_ hR_ => by
          obtain ⟨inner, ho_⟩ := Kd.R_own HR4.out
          have h1_ := own_base ho_ k_ hk_
          rcases hR_ with h2_ | rfl
          · have := (HX8.out.hi k_ h2_).2; omega
          · omega) (fun k_ hk_ => by
          have := HBn.out.size
          rcases hk_ with h2_ | rfl
          · have := HX8.out.hi k_ h2_; omega
          · omega))
        have HE := Lib.hid (put_in (x := xs) HIX.out hk8 HA8.out (fun p_ hp_ => by have := HN8.out p_ hp_; omega))
        have HV := Lib.hid (show ∀ k_, (Value.slice A4 N4 c4).ownBlock = some k_ → w.heap.size ≤ k_ from fun k_ hk_ => by
          obtain ⟨inner, ho_⟩ := Kd.R_own HR4.out
          have h1_ := own_base ho_ k_ hk_
          omega)
        have HEf := Lib.hid (((Eff.of_below (HBw8.out.trans (HBn.out.mono hwc))).setCell (S := fun k_ => k_ = g ∨ (Value.slice A2 P.length c2).ownBlock = some k_) (p := ⟨g, 0, none⟩) (.inl (.inl rfl)) (.slice A4 N4 c4)))
        have HFl := Lib.hid (show N4 = ((P.take k8 ++ [(id, xs)]) ++ P.drop k8).length from HN4.out.symm.trans HFit.1)
        clear HX9 HRow9 HFit hglt halt hgw hwc
        have q0 := HX10.out.cell0
        have q1 := HX10.out.cell1
        have f1 := HX10.out.frozen 1
        clear HR4
        obtain ⟨w8, hw8⟩ : ∃ w8 : World, w7.setCell ⟨g, 0, none⟩ (.slice A4 N4 c4) = w8 := ⟨_, rfl⟩
        rw [hw8] at HX10 HEf q0 q1 f1 ⊢
        clear hw8
        go_wp2_with fail
        all_goals
          refine start_ (n := 14) (S := fun w' => w'.cell? ⟨g, 0, none⟩ = some (.slice A4 N4 c4) ∧ w'.cell? ⟨g, 1, none⟩ = some (.int .i64 m)) (ds := [13]) #[false, false, false, false, false, false, false, false, false, false, false, false, false, false] (by kernel_rfl) rfl rfl ⟨(HX10.out.below (drewB _)).cell0, (HX10.out.below (drewB _)).cell1⟩ (fun hHeld => ?_)
          refine pure_ (i := 0) (N := some 74) (v := ?_) (a' := ?_) #[true, false, false, false, false, false, false, false, false, false, false, false, false, false] rfl rfl (by kernel_rfl) (fun _ _ _ h => h) (Or.inl ⟨by rfl, ?_⟩) ?_ ?_
          rotate_left
          · intro w'
            go_simp
            with_reducible rfl
          rotate_left
          · simp only [Act.put, List.setIfInBounds_toArray, List.set_cons_zero, List.set_cons_succ, i64_w, i32_w]
            rfl
          refine pure_ (i := 1) (N := some 75) (v := ?_) (a' := ?_) #[true, true, false, false, false, false, false, false, false, false, false, false, false, false] rfl rfl (by kernel_rfl) (fun _ _ _ h => h) (Or.inl ⟨by rfl, ?_⟩) ?_ ?_
          rotate_left
          · intro w'
            go_simp
            with_reducible rfl
          rotate_left
          · simp only [Act.put, List.setIfInBounds_toArray, List.set_cons_zero, List.set_cons_succ, i64_w, i32_w]
            rfl
          refine pure_ (i := 2) (N := some 76) (v := ?_) (a' := ?_) #[true, true, true, false, false, false, false, false, false, false, false, false, false, false] rfl rfl (by kernel_rfl) (fun _ _ _ h => h) (Or.inl ⟨by rfl, ?_⟩) ?_ ?_
          rotate_left
          · intro w'
            go_simp
            with_reducible rfl
          rotate_left
          · simp only [Act.put, List.setIfInBounds_toArray, List.set_cons_zero, List.set_cons_succ, i64_w, i32_w]
            rfl
          refine pure_ (i := 3) (N := some 77) (v := ?_) (a' := ?_) #[true, true, true, true, false, false, false, false, false, false, false, false, false, false] rfl rfl (by kernel_rfl) (fun _ _ _ h => h) (Or.inl ⟨by rfl, ?_⟩) ?_ ?_
          rotate_left
          · intro w'
            go_simp
            with_reducible rfl
          rotate_left
          · simp only [Act.put, List.setIfInBounds_toArray, List.set_cons_zero, List.set_cons_succ, i64_w, i32_w]
            rfl
          refine pure_ (i := 5) (N := some 79) (v := ?_) (a' := ?_) #[true, true, true, true, false, true, false, false, false, false, false, false, false, false] rfl rfl (by kernel_rfl) (fun _ _ _ h => h) (Or.inl ⟨by rfl, ?_⟩) ?_ ?_
          rotate_left
          · intro w'
            go_simp
            with_reducible rfl
          rotate_left
          · simp only [Act.put, List.setIfInBounds_toArray, List.set_cons_zero, List.set_cons_succ, i64_w, i32_w]
            rfl
          refine pure_ (i := 6) (N := some 80) (v := ?_) (a' := ?_) #[true, true, true, true, false, true, true, false, false, false, false, false, false, false] rfl rfl (by kernel_rfl) (fun _ _ _ h => h) (Or.inl ⟨by rfl, ?_⟩) ?_ ?_
          rotate_left
          · intro w'
            go_simp
            with_reducible rfl
          rotate_left
          · simp only [Act.put, List.setIfInBounds_toArray, List.set_cons_zero, List.set_cons_succ, i64_w, i32_w]
            rfl
          refine pure_ (i := 7) (N := some 81) (v := ?_) (a' := ?_) #[true, true, true, true, false, true, true, true, false, false, false, false, false, false] rfl rfl (by kernel_rfl) (fun _ _ _ h => h) (Or.inl ⟨by rfl, ?_⟩) ?_ ?_
          rotate_left
          · intro w'
            go_simp
            with_reducible rfl
          rotate_left
          · simp only [Act.put, List.setIfInBounds_toArray, List.set_cons_zero, List.set_cons_succ, i64_w, i32_w]
            rfl
          refine take_ (i := 4) (N := some 78) (v := ?_) (a' := ?_) #[true, true, true, true, true, true, true, true, false, false, false, false, false, false] rfl rfl (by kernel_rfl) (fun _ _ _ h => h) (Or.inl ⟨by rfl, ?_⟩) hHeld ?_ ?_
          rotate_left
          · rintro w' ⟨s0, s1⟩
            go_simp
            with_reducible rfl
          rotate_left
          · simp only [Act.put, List.setIfInBounds_toArray, List.set_cons_zero, List.set_cons_succ, i64_w, i32_w]
            rfl
          refine take_ (i := 8) (N := some 82) (v := ?_) (a' := ?_) #[true, true, true, true, true, true, true, true, true, false, false, false, false, false] rfl rfl (by kernel_rfl) (fun _ _ _ h => h) (Or.inl ⟨by rfl, ?_⟩) hHeld ?_ ?_
          rotate_left
          · rintro w' ⟨s0, s1⟩
            go_simp
            with_reducible rfl
          rotate_left
          · simp only [Act.put, List.setIfInBounds_toArray, List.set_cons_zero, List.set_cons_succ, i64_w, i32_w]
            rfl
          refine pure_ (i := 9) (N := some 83) (v := ?_) (a' := ?_) #[true, true, true, true, true, true, true, true, true, true, false, false, false, false] rfl rfl (by kernel_rfl) (fun _ _ _ h => h) (Or.inl ⟨by rfl, ?_⟩) ?_ ?_
          rotate_left
          · intro w'
            go_simp
            with_reducible rfl
          rotate_left
          · simp only [Act.put, List.setIfInBounds_toArray, List.set_cons_zero, List.set_cons_succ, i64_w, i32_w]
            rfl
          refine pure_ (i := 10) (N := some 84) (v := ?_) (a' := ?_) #[true, true, true, true, true, true, true, true, true, true, true, false, false, false] rfl rfl (by kernel_rfl) (fun _ _ _ h => h) (Or.inl ⟨by rfl, ?_⟩) ?_ ?_
          rotate_left
          · intro w'
            go_simp
            with_reducible rfl
          rotate_left
          · simp only [Act.put, List.setIfInBounds_toArray, List.set_cons_zero, List.set_cons_succ, i64_w, i32_w]
            rfl
          refine pure_ (i := 11) (N := some 85) (v := ?_) (a' := ?_) #[true, true, true, true, true, true, true, true, true, true, true, true, false, false] rfl rfl (by kernel_rfl) (fun _ _ _ h => h) (Or.inl ⟨by rfl, ?_⟩) ?_ ?_
          rotate_left
          · intro w'
            go_simp
            with_reducible rfl
          rotate_left
          · simp only [Act.put, List.setIfInBounds_toArray, List.set_cons_zero, List.set_cons_succ, i64_w, i32_w]
            rfl
          refine pure_ (i := 12) (N := some 86) (v := ?_) (a' := ?_) #[true, true, true, true, true, true, true, true, true, true, true, true, true, false] rfl rfl (by kernel_rfl) (fun _ _ _ h => h) (Or.inl ⟨by rfl, ?_⟩) ?_ ?_
          rotate_left
          · intro w'
            go_simp
            with_reducible rfl
          rotate_left
          · simp only [Act.put, List.setIfInBounds_toArray, List.set_cons_zero, List.set_cons_succ, i64_w, i32_w]
            rfl
          refine last_ (i := 13) (N := none) #[true, true, true, true, true, true, true, true, true, true, true, true, true, true] rfl rfl (by kernel_rfl) (by decide) (fun K hK => ?_)
          refine skip_ (w1 := ?_) (by rfl) rfl ?_ ?_
          rotate_left
          · go_simp
            rfl
          refine hK.out _ _ ?_
          clear hK K
          refine done_ (by kernel_rfl) ?_
          go_wp2_with fail
          go_ret
          refine ⟨rfl, ⟨fun j_ => Rs j_ ∨ j_ = a, .slice A4 N4 c4, (ys.take k8 ++ [((id, (some (⟨a, 0, none⟩ : Addr), xs.length, k)) : Ent)]) ++ ys.drop k8, ?_, fun k_ hk_ => ?_, fun k_ hk_ => .inr (HV.out k_ hk_)⟩, (HEf.out.setCell (p := ⟨g, 1, none⟩) (.inl (.inl rfl)) _).then_below (drewB _)⟩
          · rw [HE.out, ← HFl.out]
            exact (HX10.out.most _).below (drewB _)
          · rcases hk_ with h1 | rfl
            · exact .inl h1
            · exact .inr hage
end
end Go.Proofs.Ytmjbmbhpfckagaa.A
