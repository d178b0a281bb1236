/- The document's Take, walked. -/
import Derived.Test.YtmjbmbhpfckagaaStashS
namespace Go.Proofs.Ytmjbmbhpfckagaa.A
open Go.RowKit Go.Maps Go.Sort Go.Shelf Go.Proofs.YtmjbmbhpfckagaaW.PrintWords Go.Proofs.YtmjbmbhpfckagaaW.PrintLast Go.Proofs.Ytmjbmbhpfckagaa.B
set_option linter.unusedVariables false
set_option linter.unusedSimpArgs false

theorem add0 (b k : Nat) : (⟨b, 0, none⟩ : Addr).add k = ⟨b, k, none⟩ := by
  unfold Addr.add
  simp
  exact fun h => h.symm
/-- What Take leaves, where there is a block. -/
def TookX (w : World) (g : Nat) (Rs : Nat → Prop) (v : Value) (P' : List (Int × List Int)) (m id : Int) (xs : List Int) (e : Ending) (w' : World) : Prop :=
  ∃ a o c v' ys', e = .returned (.tuple #[.agg #[.int .i64 id, .slice (some ⟨a, o, none⟩) xs.length c], .bool true]) ∧ XS w' g Rs v' ys' P' m ∧ (∀ k, v'.ownBlock = some k → v.ownBlock = some k ∨ w.heap.size ≤ k) ∧ xs.length ≤ c ∧ Kd.C (Kd.int .u8) w' (some ⟨a, o, none⟩) xs.length xs ∧ Rs a ∧ Eff w w' (fun k => k = g)
section
variable {w : World} {g : Nat} {Rs : Nat → Prop} {v : Value} {ys : List Ent} {P : List (Int × List Int)} {m : Int}
set_option maxHeartbeats 2000000 in
set_option maxRecDepth 100000 in
theorem XTake_none (h : XS w g Rs v ys P m) (id : Int) (hP : P.length ≤ 64) (hix : ix id P = none) :
    Calls Try.prog 23 #[.pointer (some ⟨g, 0, none⟩), .int .i64 id] w fun e w' => e = .returned (.tuple #[.agg #[.int .i64 0, .slice none 0 0], .bool false]) ∧ Below w.heap.size w w' := by
  have hB := allocB' w (.cells #[.int .i64 0, .slice none 0 0] 53)
  have HF := Lib.hid (posE (h.below hB) hP (show posF id P = -1 by unfold posF; rw [hix]))
  have HB := Lib.hid hB
  clear h hix hB
  go_enter Try.func23, Try.ntmps23
  go_wp2_with fail
  refine HF.out.mono ?_
  rintro e w' ⟨rfl, rfl⟩
  go_wp2_with fail
  exact bodyPost_ret (v := .tuple #[.agg #[.int .i64 0, .slice none 0 0], .bool false]) (by simp [results, Try.results23, go_sem]) rfl ⟨rfl, by first | exact HB.out | exact (HB.out.setCell (p := ⟨w.heap.size, 0, none⟩) (Nat.le_refl _) _).setCell (p := ⟨w.heap.size, 1, none⟩) (Nat.le_refl _) _⟩

set_option maxHeartbeats 8000000 in
set_option maxRecDepth 100000 in
theorem XTake_some (h : XS w g Rs v ys P m) (id : Int) (hP : P.length ≤ 64) (hu : Up P) (i : Nat) (hix : ix id P = some i) (xs : List Int) (hget : getA id P = some xs) :
    Calls Try.prog 23 #[.pointer (some ⟨g, 0, none⟩), .int .i64 id] w (TookX w g Rs v (delA id P) m id xs) := by
  have hB := allocB' w (.cells #[.int .i64 0, .slice none 0 0] 53)
  have HF := Lib.hid (posE (h.below hB) hP (show posF id P = (i : Int) by unfold posF; rw [hix]))
  obtain ⟨p, hp, hpe, hi⟩ := ix_get hix
  have hpx : p.2 = xs := by
    rw [ix_getA, hix] at hget
    simp only [Option.bind_some, hp, Option.map_some] at hget
    exact Option.some.inj hget
  have HE := Lib.hid (del_at hu hix)
  obtain ⟨bl, cl, e1⟩ := h.head (by omega)
  subst e1
  obtain ⟨y, p', hy, hp', hy1, hrow, z0, z1, _, _⟩ := h.at i hi
  rw [hp] at hp'
  cases hp'
  obtain ⟨ra, ro, rc, hv, r1, r2, r3, r4, r5⟩ := hrow
  rw [hpx] at hv r1 r5
  rw [hv] at z1
  rw [hpe] at z0
  obtain ⟨yi, yA, yn, yc⟩ := y
  simp only [entV] at hv
  injection hv with e2 e3 e4
  subst e2 e3 e4
  have H := Lib.hid h
  have HB := Lib.hid hB
  have HT := Lib.hid (heap_top w (.cells #[.int .i64 0, .slice none 0 0] 53 (0, 0)))
  have HR := Lib.hid (show xs.length ≤ yc ∧ Rs ra ∧ ra < w.heap.size ∧ Kd.C (Kd.int .u8) w (some ⟨ra, ro, none⟩) xs.length xs from ⟨r1, r3, r4, r5⟩)
  have hcl : P.length ≤ cl := by
    obtain ⟨A, c', e, hc, _⟩ := h.slice
    cases e
    exact hc
  have c0 := h.cell0
  have c0' := pw_cell_below hB c0
  have z0' := pw_cell_below hB z0
  have z1' := pw_cell_below hB z1
  clear h hB hix hget hp hpe hpx hy hy1 r1 r2 r3 r4 r5 hu
  go_enter Try.func23, Try.ntmps23
  go_wp2_with fail
  refine HF.out.mono ?_
  rintro e w' ⟨rfl, rfl⟩
  clear HF
  go_wp2_with fail
  obtain ⟨V, hV⟩ : ∃ V : World, (w.alloc (.cells #[.int .i64 0, .slice none 0 0] 53)).alloc (.cells #[.int .i64 id, .slice (some ⟨ra, ro, none⟩) xs.length yc] 53) = V := ⟨_, rfl⟩
  have HBV := Lib.hid (show Below w.heap.size w V from hV ▸ (HB.out.trans ((allocB' _ _).mono HB.out.size)))
  have HT4 := Lib.hid (show V.heap[w.heap.size]? = some (.cells #[.int .i64 0, .slice none 0 0] 53 (0, 0)) from hV ▸ kept_at (allocB' _ _) HT.out)
  have HT7 := Lib.hid (show V.heap[w.heap.size + 1]? = some (.cells #[.int .i64 id, .slice (some ⟨ra, ro, none⟩) xs.length yc] 53 (0, 0)) from hV ▸ (by
    have h := heap_top (w.alloc (.cells #[.int .i64 0, .slice none 0 0] 53)) (.cells #[.int .i64 id, .slice (some ⟨ra, ro, none⟩) xs.length yc] 53 (0, 0))
    rw [show (w.alloc (.cells #[.int .i64 0, .slice none 0 0] 53)).heap.size = w.heap.size + 1 by simp] at h
    exact h))
  rw [hV]
  clear c0' z0' z1' hV HT HB
  have HXV := Lib.hid (H.out.below HBV.out)
  have HYS := Lib.hid HXV.out.len
  have HBn := Lib.hid (drewB V)
  have hkc : i ≤ cl := by omega
  obtain ⟨i1, hi1⟩ : ∃ i1 : Nat, i + 1 = i1 := ⟨_, rfl⟩
  have hw0 : IntKind.i64.wrap ((i : Int) + 1) = (i1 : Int) := by rw [← hi1]; simp [IntKind.wrap, IntKind.signed, IntKind.bits]; omega
  have hw1 : wrap64 ((i : Int) + 1) = (i1 : Int) := (i64_w _).symm.trans hw0
  have hi2 : i1 ≤ P.length := by omega
  have hi3 : i1 ≤ cl := by omega
  rw [hi1] at HE
  have HI := Lib.hid hi1
  clear hi1
  refine start_ (n := 20) (S := fun w' => w'.cell? ⟨g, 0, none⟩ = some (.slice (some ⟨bl, 0, none⟩) P.length cl)) (ds := [19]) #[false, false, false, false, false, false, false, false, false, false, false, false, false, false, false, false, false, false, false, false] (by kernel_rfl) rfl rfl ((HXV.out.below HBn.out).cell0) (fun hHeld => ?_)
  refine pure_ (i := 0) (N := some 21) (v := ?_) (a' := ?_) #[true, false, false, false, false, false, false, false, false, false, false, false, false, false, false, false, false, false, false, false] rfl rfl (by kernel_rfl) (fun _ _ _ h => h) (Or.inl ⟨by rfl, ?_⟩) ?_ ?_
  rotate_left
  · intro w'
    go_simp
    with_reducible rfl
  rotate_left
  · simp only [Act.put, List.setIfInBounds_toArray, List.set_cons_zero, List.set_cons_succ, i64_w, i32_w]
    rfl
  refine pure_ (i := 2) (N := some 23) (v := ?_) (a' := ?_) #[true, false, true, false, false, false, false, false, false, false, false, false, false, false, false, false, false, false, false, false] rfl rfl (by kernel_rfl) (fun _ _ _ h => h) (Or.inl ⟨by rfl, ?_⟩) ?_ ?_
  rotate_left
  · intro w'
    go_simp
    with_reducible rfl
  rotate_left
  · simp only [Act.put, List.setIfInBounds_toArray, List.set_cons_zero, List.set_cons_succ, i64_w, i32_w]
    rfl
  refine pure_ (i := 3) (N := some 24) (v := ?_) (a' := ?_) #[true, false, true, true, false, false, false, false, false, false, false, false, false, false, false, false, false, false, false, false] rfl rfl (by kernel_rfl) (fun _ _ _ h => h) (Or.inl ⟨by rfl, ?_⟩) ?_ ?_
  rotate_left
  · intro w'
    go_simp
    with_reducible rfl
  rotate_left
  · simp only [Act.put, List.setIfInBounds_toArray, List.set_cons_zero, List.set_cons_succ, i64_w, i32_w]
    rfl
  refine pure_ (i := 4) (N := some 25) (v := ?_) (a' := ?_) #[true, false, true, true, true, false, false, false, false, false, false, false, false, false, false, false, false, false, false, false] rfl rfl (by kernel_rfl) (fun _ _ _ h => h) (Or.inl ⟨by rfl, ?_⟩) ?_ ?_
  rotate_left
  · intro w'
    go_simp
    with_reducible rfl
  rotate_left
  · simp only [Act.put, List.setIfInBounds_toArray, List.set_cons_zero, List.set_cons_succ, i64_w, i32_w]
    rfl
  refine pure_ (i := 6) (N := some 27) (v := ?_) (a' := ?_) #[true, false, true, true, true, false, true, false, false, false, false, false, false, false, false, false, false, false, false, false] rfl rfl (by kernel_rfl) (fun _ _ _ h => h) (Or.inl ⟨by rfl, ?_⟩) ?_ ?_
  rotate_left
  · intro w'
    go_simp
    with_reducible rfl
  rotate_left
  · simp only [Act.put, List.setIfInBounds_toArray, List.set_cons_zero, List.set_cons_succ, i64_w, i32_w]
    rfl
  refine pure_ (i := 9) (N := some 30) (v := ?_) (a' := ?_) #[true, false, true, true, true, false, true, false, false, true, false, false, false, false, false, false, false, false, false, false] rfl rfl (by kernel_rfl) (fun _ _ _ h => h) (Or.inl ⟨by rfl, ?_⟩) ?_ ?_
  rotate_left
  · intro w'
    go_simp
    with_reducible rfl
  rotate_left
  · simp only [Act.put, List.setIfInBounds_toArray, List.set_cons_zero, List.set_cons_succ, i64_w, i32_w]
    rfl
  refine pure_ (i := 10) (N := some 31) (v := ?_) (a' := ?_) #[true, false, true, true, true, false, true, false, false, true, true, false, false, false, false, false, false, false, false, false] rfl rfl (by kernel_rfl) (fun _ _ _ h => h) (Or.inl ⟨by rfl, ?_⟩) ?_ ?_
  rotate_left
  · intro w'
    go_simp
    with_reducible rfl
  rotate_left
  · simp only [Act.put, List.setIfInBounds_toArray, List.set_cons_zero, List.set_cons_succ, i64_w, i32_w]
    rfl
  refine pure_ (i := 11) (N := some 32) (v := ?_) (a' := ?_) #[true, false, true, true, true, false, true, false, false, true, true, true, false, false, false, false, false, false, false, false] rfl rfl (by kernel_rfl) (fun _ _ _ h => h) (Or.inl ⟨by rfl, ?_⟩) ?_ ?_
  rotate_left
  · intro w'
    go_simp
    with_reducible rfl
  rotate_left
  · simp only [Act.put, List.setIfInBounds_toArray, List.set_cons_zero, List.set_cons_succ, i64_w, i32_w]
    rfl
  refine pure_ (i := 13) (N := some 34) (v := ?_) (a' := ?_) #[true, false, true, true, true, false, true, false, false, true, true, true, false, true, false, false, false, false, false, false] rfl rfl (by kernel_rfl) (fun _ _ _ h => h) (Or.inl ⟨by rfl, ?_⟩) ?_ ?_
  rotate_left
  · intro w'
    go_simp
    with_reducible rfl
  rotate_left
  · simp only [Act.put, List.setIfInBounds_toArray, List.set_cons_zero, List.set_cons_succ, i64_w, i32_w]
    rfl
  refine pure_ (i := 14) (N := some 35) (v := ?_) (a' := ?_) #[true, false, true, true, true, false, true, false, false, true, true, true, false, true, true, false, false, false, false, false] rfl rfl (by kernel_rfl) (fun _ _ _ h => h) (Or.inl ⟨by rfl, ?_⟩) ?_ ?_
  rotate_left
  · intro w'
    go_simp
    with_reducible rfl
  rotate_left
  · simp only [Act.put, List.setIfInBounds_toArray, List.set_cons_zero, List.set_cons_succ, i64_w, i32_w]
    rfl
  refine take_ (i := 5) (N := some 26) (v := ?_) (a' := ?_) #[true, false, true, true, true, true, true, false, false, true, true, true, false, true, true, false, false, false, false, false] rfl rfl (by kernel_rfl) (fun _ _ _ h => h) (Or.inl ⟨by rfl, ?_⟩) hHeld ?_ ?_
  rotate_left
  · intro w' s0
    go_simp
    with_reducible rfl
  rotate_left
  · simp only [Act.put, List.setIfInBounds_toArray, List.set_cons_zero, List.set_cons_succ, i64_w, i32_w]
    rfl
  refine pure_ (i := 7) (N := some 28) (v := ?_) (a' := ?_) #[true, false, true, true, true, true, true, true, false, true, true, true, false, true, true, false, false, false, false, false] rfl rfl (by kernel_rfl) (fun _ _ _ h => h) (Or.inl ⟨by rfl, ?_⟩) ?_ ?_
  rotate_left
  · intro w'
    go_simp
    with_reducible rfl
  rotate_left
  · simp only [Act.put, List.setIfInBounds_toArray, List.set_cons_zero, List.set_cons_succ, i64_w, i32_w]
    rfl
  refine take_ (i := 12) (N := some 33) (v := ?_) (a' := ?_) #[true, false, true, true, true, true, true, true, false, true, true, true, true, true, true, false, false, false, false, false] rfl rfl (by kernel_rfl) (fun _ _ _ h => h) (Or.inl ⟨by rfl, ?_⟩) hHeld ?_ ?_
  rotate_left
  · intro w' s0
    go_simp
    with_reducible rfl
  rotate_left
  · simp only [Act.put, List.setIfInBounds_toArray, List.set_cons_zero, List.set_cons_succ, i64_w, i32_w]
    rfl
  refine pure_ (i := 15) (N := some 36) (v := ?_) (a' := ?_) #[true, false, true, true, true, true, true, true, false, true, true, true, true, true, true, true, false, false, false, false] rfl rfl (by kernel_rfl) (fun _ _ _ h => h) (Or.inl ⟨by rfl, ?_⟩) ?_ ?_
  rotate_left
  · intro w'
    go_simp
    with_reducible rfl
  rotate_left
  · simp only [Act.put, List.setIfInBounds_toArray, List.set_cons_zero, List.set_cons_succ, i64_w, i32_w]
    rfl
  refine one_ (i := 1) (N := some 22) #[true, true, true, true, true, true, true, true, false, true, true, true, true, true, true, true, false, false, false, false] rfl rfl (by kernel_rfl) (by decide) (fun K hK => ?_)
  refine Kd.R_lit_step kF (w0 := V) V.heap.size 53 (by rfl) (N := 22) rfl (xs := ([] : List Ent)) (inner := []) (ok := fun _ => True) (okp := fun _ => False) ?_ (Reps.none _ _) (fun _ h_ => h_.elim) trivial HBn.out HBn.out.size (by simp) ?_
  · go_simp
  intro v1 w3 ho hb hg hn
  have HR1 := Lib.hid ho
  have HBn := Lib.hid hb
  clear ho hb hg hn
  refine hK.out _ _ ((HXV.out.below HBn.out).cell0) (fun hHeld => ?_)
  clear hK K
  refine norm_ (a' := ?_) ?_ ?_
  rotate_left
  · show Act.put _ (some 22) _ = _
    simp only [Act.put, List.setIfInBounds_toArray, List.set_cons_zero, List.set_cons_succ, i64_w, i32_w]
    rfl
  refine one_ (i := 8) (N := some 29) #[true, true, true, true, true, true, true, true, true, true, true, true, true, true, true, true, false, false, false, false] rfl rfl (by kernel_rfl) (by decide) (fun K hK => ?_)
  refine Kd.R_append_rows_step kF (w0 := V) V.heap.size (by rfl) (.tmp 22) (.tmp 28) 49 53 (.agg #[.int .i64 0, .slice none 0 0]) 32 rfl Try.underlying49 info53 rfl (show 0 < 2 by omega) (by omega) v1 [] (ys.take i) (some ⟨bl, 0, none⟩) i cl (fun _ => True) (fun _ => False) rfl rfl HR1.out ?_ kF_KM (fun _ h_ => h_.elim) (fun _ _ => trivial) HBn.out HBn.out.size ?_ ?_
  · exact take_C ((HXV.out.below HBn.out).slice) (by rw [HYS.out]; omega)
  · simp; omega
  intro v2 w4 ho hb hg hn
  have HR2 := Lib.hid (show kF.R 53 w4 V.heap.size (fun _ => True) v2 (ys.take i) from ho)
  have HBn := Lib.hid hb
  clear ho hb hg hn
  refine hK.out _ _ ((HXV.out.below HBn.out).cell0) (fun hHeld => ?_)
  clear hK K
  refine norm_ (a' := ?_) ?_ ?_
  rotate_left
  · show Act.put _ (some 29) _ = _
    simp only [Act.put, List.setIfInBounds_toArray, List.set_cons_zero, List.set_cons_succ, i64_w, i32_w]
    rfl
  refine one_ (i := 16) (N := some 37) #[true, true, true, true, true, true, true, true, true, true, true, true, true, true, true, true, true, false, false, false] rfl rfl (by kernel_rfl) (by decide) (fun K hK => ?_)
  refine Kd.R_append_rows_step kF (w0 := V) V.heap.size (by rfl) (.tmp 29) (.tmp 36) 49 53 (.agg #[.int .i64 0, .slice none 0 0]) 32 rfl Try.underlying49 info53 rfl (show 0 < 2 by omega) (by omega) v2 (ys.take i) (ys.drop i1) (if cl = i1 then some (⟨bl, 0, none⟩ : Addr) else some ⟨bl, i1 * 2, none⟩) (P.length - i1) (cl - i1) (fun _ => True) (fun _ => False) rfl rfl HR2.out ?_ kF_KM (fun _ h_ => h_.elim) (fun _ _ => trivial) HBn.out HBn.out.size ?_ ?_
  · have hd_ := drop_C ((HXV.out.below HBn.out).slice) (k := i1) (by rw [HYS.out]; omega)
    simp only [Option.map_some, add0] at hd_
    exact hd_
  · have := HYS.out; simp; omega
  intro v4 w7 ho hb hg hn
  have HR4 := Lib.hid ho
  have HBn := Lib.hid hb
  obtain ⟨A4, c4, hv4⟩ := Kd.R_slice ho
  obtain ⟨N4, hN4⟩ : ∃ N4 : Nat, (ys.take i ++ ys.drop i1).length = N4 := ⟨_, rfl⟩
  rw [hN4] at hv4
  subst hv4
  have HN4 := Lib.hid hN4
  have q0 := (HXV.out.below hb).cell0
  have f0 := (HXV.out.below hb).frozen 0
  clear ho hb hg hn hN4
  refine hK.out _ _ ((HXV.out.below HBn.out).cell0) (fun hHeld => ?_)
  clear hK K
  refine norm_ (a' := ?_) ?_ ?_
  rotate_left
  · show Act.put _ (some 37) _ = _
    simp only [Act.put, List.setIfInBounds_toArray, List.set_cons_zero, List.set_cons_succ, i64_w, i32_w]
    rfl
  refine pure_ (i := 17) (N := some 38) (v := ?_) (a' := ?_) #[true, true, true, true, true, true, true, true, true, true, true, true, true, true, true, true, true, true, false, false] rfl rfl (by kernel_rfl) (fun _ _ _ h => h) (Or.inl ⟨by rfl, ?_⟩) ?_ ?_
  rotate_left
  · intro w'
    go_simp
    with_reducible rfl
  rotate_left
  · simp only [Act.put, List.setIfInBounds_toArray, List.set_cons_zero, List.set_cons_succ, i64_w, i32_w]
    rfl
  refine pure_ (i := 18) (N := some 39) (v := ?_) (a' := ?_) #[true, true, true, true, true, true, true, true, true, true, true, true, true, true, true, true, true, true, true, false] rfl rfl (by kernel_rfl) (fun _ _ _ h => h) (Or.inl ⟨by rfl, ?_⟩) ?_ ?_
  rotate_left
  · intro w'
    go_simp
    with_reducible rfl
  rotate_left
  · simp only [Act.put, List.setIfInBounds_toArray, List.set_cons_zero, List.set_cons_succ, i64_w, i32_w]
    rfl
  refine last_ (i := 19) (N := none) #[true, true, true, true, true, true, true, true, true, true, true, true, true, true, true, true, true, true, true, true] rfl rfl (by kernel_rfl) (by decide) (fun K hK => ?_)
  refine skip_ (w1 := ?_) (by rfl) rfl ?_ ?_
  rotate_left
  · go_simp
    rfl
  refine hK.out _ _ ?_
  clear hK K
  refine done_ (by kernel_rfl) ?_
  have HX9 := HXV.out.below HBn.out
  have HFit : Fit w7 Rs (ys.take i ++ ys.drop i1) (P.take i ++ P.drop i1) := (HX9.fit.take i).append (HX9.fit.drop i1)
  have hglt : g < V.heap.size := HXV.out.lt
  have hwv := HBV.out.size
  have HX10 := Lib.hid (HX9.lay (Kd.R_lower HR4.out (show g + 1 ≤ V.heap.size by omega)) HFit.1 HFit.2 (fun k_ hk_ hR_ => by
    obtain ⟨inner, ho_⟩ := Kd.R_own HR4.out
    have h1_ := own_base ho_ k_ hk_
    have := (HXV.out.hi k_ hR_).2
    omega) (fun k_ hk_ => by
    have := HBn.out.size
    have := HXV.out.hi k_ hk_
    omega))
  have HV := Lib.hid (show ∀ k_, (Value.slice A4 N4 c4).ownBlock = some k_ → w.heap.size ≤ k_ from fun k_ hk_ => by
    obtain ⟨inner, ho_⟩ := Kd.R_own HR4.out
    have h1_ := own_base ho_ k_ hk_
    omega)
  have HV2 := Lib.hid (show ∀ k_, (Value.slice A4 N4 c4).ownBlock = some k_ → V.heap.size ≤ k_ from fun k_ hk_ => by
    obtain ⟨inner, ho_⟩ := Kd.R_own HR4.out
    exact own_base ho_ k_ hk_)
  have hVw : w.heap.size < V.heap.size := (Array.getElem?_eq_some_iff.1 HT4.out).1
  have HEf := Lib.hid (((Eff.of_below (HBV.out.trans (HBn.out.mono hwv))).setCell (S := fun k_ => k_ = g) (p := ⟨g, 0, none⟩) (.inl rfl) (.slice A4 N4 c4)))
  have hgw : g < w.heap.size := H.out.lt
  have HT4b := Lib.hid ((Below.heap_setCell w7 ⟨g, 0, none⟩ (.slice A4 N4 c4) w.heap.size (show w.heap.size ≠ g by omega)).trans (kept_at HBn.out HT4.out))
  have HT7b := Lib.hid ((Below.heap_setCell w7 ⟨g, 0, none⟩ (.slice A4 N4 c4) (w.heap.size + 1) (show w.heap.size + 1 ≠ g by omega)).trans (kept_at HBn.out HT7.out))
  have HRr := Lib.hid (show Kd.C (Kd.int .u8) (w7.setCell ⟨g, 0, none⟩ (.slice A4 N4 c4)) (some ⟨ra, ro, none⟩) xs.length xs from by
    obtain ⟨h1, h2, h3, h4⟩ := HR.out
    have h5 := Kd.C_below h4 (HBV.out.trans (HBn.out.mono hwv))
    refine C_same h5 (Below.heap_setCell w7 ⟨g, 0, none⟩ _ ra ?_)
    have := (H.out.hi ra h2).1
    show ra ≠ g
    omega)
  clear HX9 HFit hglt
  obtain ⟨w8, hw8⟩ : ∃ w8 : World, w7.setCell ⟨g, 0, none⟩ (.slice A4 N4 c4) = w8 := ⟨_, rfl⟩
  rw [hw8] at HX10 HEf HT4b HT7b HRr ⊢
  clear hw8 q0 f0 HR4
  have u0 := cell_at HT7b.out 0 rfl
  have u1 := cell_at HT7b.out 1 rfl
  have v0 := cell_at HT4b.out 0 rfl
  have v1 := cell_at HT4b.out 1 rfl
  have g0 := frozen_at HT4b.out 0
  have g1 := frozen_at HT4b.out 1
  go_wp2_with fail
  all_goals
    refine bodyPost_ret (v := .tuple #[.agg #[.int .i64 id, .slice (some ⟨ra, ro, none⟩) xs.length yc], .bool true]) ?_ rfl ?_
    · simp [results, Try.results23, go_sem, v0, v1, g0, g1]
    have HS8 := HX10.out.step (w1 := (w8.setCell ⟨w.heap.size, 0, none⟩ (.int .i64 id)).setCell ⟨w.heap.size, 1, none⟩ (.slice (some ⟨ra, ro, none⟩) xs.length yc)) (by rw [two_size]; exact Nat.le_refl _) (two_other _ _ (by omega)) (fun k_ hk_ => two_other _ _ (by
      have h1 := (HX10.out.base k_ hk_).1
      have h2 := HV2.out k_ hk_
      omega)) (fun k_ hk_ _ => two_other _ _ (by have := (H.out.hi k_ hk_).2; omega))
    rw [← HE.out] at HS8
    refine ⟨ra, ro, yc, .slice A4 N4 c4, ys.take i ++ ys.drop i1, rfl, HS8, fun k_ hk_ => .inr (HV.out k_ hk_), HR.out.1, C_same HRr.out (two_other _ _ (by have := HR.out.2.2.1; omega)), HR.out.2.1, ((HEf.out.setCell (p := ⟨w.heap.size, 0, none⟩) (.inr (Nat.le_refl _)) _).setCell (p := ⟨w.heap.size, 1, none⟩) (.inr (Nat.le_refl _)) _)⟩
end
end Go.Proofs.Ytmjbmbhpfckagaa.A
