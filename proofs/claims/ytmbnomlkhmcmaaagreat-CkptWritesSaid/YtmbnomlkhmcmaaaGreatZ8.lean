/- Part of the proof of LawCkptWrites. -/
import Derived.Test.YtmbnomlkhmcmaaaGreatZ0
import Derived.Test.YtmbnomlkhmcmaaaGreatZ3
import Derived.Test.YtmbnomlkhmcmaaaGreatZ7
section
namespace Go.Proofs.YtmbnomlkhmcmaaaGreat.A
open Go.RowKit Go.Shelf Go.Proofs.YtmbnomlkhmcmaaaGreatW.PrintWords Go.Proofs.YtmbnomlkhmcmaaaGreatW.PrintLast Go.Proofs.YtmbnomlkhmcmaaaGreat.B Go.Proofs.YtmbnomlkhmcmaaaGreat.Z
set_option linter.unusedVariables false
set_option linter.unusedSimpArgs false
structure Lg where
 (s i d f t : Int)
abbrev Lg.v (g : Lg) : Value := .agg #[.int .i64 g.s, .int .i64 g.i, .int .i64 g.d, .int .i64 g.f, .int .i64 g.t]
abbrev Lg.obj (g : Lg) : Obj := .cells #[.int .i64 g.s, .int .i64 g.i, .int .i64 g.d, .int .i64 g.f, .int .i64 g.t] 43
def okLog (y : Ly) (g : Lg) : Bool := amB g.s 1099511627774 && (amB g.i (y.slots - 1) && (amB (wrap64 (g.d + 1)) y.c2 && plB y g.f g.t))
def logBytes (g : Lg) : List Int := bes 5 [g.s] ++ bes 1 [g.i, g.d, g.f] ++ bes 4 [g.t]
theorem okN_of {width : Nat} {n b : Int} (h : amB n b = true) (hb : b < 2 ^ (8 * width) - 1) : okN width n := by
 have := of_decide_eq_true h
 exact ⟨by omega, by omega⟩
theorem Sealed_len {w : World} {g : Nat} {Z : Nat → Prop} {xs : List Int} (L : Int) (h : WR w g Z xs) (h0 : (xs.length : Int) ≤ L) (h1 : L ≤ 1048576) :
  Calls Tryz.prog 70 #[.pointer (some ⟨g, 0, none⟩), .int .i64 L] w fun e w' => ∃ v, e = .returned (.tuple #[v, .int .i64 0]) ∧ Kd.R (Kd.int .u8) 5 w' w.heap.size (fun _ => True) v (fill xs L.toNat) ∧ Below w.heap.size w w' := by
 have h2 := Sealed_call g Z xs L.toNat w h (by omega) (by omega)
 rwa [Int.toNat_of_nonneg (by omega)] at h2
def LogPost (y : Ly) (g : Lg) (w : World) (e : Ending) (w' : World) : Prop :=
 ∃ v, e = .returned (.tuple #[v, .int .i64 (if okLog y g = true then 0 else 1)]) ∧ Kd.R (Kd.int .u8) 5 w' w.heap.size (fun _ => True) v (if okLog y g = true then fill (logBytes g) (y.whole 12).toNat else []) ∧ Below w.heap.size w w'
abbrev sEnD0 (gg : Nat) (g : Lg) (gl : Nat) (y : Ly) : World → Prop := fun w' => w'.cell? ⟨gg, 0, none⟩ = some (.int .i64 g.s) ∧ w'.cell? ⟨gg, 1, none⟩ = some (.int .i64 g.i) ∧ w'.cell? ⟨gg, 2, none⟩ = some (.int .i64 g.d) ∧ w'.cell? ⟨gg, 3, none⟩ = some (.int .i64 g.f) ∧ w'.cell? ⟨gg, 4, none⟩ = some (.int .i64 g.t) ∧ w'.cell? ⟨gl, 0, none⟩ = some (.int .i64 y.c0) ∧ w'.cell? ⟨gl, 1, none⟩ = some (.int .i64 y.c1) ∧ w'.cell? ⟨gl, 2, none⟩ = some (.int .i64 y.c2) ∧ w'.cell? ⟨gl, 3, none⟩ = some (.int .i64 y.c3) ∧ w'.cell? ⟨gl, 4, none⟩ = some (.int .i64 y.c4) ∧ w'.cell? ⟨gl, 5, none⟩ = some (.int .i64 y.c5) ∧ w'.cell? ⟨gl, 6, none⟩ = some (.int .i64 y.c6) ∧ w'.cell? ⟨gl, 7, none⟩ = some (.int .i64 y.c7) ∧ w'.cell? ⟨gl, 8, none⟩ = some (.int .i64 y.c8) ∧ w'.cell? ⟨gl, 9, none⟩ = some (.int .i64 y.c9) ∧ w'.cell? ⟨gl, 10, none⟩ = some (.slice y.A y.l.length y.cap)
set_option maxHeartbeats 8000000 in
set_option maxRecDepth 100000 in
theorem EncodeLog_call {y : Ly} {w : World} (hy : y.R w) (ok : y.Ok) (g : Lg) (hs : -9223372036854775808 ≤ g.d ∧ g.d ≤ 9223372036854775807) :
  Calls Tryz.prog 19 #[y.v, g.v] w (LogPost y g w) := by
 have HY := Lib.hid hy
 have HK := Lib.hid ok
 have HD := Lib.hid (show wrap64 (g.d + 1) = g.d + 1 ∨ wrap64 (g.d + 1) < 0 by
  by_cases h : g.d < 9223372036854775807
  ·exact .inl (wr64 (by omega) (by omega))
  ·right
   rw [show g.d = 9223372036854775807 by omega]
   decide +kernel)
 have HS1 := Lib.hid (wr64 (z := y.slots - 1) (by have := Ly.slots_le ok; omega) (by have := Ly.slots_le ok; omega))
 clear hy ok hs
 obtain ⟨b1, hb1⟩ : ∃ b, amB g.s 1099511627774 = b := ⟨_, rfl⟩
 obtain ⟨b2, hb2⟩ : ∃ b, amB g.i (y.slots - 1) = b := ⟨_, rfl⟩
 obtain ⟨b3, hb3⟩ : ∃ b, amB (wrap64 (g.d + 1)) y.c2 = b := ⟨_, rfl⟩
 obtain ⟨b4, hb4⟩ : ∃ b, plB y g.f g.t = b := ⟨_, rfl⟩
 have H1 := Lib.hid hb1
 have H2 := Lib.hid hb2
 have H3 := Lib.hid hb3
 have H4 := Lib.hid hb4
 have HO := Lib.hid (show okLog y g = (b1 && (b2 && (b3 && b4))) by unfold okLog; rw [hb1, hb2, hb3, hb4])
 clear hb1 hb2 hb3 hb4
 go_enter Tryz.func19, Tryz.ntmps19
 go_upto_region 1 with (first
  | ((with_reducible refine gate_dst (N := 2) rfl ?_); refine box_event ?hg (N := 2) ?hd (cs := #[.int .i64 y.c0, .int .i64 y.c1, .int .i64 y.c2, .int .i64 y.c3, .int .i64 y.c4, .int .i64 y.c5, .int .i64 y.c6, .int .i64 y.c7, .int .i64 y.c8, .int .i64 y.c9, .slice y.A y.l.length y.cap]) (t := 46) ?hr ?_; (case hd => rfl); (case hg => rfl); (case hr => first | (go_simp; done) | (go_simp; rfl)); intro gl hg_ w1 hbox_ hb_; have HX1 := Lib.hid (Sr.box (Sr.nil w) hg_ hbox_ hb_); clear hbox_ hb_ hg_)
  | ((with_reducible refine gate_dst (N := 3) rfl ?_); refine box_event ?hg (N := 3) ?hd (cs := #[.int .i64 g.s, .int .i64 g.i, .int .i64 g.d, .int .i64 g.f, .int .i64 g.t]) (t := 43) ?hr ?_; (case hd => rfl); (case hg => rfl); (case hr => first | (go_simp; done) | (go_simp; rfl)); intro gg hg_ w2 hbox_ hb_; have HX2 := Lib.hid (Sr.box HX1.out hg_ hbox_ hb_); clear hbox_ hb_ hg_)
  | fail)
 have HS : ∀ w', Sr w [(gg, g.obj), (gl, y.obj)] w' → w'.cell? ⟨gg, 0, none⟩ = some (.int .i64 g.s) ∧ w'.cell? ⟨gg, 1, none⟩ = some (.int .i64 g.i) ∧ w'.cell? ⟨gg, 2, none⟩ = some (.int .i64 g.d) ∧ w'.cell? ⟨gg, 3, none⟩ = some (.int .i64 g.f) ∧ w'.cell? ⟨gg, 4, none⟩ = some (.int .i64 g.t) ∧ w'.cell? ⟨gl, 0, none⟩ = some (.int .i64 y.c0) ∧ w'.cell? ⟨gl, 1, none⟩ = some (.int .i64 y.c1) ∧ w'.cell? ⟨gl, 2, none⟩ = some (.int .i64 y.c2) ∧ w'.cell? ⟨gl, 3, none⟩ = some (.int .i64 y.c3) ∧ w'.cell? ⟨gl, 4, none⟩ = some (.int .i64 y.c4) ∧ w'.cell? ⟨gl, 5, none⟩ = some (.int .i64 y.c5) ∧ w'.cell? ⟨gl, 6, none⟩ = some (.int .i64 y.c6) ∧ w'.cell? ⟨gl, 7, none⟩ = some (.int .i64 y.c7) ∧ w'.cell? ⟨gl, 8, none⟩ = some (.int .i64 y.c8) ∧ w'.cell? ⟨gl, 9, none⟩ = some (.int .i64 y.c9) ∧ w'.cell? ⟨gl, 10, none⟩ = some (.slice y.A y.l.length y.cap) := fun w' h => ⟨h.cell mh 0 rfl, h.cell mh 1 rfl, h.cell mh 2 rfl, h.cell mh 3 rfl, h.cell mh 4 rfl, h.cell (mt mh) 0 rfl, h.cell (mt mh) 1 rfl, h.cell (mt mh) 2 rfl, h.cell (mt mh) 3 rfl, h.cell (mt mh) 4 rfl, h.cell (mt mh) 5 rfl, h.cell (mt mh) 6 rfl, h.cell (mt mh) 7 rfl, h.cell (mt mh) 8 rfl, h.cell (mt mh) 9 rfl, h.cell (mt mh) 10 rfl⟩
 cases b1 with
 | false =>
  refine stq 32 0 (sEnD0 gg g gl y) (HS _ (HX2.out.below (drewB _))) (fun hHeld => ?_)
  refine pq 0 6 32 1 ?_
  refine tq 1 7 32 3 hHeld ?_
  refine oq 2 8 32 7 (fun K hK => ?_)
  refine gq Tryz.func68 #[.int .i64 (g.s), .int .i64 1099511627774] ?_
  with_reducible refine ((among_call (g.s) 1099511627774 false H1.out _)).mono ?_
  rintro e wa0 ⟨rfl, hb_⟩
  refine ⟨_, rfl, ?_⟩
  have HA0 := Lib.hid (Sr.below (HX2.out.below (drewB _)) hb_)
  clear hb_
  refine hK.out _ _ (HS _ HA0.out) (fun hHeld => ?_)
  clear hK K
  refine nx 8 ?_
  refine pq 3 9 32 15 ?_
  refine pq 4 10 32 31 ?_
  refine pqo 5 11 32 63 ?_
  refine pqo 6 12 32 127 ?_
  refine pqo 7 13 32 255 ?_
  refine pqo 8 14 32 511 ?_
  refine pqo 9 15 32 1023 ?_
  refine pqo 10 16 32 2047 ?_
  refine pqo 11 17 32 4095 ?_
  refine pq 12 18 32 8191 ?_
  refine pq 13 19 32 16383 ?_
  refine pqo 14 20 32 32767 ?_
  refine pqo 15 21 32 65535 ?_
  refine pqo 16 22 32 131071 ?_
  refine pqo 17 23 32 262143 ?_
  refine pqo 18 24 32 524287 ?_
  refine pqo 19 25 32 1048575 ?_
  refine pqo 20 26 32 2097151 ?_
  refine pqo 21 27 32 4194303 ?_
  refine pqo 22 28 32 8388607 ?_
  refine pq 23 29 32 16777215 ?_
  refine pq 24 30 32 33554431 ?_
  refine pqo 25 31 32 67108863 ?_
  refine pqo 26 32 32 134217727 ?_
  refine pqo 27 33 32 268435455 ?_
  refine pqo 28 34 32 536870911 ?_
  refine pqo 29 35 32 1073741823 ?_
  refine pqo 30 36 32 2147483647 ?_
  refine pq 31 37 32 4294967295 ?_
  refine done_ (by kernel_rfl) ?_
  go_wp2
  have hO := HO.out
  simp only [Bool.false_and, Bool.true_and] at hO
  refine bodyPost_ret (v := .tuple #[.slice none 0 0, .int .i64 1]) ?_ rfl ?_
  ·simp [results, Tryz.results19, go_sem]
  ·unfold LogPost; rw [hO, if_neg (by decide), if_neg (by decide)]; exact ⟨_, rfl, Kd.R_nil _ _ _ _ _, HA0.out.bel⟩
 | true =>
  cases b2 with
  | false =>
   refine stq 32 0 (sEnD0 gg g gl y) (HS _ (HX2.out.below (drewB _))) (fun hHeld => ?_)
   refine pq 0 6 32 1 ?_
   refine tq 1 7 32 3 hHeld ?_
   refine oq 2 8 32 7 (fun K hK => ?_)
   refine gq Tryz.func68 #[.int .i64 (g.s), .int .i64 1099511627774] ?_
   with_reducible refine ((among_call (g.s) 1099511627774 true H1.out _)).mono ?_
   rintro e wa0 ⟨rfl, hb_⟩
   refine ⟨_, rfl, ?_⟩
   have HA0 := Lib.hid (Sr.below (HX2.out.below (drewB _)) hb_)
   clear hb_
   refine hK.out _ _ (HS _ HA0.out) (fun hHeld => ?_)
   clear hK K
   refine nx 8 ?_
   refine pq 3 9 32 15 ?_
   refine pq 4 10 32 31 ?_
   refine pq 5 11 32 63 ?_
   refine tq 6 12 32 127 hHeld ?_
   refine tq 7 13 32 255 hHeld ?_
   refine oq 8 14 32 511 (fun K hK => ?_)
   refine gq Tryz.func62 #[y.v] ?_
   with_reducible refine ((Slots_call (HY.out.below HA0.out.bel) HK.out)).mono ?_
   rintro e ws ⟨rfl, hb_⟩
   refine ⟨_, rfl, ?_⟩
   have HAs := Lib.hid (Sr.below HA0.out hb_)
   clear hb_
   refine hK.out _ _ (HS _ HAs.out) (fun hHeld => ?_)
   clear hK K
   refine nx 14 ?_
   refine pq 9 15 32 1023 ?_
   refine oq 10 16 32 2047 (fun K hK => ?_)
   refine gq Tryz.func68 #[.int .i64 (g.i), .int .i64 (wrap64 (y.slots - 1))] ?_
   with_reducible refine ((among_call (g.i) (wrap64 (y.slots - 1)) false (by rw [HS1.out]; exact H2.out) _)).mono ?_
   rintro e wa1 ⟨rfl, hb_⟩
   refine ⟨_, rfl, ?_⟩
   have HA1 := Lib.hid (Sr.below HAs.out hb_)
   clear hb_
   refine hK.out _ _ (HS _ HA1.out) (fun hHeld => ?_)
   clear hK K
   refine nx 16 ?_
   refine pq 11 17 32 4095 ?_
   refine pq 12 18 32 8191 ?_
   refine pq 13 19 32 16383 ?_
   refine pqo 14 20 32 32767 ?_
   refine pqo 15 21 32 65535 ?_
   refine pqo 16 22 32 131071 ?_
   refine pqo 17 23 32 262143 ?_
   refine pqo 18 24 32 524287 ?_
   refine pqo 19 25 32 1048575 ?_
   refine pqo 20 26 32 2097151 ?_
   refine pqo 21 27 32 4194303 ?_
   refine pqo 22 28 32 8388607 ?_
   refine pq 23 29 32 16777215 ?_
   refine pq 24 30 32 33554431 ?_
   refine pqo 25 31 32 67108863 ?_
   refine pqo 26 32 32 134217727 ?_
   refine pqo 27 33 32 268435455 ?_
   refine pqo 28 34 32 536870911 ?_
   refine pqo 29 35 32 1073741823 ?_
   refine pqo 30 36 32 2147483647 ?_
   refine pq 31 37 32 4294967295 ?_
   refine done_ (by kernel_rfl) ?_
   go_wp2
   have hO := HO.out
   simp only [Bool.false_and, Bool.true_and] at hO
   refine bodyPost_ret (v := .tuple #[.slice none 0 0, .int .i64 1]) ?_ rfl ?_
   ·simp [results, Tryz.results19, go_sem]
   ·unfold LogPost; rw [hO, if_neg (by decide), if_neg (by decide)]; exact ⟨_, rfl, Kd.R_nil _ _ _ _ _, HA1.out.bel⟩
  | true =>
   cases b3 with
   | false =>
    refine stq 32 0 (sEnD0 gg g gl y) (HS _ (HX2.out.below (drewB _))) (fun hHeld => ?_)
    refine pq 0 6 32 1 ?_
    refine tq 1 7 32 3 hHeld ?_
    refine oq 2 8 32 7 (fun K hK => ?_)
    refine gq Tryz.func68 #[.int .i64 (g.s), .int .i64 1099511627774] ?_
    with_reducible refine ((among_call (g.s) 1099511627774 true H1.out _)).mono ?_
    rintro e wa0 ⟨rfl, hb_⟩
    refine ⟨_, rfl, ?_⟩
    have HA0 := Lib.hid (Sr.below (HX2.out.below (drewB _)) hb_)
    clear hb_
    refine hK.out _ _ (HS _ HA0.out) (fun hHeld => ?_)
    clear hK K
    refine nx 8 ?_
    refine pq 3 9 32 15 ?_
    refine pq 4 10 32 31 ?_
    refine pq 5 11 32 63 ?_
    refine tq 6 12 32 127 hHeld ?_
    refine tq 7 13 32 255 hHeld ?_
    refine oq 8 14 32 511 (fun K hK => ?_)
    refine gq Tryz.func62 #[y.v] ?_
    with_reducible refine ((Slots_call (HY.out.below HA0.out.bel) HK.out)).mono ?_
    rintro e ws ⟨rfl, hb_⟩
    refine ⟨_, rfl, ?_⟩
    have HAs := Lib.hid (Sr.below HA0.out hb_)
    clear hb_
    refine hK.out _ _ (HS _ HAs.out) (fun hHeld => ?_)
    clear hK K
    refine nx 14 ?_
    refine pq 9 15 32 1023 ?_
    refine oq 10 16 32 2047 (fun K hK => ?_)
    refine gq Tryz.func68 #[.int .i64 (g.i), .int .i64 (wrap64 (y.slots - 1))] ?_
    with_reducible refine ((among_call (g.i) (wrap64 (y.slots - 1)) true (by rw [HS1.out]; exact H2.out) _)).mono ?_
    rintro e wa1 ⟨rfl, hb_⟩
    refine ⟨_, rfl, ?_⟩
    have HA1 := Lib.hid (Sr.below HAs.out hb_)
    clear hb_
    refine hK.out _ _ (HS _ HA1.out) (fun hHeld => ?_)
    clear hK K
    refine nx 16 ?_
    refine pq 11 17 32 4095 ?_
    refine pq 12 18 32 8191 ?_
    refine pq 13 19 32 16383 ?_
    refine pq 14 20 32 32767 ?_
    refine pq 15 21 32 65535 ?_
    refine pq 18 24 32 327679 ?_
    refine pq 19 25 32 851967 ?_
    refine tq 16 22 32 917503 hHeld ?_
    refine pq 17 23 32 1048575 ?_
    refine tq 20 26 32 2097151 hHeld ?_
    refine oq 21 27 32 4194303 (fun K hK => ?_)
    refine gq Tryz.func68 #[.int .i64 (wrap64 (g.d + 1)), .int .i64 (y.c2)] ?_
    with_reducible refine ((among_call (wrap64 (g.d + 1)) (y.c2) false H3.out _)).mono ?_
    rintro e wa2 ⟨rfl, hb_⟩
    refine ⟨_, rfl, ?_⟩
    have HA2 := Lib.hid (Sr.below HA1.out hb_)
    clear hb_
    refine hK.out _ _ (HS _ HA2.out) (fun hHeld => ?_)
    clear hK K
    refine nx 27 ?_
    refine pq 22 28 32 8388607 ?_
    refine pq 23 29 32 16777215 ?_
    refine pq 24 30 32 33554431 ?_
    refine pqo 25 31 32 67108863 ?_
    refine pqo 26 32 32 134217727 ?_
    refine pqo 27 33 32 268435455 ?_
    refine pqo 28 34 32 536870911 ?_
    refine pqo 29 35 32 1073741823 ?_
    refine pqo 30 36 32 2147483647 ?_
    refine pq 31 37 32 4294967295 ?_
    refine done_ (by kernel_rfl) ?_
    go_wp2
    have hO := HO.out
    simp only [Bool.false_and, Bool.true_and] at hO
    refine bodyPost_ret (v := .tuple #[.slice none 0 0, .int .i64 1]) ?_ rfl ?_
    ·simp [results, Tryz.results19, go_sem]
    ·unfold LogPost; rw [hO, if_neg (by decide), if_neg (by decide)]; exact ⟨_, rfl, Kd.R_nil _ _ _ _ _, HA2.out.bel⟩
   | true =>
    cases b4 with
    | false =>
     refine stq 32 0 (sEnD0 gg g gl y) (HS _ (HX2.out.below (drewB _))) (fun hHeld => ?_)
     refine pq 0 6 32 1 ?_
     refine tq 1 7 32 3 hHeld ?_
     refine oq 2 8 32 7 (fun K hK => ?_)
     refine gq Tryz.func68 #[.int .i64 (g.s), .int .i64 1099511627774] ?_
     with_reducible refine ((among_call (g.s) 1099511627774 true H1.out _)).mono ?_
     rintro e wa0 ⟨rfl, hb_⟩
     refine ⟨_, rfl, ?_⟩
     have HA0 := Lib.hid (Sr.below (HX2.out.below (drewB _)) hb_)
     clear hb_
     refine hK.out _ _ (HS _ HA0.out) (fun hHeld => ?_)
     clear hK K
     refine nx 8 ?_
     refine pq 3 9 32 15 ?_
     refine pq 4 10 32 31 ?_
     refine pq 5 11 32 63 ?_
     refine tq 6 12 32 127 hHeld ?_
     refine tq 7 13 32 255 hHeld ?_
     refine oq 8 14 32 511 (fun K hK => ?_)
     refine gq Tryz.func62 #[y.v] ?_
     with_reducible refine ((Slots_call (HY.out.below HA0.out.bel) HK.out)).mono ?_
     rintro e ws ⟨rfl, hb_⟩
     refine ⟨_, rfl, ?_⟩
     have HAs := Lib.hid (Sr.below HA0.out hb_)
     clear hb_
     refine hK.out _ _ (HS _ HAs.out) (fun hHeld => ?_)
     clear hK K
     refine nx 14 ?_
     refine pq 9 15 32 1023 ?_
     refine oq 10 16 32 2047 (fun K hK => ?_)
     refine gq Tryz.func68 #[.int .i64 (g.i), .int .i64 (wrap64 (y.slots - 1))] ?_
     with_reducible refine ((among_call (g.i) (wrap64 (y.slots - 1)) true (by rw [HS1.out]; exact H2.out) _)).mono ?_
     rintro e wa1 ⟨rfl, hb_⟩
     refine ⟨_, rfl, ?_⟩
     have HA1 := Lib.hid (Sr.below HAs.out hb_)
     clear hb_
     refine hK.out _ _ (HS _ HA1.out) (fun hHeld => ?_)
     clear hK K
     refine nx 16 ?_
     refine pq 11 17 32 4095 ?_
     refine pq 12 18 32 8191 ?_
     refine pq 13 19 32 16383 ?_
     refine pq 14 20 32 32767 ?_
     refine pq 15 21 32 65535 ?_
     refine pq 18 24 32 327679 ?_
     refine pq 19 25 32 851967 ?_
     refine tq 16 22 32 917503 hHeld ?_
     refine pq 17 23 32 1048575 ?_
     refine tq 20 26 32 2097151 hHeld ?_
     refine oq 21 27 32 4194303 (fun K hK => ?_)
     refine gq Tryz.func68 #[.int .i64 (wrap64 (g.d + 1)), .int .i64 (y.c2)] ?_
     with_reducible refine ((among_call (wrap64 (g.d + 1)) (y.c2) true H3.out _)).mono ?_
     rintro e wa2 ⟨rfl, hb_⟩
     refine ⟨_, rfl, ?_⟩
     have HA2 := Lib.hid (Sr.below HA1.out hb_)
     clear hb_
     refine hK.out _ _ (HS _ HA2.out) (fun hHeld => ?_)
     clear hK K
     refine nx 27 ?_
     refine pq 22 28 32 8388607 ?_
     refine pq 23 29 32 16777215 ?_
     refine pq 24 30 32 33554431 ?_
     refine pq 26 32 32 100663295 ?_
     refine pq 27 33 32 234881023 ?_
     refine tq 25 31 32 268435455 hHeld ?_
     refine tq 28 34 32 536870911 hHeld ?_
     refine oq 29 35 32 1073741823 (fun K hK => ?_)
     refine gq Tryz.func69 #[y.v, .agg #[.int .i64 g.f, .int .i64 g.t]] ?_
     with_reducible refine ((place_call (HY.out.below HA2.out.bel) HK.out g.f g.t false H4.out)).mono ?_
     rintro e wa3 ⟨rfl, hb_⟩
     refine ⟨_, rfl, ?_⟩
     have HA3 := Lib.hid (Sr.below HA2.out hb_)
     clear hb_
     refine hK.out _ _ (HS _ HA3.out) (fun hHeld => ?_)
     clear hK K
     refine nx 35 ?_
     refine pq 30 36 32 2147483647 ?_
     refine pq 31 37 32 4294967295 ?_
     refine done_ (by kernel_rfl) ?_
     go_wp2
     have hO := HO.out
     simp only [Bool.false_and, Bool.true_and] at hO
     refine bodyPost_ret (v := .tuple #[.slice none 0 0, .int .i64 1]) ?_ rfl ?_
     ·simp [results, Tryz.results19, go_sem]
     ·unfold LogPost; rw [hO, if_neg (by decide), if_neg (by decide)]; exact ⟨_, rfl, Kd.R_nil _ _ _ _ _, HA3.out.bel⟩
    | true =>
     refine stq 32 0 (sEnD0 gg g gl y) (HS _ (HX2.out.below (drewB _))) (fun hHeld => ?_)
     refine pq 0 6 32 1 ?_
     refine tq 1 7 32 3 hHeld ?_
     refine oq 2 8 32 7 (fun K hK => ?_)
     refine gq Tryz.func68 #[.int .i64 (g.s), .int .i64 1099511627774] ?_
     with_reducible refine ((among_call (g.s) 1099511627774 true H1.out _)).mono ?_
     rintro e wa0 ⟨rfl, hb_⟩
     refine ⟨_, rfl, ?_⟩
     have HA0 := Lib.hid (Sr.below (HX2.out.below (drewB _)) hb_)
     clear hb_
     refine hK.out _ _ (HS _ HA0.out) (fun hHeld => ?_)
     clear hK K
     refine nx 8 ?_
     refine pq 3 9 32 15 ?_
     refine pq 4 10 32 31 ?_
     refine pq 5 11 32 63 ?_
     refine tq 6 12 32 127 hHeld ?_
     refine tq 7 13 32 255 hHeld ?_
     refine oq 8 14 32 511 (fun K hK => ?_)
     refine gq Tryz.func62 #[y.v] ?_
     with_reducible refine ((Slots_call (HY.out.below HA0.out.bel) HK.out)).mono ?_
     rintro e ws ⟨rfl, hb_⟩
     refine ⟨_, rfl, ?_⟩
     have HAs := Lib.hid (Sr.below HA0.out hb_)
     clear hb_
     refine hK.out _ _ (HS _ HAs.out) (fun hHeld => ?_)
     clear hK K
     refine nx 14 ?_
     refine pq 9 15 32 1023 ?_
     refine oq 10 16 32 2047 (fun K hK => ?_)
     refine gq Tryz.func68 #[.int .i64 (g.i), .int .i64 (wrap64 (y.slots - 1))] ?_
     with_reducible refine ((among_call (g.i) (wrap64 (y.slots - 1)) true (by rw [HS1.out]; exact H2.out) _)).mono ?_
     rintro e wa1 ⟨rfl, hb_⟩
     refine ⟨_, rfl, ?_⟩
     have HA1 := Lib.hid (Sr.below HAs.out hb_)
     clear hb_
     refine hK.out _ _ (HS _ HA1.out) (fun hHeld => ?_)
     clear hK K
     refine nx 16 ?_
     refine pq 11 17 32 4095 ?_
     refine pq 12 18 32 8191 ?_
     refine pq 13 19 32 16383 ?_
     refine pq 14 20 32 32767 ?_
     refine pq 15 21 32 65535 ?_
     refine pq 18 24 32 327679 ?_
     refine pq 19 25 32 851967 ?_
     refine tq 16 22 32 917503 hHeld ?_
     refine pq 17 23 32 1048575 ?_
     refine tq 20 26 32 2097151 hHeld ?_
     refine oq 21 27 32 4194303 (fun K hK => ?_)
     refine gq Tryz.func68 #[.int .i64 (wrap64 (g.d + 1)), .int .i64 (y.c2)] ?_
     with_reducible refine ((among_call (wrap64 (g.d + 1)) (y.c2) true H3.out _)).mono ?_
     rintro e wa2 ⟨rfl, hb_⟩
     refine ⟨_, rfl, ?_⟩
     have HA2 := Lib.hid (Sr.below HA1.out hb_)
     clear hb_
     refine hK.out _ _ (HS _ HA2.out) (fun hHeld => ?_)
     clear hK K
     refine nx 27 ?_
     refine pq 22 28 32 8388607 ?_
     refine pq 23 29 32 16777215 ?_
     refine pq 24 30 32 33554431 ?_
     refine pq 26 32 32 100663295 ?_
     refine pq 27 33 32 234881023 ?_
     refine tq 25 31 32 268435455 hHeld ?_
     refine tq 28 34 32 536870911 hHeld ?_
     refine oq 29 35 32 1073741823 (fun K hK => ?_)
     refine gq Tryz.func69 #[y.v, .agg #[.int .i64 g.f, .int .i64 g.t]] ?_
     with_reducible refine ((place_call (HY.out.below HA2.out.bel) HK.out g.f g.t true H4.out)).mono ?_
     rintro e wa3 ⟨rfl, hb_⟩
     refine ⟨_, rfl, ?_⟩
     have HA3 := Lib.hid (Sr.below HA2.out hb_)
     clear hb_
     refine hK.out _ _ (HS _ HA3.out) (fun hHeld => ?_)
     clear hK K
     refine nx 35 ?_
     refine pq 30 36 32 2147483647 ?_
     refine pq 31 37 32 4294967295 ?_
     refine done_ (by kernel_rfl) ?_
     go_wp2
     have HN5 := Lib.hid (show ∀ n ∈ [g.s], okN 5 n from fun n hn => by rw [List.mem_singleton.1 hn]; exact okN_of H1.out (by decide))
     have HN1 := Lib.hid (show ∀ n ∈ [g.i, g.d, g.f], okN 1 n from by
      have h1 := of_decide_eq_true H2.out
      have h2 := of_decide_eq_true H3.out
      have hd := HD.out
      have h3 := of_decide_eq_true (Bool.and_eq_true_iff.1 H4.out).1
      have h4 := Ly.slots_le HK.out
      have h5 := Ly.lv_le HK.out
      have h6 := HK.out
      unfold Ly.Ok at h6
      intro n hn
      simp only [List.mem_cons, List.not_mem_nil, or_false] at hn
      unfold okN
      rcases hn with rfl | rfl | rfl <;> omega)
     have HN4 := Lib.hid (show ∀ n ∈ [g.t], okN 4 n from fun n hn => by rw [List.mem_singleton.1 hn]; exact okN_of (Bool.and_eq_true_iff.1 H4.out).2 (by decide))
     have HL := Lib.hid (show ((([] ++ bes 5 [g.s] ++ bes 1 [g.i, g.d, g.f]) ++ bes 4 [g.t]).length : Int) ≤ y.whole 12 ∧ y.whole 12 ≤ 1048576 by
      have := whole_le HK.out 12 (by omega) (by omega)
      simp [bes_length]
      omega)
     refine stq 31 0 (sEnD0 gg g gl y) (HS _ (HA3.out.below (drewB _))) (fun hHeld => ?_)
     refine pq 1 39 31 2 ?_
     refine pq 5 43 31 34 ?_
     refine pq 7 45 31 162 ?_
     refine pq 8 46 31 418 ?_
     refine pq 10 48 31 1442 ?_
     refine pq 11 49 31 3490 ?_
     refine pq 12 50 31 7586 ?_
     refine pq 16 54 31 73122 ?_
     refine pq 17 55 31 204194 ?_
     refine pq 18 56 31 466338 ?_
     refine tq 2 40 31 466342 hHeld ?_
     refine tq 6 44 31 466406 hHeld ?_
     refine tq 9 47 31 466918 hHeld ?_
     refine tq 13 51 31 475110 hHeld ?_
     refine tq 19 57 31 999398 hHeld ?_
     refine tq 22 60 31 5193702 hHeld ?_
     refine tq 23 61 31 13582310 hHeld ?_
     refine join_ (σ := Nat × Nat × Nat × Nat) 8 (bm 31 14680063) (fun s => [(38, .pointer (some ⟨s.1, 0, none⟩)), (41, .slice (some ⟨s.2.1, 0, none⟩) 1 1), (42, .pointer (some ⟨s.1, 0, none⟩)), (52, .slice (some ⟨s.2.2.1, 0, none⟩) 3 3), (53, .pointer (some ⟨s.1, 0, none⟩)), (58, .slice (some ⟨s.2.2.2, 0, none⟩) 1 1)]) (fun s w' => Sw w s.1 (([] ++ bes 5 [g.s]) ++ bes 1 [g.i, g.d, g.f]) ((s.2.1, rowo [g.s]) :: (s.2.2.1, rowo [g.i, g.d, g.f]) :: (s.2.2.2, rowo [g.t]) :: [(gg, g.obj), (gl, y.obj)]) w') ?_ ?_
     rotate_left
     ·intro hJ0_3_4_14_15_20
      refine join_ (σ := Nat × Nat × Nat) 9 (bm 31 13631487) (fun s => [(38, .pointer (some ⟨s.1, 0, none⟩)), (41, .slice (some ⟨s.2.1, 0, none⟩) 1 1), (42, .pointer (some ⟨s.1, 0, none⟩)), (52, .slice (some ⟨s.2.2, 0, none⟩) 3 3), (53, .pointer (some ⟨s.1, 0, none⟩))]) (fun s w' => Sw w s.1 (([] ++ bes 5 [g.s]) ++ bes 1 [g.i, g.d, g.f]) ((s.2.1, rowo [g.s]) :: (s.2.2, rowo [g.i, g.d, g.f]) :: [(gg, g.obj), (gl, y.obj)]) w') ?_ ?_
      rotate_left
      ·intro hJ0_3_4_14_15
       refine join_ (σ := Nat × Nat × Nat × Nat) 9 (bm 31 14647295) (fun s => [(38, .pointer (some ⟨s.1, 0, none⟩)), (41, .slice (some ⟨s.2.1, 0, none⟩) 1 1), (42, .pointer (some ⟨s.1, 0, none⟩)), (52, .slice (some ⟨s.2.2.1, 0, none⟩) 3 3), (58, .slice (some ⟨s.2.2.2, 0, none⟩) 1 1)]) (fun s w' => Sw w s.1 ([] ++ bes 5 [g.s]) ((s.2.1, rowo [g.s]) :: (s.2.2.1, rowo [g.i, g.d, g.f]) :: (s.2.2.2, rowo [g.t]) :: [(gg, g.obj), (gl, y.obj)]) w') ?_ ?_
       rotate_left
       ·intro hJ0_3_4_14_20
        refine join_ (σ := Nat × Nat × Nat) 10 (bm 31 13598719) (fun s => [(38, .pointer (some ⟨s.1, 0, none⟩)), (41, .slice (some ⟨s.2.1, 0, none⟩) 1 1), (42, .pointer (some ⟨s.1, 0, none⟩)), (52, .slice (some ⟨s.2.2, 0, none⟩) 3 3)]) (fun s w' => Sw w s.1 ([] ++ bes 5 [g.s]) ((s.2.1, rowo [g.s]) :: (s.2.2, rowo [g.i, g.d, g.f]) :: [(gg, g.obj), (gl, y.obj)]) w') ?_ ?_
        rotate_left
        ·intro hJ0_3_4_14
         refine join_ (σ := Nat × Nat × Nat) 10 (bm 31 14630911) (fun s => [(38, .pointer (some ⟨s.1, 0, none⟩)), (41, .slice (some ⟨s.2.1, 0, none⟩) 1 1), (42, .pointer (some ⟨s.1, 0, none⟩)), (58, .slice (some ⟨s.2.2, 0, none⟩) 1 1)]) (fun s w' => Sw w s.1 ([] ++ bes 5 [g.s]) ((s.2.1, rowo [g.s]) :: (s.2.2, rowo [g.t]) :: [(gg, g.obj), (gl, y.obj)]) w') ?_ ?_
         rotate_left
         ·intro hJ0_3_4_20
          refine join_ (σ := Nat × Nat × Nat × Nat) 10 (bm 31 14647279) (fun s => [(38, .pointer (some ⟨s.1, 0, none⟩)), (41, .slice (some ⟨s.2.1, 0, none⟩) 1 1), (52, .slice (some ⟨s.2.2.1, 0, none⟩) 3 3), (58, .slice (some ⟨s.2.2.2, 0, none⟩) 1 1)]) (fun s w' => Sw w s.1 [] ((s.2.1, rowo [g.s]) :: (s.2.2.1, rowo [g.i, g.d, g.f]) :: (s.2.2.2, rowo [g.t]) :: [(gg, g.obj), (gl, y.obj)]) w') ?_ ?_
          rotate_left
          ·intro hJ0_3_14_20
           refine join_ (σ := Nat × Nat) 11 (bm 31 13582335) (fun s => [(38, .pointer (some ⟨s.1, 0, none⟩)), (41, .slice (some ⟨s.2, 0, none⟩) 1 1), (42, .pointer (some ⟨s.1, 0, none⟩))]) (fun s w' => Sw w s.1 ([] ++ bes 5 [g.s]) ((s.2, rowo [g.s]) :: [(gg, g.obj), (gl, y.obj)]) w') ?_ ?_
           rotate_left
           ·intro hJ0_3_4
            refine join_ (σ := Nat × Nat × Nat) 11 (bm 31 13598703) (fun s => [(38, .pointer (some ⟨s.1, 0, none⟩)), (41, .slice (some ⟨s.2.1, 0, none⟩) 1 1), (52, .slice (some ⟨s.2.2, 0, none⟩) 3 3)]) (fun s w' => Sw w s.1 [] ((s.2.1, rowo [g.s]) :: (s.2.2, rowo [g.i, g.d, g.f]) :: [(gg, g.obj), (gl, y.obj)]) w') ?_ ?_
            rotate_left
            ·intro hJ0_3_14
             refine join_ (σ := Nat × Nat × Nat) 11 (bm 31 14630895) (fun s => [(38, .pointer (some ⟨s.1, 0, none⟩)), (41, .slice (some ⟨s.2.1, 0, none⟩) 1 1), (58, .slice (some ⟨s.2.2, 0, none⟩) 1 1)]) (fun s w' => Sw w s.1 [] ((s.2.1, rowo [g.s]) :: (s.2.2, rowo [g.t]) :: [(gg, g.obj), (gl, y.obj)]) w') ?_ ?_
             rotate_left
             ·intro hJ0_3_20
              refine join_ (σ := Nat × Nat × Nat) 11 (bm 31 14647271) (fun s => [(38, .pointer (some ⟨s.1, 0, none⟩)), (52, .slice (some ⟨s.2.1, 0, none⟩) 3 3), (58, .slice (some ⟨s.2.2, 0, none⟩) 1 1)]) (fun s w' => Sw w s.1 [] ((s.2.1, rowo [g.i, g.d, g.f]) :: (s.2.2, rowo [g.t]) :: [(gg, g.obj), (gl, y.obj)]) w') ?_ ?_
              rotate_left
              ·intro hJ0_14_20
               refine join_ (σ := Nat × Nat × Nat) 11 (bm 31 14647278) (fun s => [(41, .slice (some ⟨s.1, 0, none⟩) 1 1), (52, .slice (some ⟨s.2.1, 0, none⟩) 3 3), (58, .slice (some ⟨s.2.2, 0, none⟩) 1 1)]) (fun s w' => Sr w ((s.1, rowo [g.s]) :: (s.2.1, rowo [g.i, g.d, g.f]) :: (s.2.2, rowo [g.t]) :: [(gg, g.obj), (gl, y.obj)]) w') ?_ ?_
               rotate_left
               ·intro hJ3_14_20
                refine join_ (σ := Nat × Nat) 12 (bm 31 13582319) (fun s => [(38, .pointer (some ⟨s.1, 0, none⟩)), (41, .slice (some ⟨s.2, 0, none⟩) 1 1)]) (fun s w' => Sw w s.1 [] ((s.2, rowo [g.s]) :: [(gg, g.obj), (gl, y.obj)]) w') ?_ ?_
                rotate_left
                ·intro hJ0_3
                 refine join_ (σ := Nat × Nat) 12 (bm 31 13598695) (fun s => [(38, .pointer (some ⟨s.1, 0, none⟩)), (52, .slice (some ⟨s.2, 0, none⟩) 3 3)]) (fun s w' => Sw w s.1 [] ((s.2, rowo [g.i, g.d, g.f]) :: [(gg, g.obj), (gl, y.obj)]) w') ?_ ?_
                 rotate_left
                 ·intro hJ0_14
                  refine join_ (σ := Nat × Nat) 12 (bm 31 14630887) (fun s => [(38, .pointer (some ⟨s.1, 0, none⟩)), (58, .slice (some ⟨s.2, 0, none⟩) 1 1)]) (fun s w' => Sw w s.1 [] ((s.2, rowo [g.t]) :: [(gg, g.obj), (gl, y.obj)]) w') ?_ ?_
                  rotate_left
                  ·intro hJ0_20
                   refine join_ (σ := Nat × Nat) 12 (bm 31 13598702) (fun s => [(41, .slice (some ⟨s.1, 0, none⟩) 1 1), (52, .slice (some ⟨s.2, 0, none⟩) 3 3)]) (fun s w' => Sr w ((s.1, rowo [g.s]) :: (s.2, rowo [g.i, g.d, g.f]) :: [(gg, g.obj), (gl, y.obj)]) w') ?_ ?_
                   rotate_left
                   ·intro hJ3_14
                    refine join_ (σ := Nat × Nat) 12 (bm 31 14630894) (fun s => [(41, .slice (some ⟨s.1, 0, none⟩) 1 1), (58, .slice (some ⟨s.2, 0, none⟩) 1 1)]) (fun s w' => Sr w ((s.1, rowo [g.s]) :: (s.2, rowo [g.t]) :: [(gg, g.obj), (gl, y.obj)]) w') ?_ ?_
                    rotate_left
                    ·intro hJ3_20
                     refine join_ (σ := Nat × Nat) 12 (bm 31 14647270) (fun s => [(52, .slice (some ⟨s.1, 0, none⟩) 3 3), (58, .slice (some ⟨s.2, 0, none⟩) 1 1)]) (fun s w' => Sr w ((s.1, rowo [g.i, g.d, g.f]) :: (s.2, rowo [g.t]) :: [(gg, g.obj), (gl, y.obj)]) w') ?_ ?_
                     rotate_left
                     ·intro hJ14_20
                      refine join_ (σ := Nat) 13 (bm 31 13582311) (fun s => [(38, .pointer (some ⟨s, 0, none⟩))]) (fun s w' => Sw w s [] ([(gg, g.obj), (gl, y.obj)]) w') ?_ ?_
                      rotate_left
                      ·intro hJ0
                       refine join_ (σ := Nat) 13 (bm 31 13582318) (fun s => [(41, .slice (some ⟨s, 0, none⟩) 1 1)]) (fun s w' => Sr w ((s, rowo [g.s]) :: [(gg, g.obj), (gl, y.obj)]) w') ?_ ?_
                       rotate_left
                       ·intro hJ3
                        refine join_ (σ := Nat) 13 (bm 31 13598694) (fun s => [(52, .slice (some ⟨s, 0, none⟩) 3 3)]) (fun s w' => Sr w ((s, rowo [g.i, g.d, g.f]) :: [(gg, g.obj), (gl, y.obj)]) w') ?_ ?_
                        rotate_left
                        ·intro hJ14
                         refine join_ (σ := Nat) 13 (bm 31 14630886) (fun s => [(58, .slice (some ⟨s, 0, none⟩) 1 1)]) (fun s w' => Sr w ((s, rowo [g.t]) :: [(gg, g.obj), (gl, y.obj)]) w') ?_ ?_
                         rotate_left
                         ·intro hJ20
                          refine four_ (i := 0) (j := 3) (k := 14) (m := 20) (Ni := some 38) (Nj := some 41) (Nk := some 52) (Nm := some 58) (bm 31 13582311) (bm 31 13582318) (bm 31 13598694) (bm 31 14630886) rfl rfl rfl rfl rfl rfl rfl rfl (by kernel_rfl) (by decide) (by decide) (by decide) (by decide) (fun K hK => ?_) (fun K hK => ?_) (fun K hK => ?_) (fun K hK => ?_)
                          ·refine vq ?_
                           refine hK.out _ _ (HS _ ((HA3.out.below (drewB _)).wr.sr.less (fun _ hr => hr))) (fun hHeld => ?_)
                           clear hK K
                           refine nx 38 ?_
                           exact nz (hJ0 wa3.drew.heap.size _ ((HA3.out.below (drewB _)).wr))
                          ·refine vq ?_
                           refine hK.out _ _ (HS _ (((HA3.out.below (drewB _)).row _).less (fun _ hr => (mt hr)))) (fun hHeld => ?_)
                           clear hK K
                           refine nx 41 ?_
                           exact nz (hJ3 wa3.drew.heap.size _ (((HA3.out.below (drewB _)).row _).less (mc mh (fun _ hr => (mt hr)))))
                          ·refine vq ?_
                           refine hK.out _ _ (HS _ (((HA3.out.below (drewB _)).row _).less (fun _ hr => (mt hr)))) (fun hHeld => ?_)
                           clear hK K
                           refine nx 52 ?_
                           exact nz (hJ14 wa3.drew.heap.size _ (((HA3.out.below (drewB _)).row _).less (mc mh (fun _ hr => (mt hr)))))
                          ·refine vq ?_
                           refine hK.out _ _ (HS _ (((HA3.out.below (drewB _)).row _).less (fun _ hr => (mt hr)))) (fun hHeld => ?_)
                           clear hK K
                           refine nx 58 ?_
                           exact nz (hJ20 wa3.drew.heap.size _ (((HA3.out.below (drewB _)).row _).less (mc mh (fun _ hr => (mt hr)))))
                         ·rintro b20 wn hh
                          have HH := Lib.hid hh
                          clear hh
                          have hHeld := HS _ (HH.out.less (fun _ hr => (mt hr)))
                          refine ny ?_
                          refine thq 0 3 14 38 41 52 31 14630887 14630894 14647270 (fun K hK => ?_) (fun K hK => ?_) (fun K hK => ?_)
                          ·refine vq ?_
                           refine hK.out _ _ (HS _ (HH.out.wr.sr.less (fun _ hr => (mt hr)))) (fun hHeld => ?_)
                           clear hK K
                           refine nx 38 ?_
                           exact nz (hJ0_20 (wn.heap.size, b20) _ (HH.out.wr))
                          ·refine vq ?_
                           refine hK.out _ _ (HS _ ((HH.out.row _).less (fun _ hr => (mt (mt hr))))) (fun hHeld => ?_)
                           clear hK K
                           refine nx 41 ?_
                           exact nz (hJ3_20 (wn.heap.size, b20) _ ((HH.out.row _).less (mc mh (mc (mt mh) (fun _ hr => (mt (mt hr)))))))
                          ·refine vq ?_
                           refine hK.out _ _ (HS _ ((HH.out.row _).less (fun _ hr => (mt (mt hr))))) (fun hHeld => ?_)
                           clear hK K
                           refine nx 52 ?_
                           exact nz (hJ14_20 (wn.heap.size, b20) _ ((HH.out.row _).less (mc mh (mc (mt mh) (fun _ hr => (mt (mt hr)))))))
                        ·rintro b14 wn hh
                         have HH := Lib.hid hh
                         clear hh
                         have hHeld := HS _ (HH.out.less (fun _ hr => (mt hr)))
                         refine ny ?_
                         refine thq 0 3 20 38 41 58 31 13598695 13598702 14647270 (fun K hK => ?_) (fun K hK => ?_) (fun K hK => ?_)
                         ·refine vq ?_
                          refine hK.out _ _ (HS _ (HH.out.wr.sr.less (fun _ hr => (mt hr)))) (fun hHeld => ?_)
                          clear hK K
                          refine nx 38 ?_
                          exact nz (hJ0_14 (wn.heap.size, b14) _ (HH.out.wr))
                         ·refine vq ?_
                          refine hK.out _ _ (HS _ ((HH.out.row _).less (fun _ hr => (mt (mt hr))))) (fun hHeld => ?_)
                          clear hK K
                          refine nx 41 ?_
                          exact nz (hJ3_14 (wn.heap.size, b14) _ ((HH.out.row _).less (mc mh (mc (mt mh) (fun _ hr => (mt (mt hr)))))))
                         ·refine vq ?_
                          refine hK.out _ _ (HS _ ((HH.out.row _).less (fun _ hr => (mt (mt hr))))) (fun hHeld => ?_)
                          clear hK K
                          refine nx 58 ?_
                          exact nz (hJ14_20 (b14, wn.heap.size) _ ((HH.out.row _).less (mc (mt mh) (mc mh (fun _ hr => (mt (mt hr)))))))
                       ·rintro b3 wn hh
                        have HH := Lib.hid hh
                        clear hh
                        have hHeld := HS _ (HH.out.less (fun _ hr => (mt hr)))
                        refine ny ?_
                        refine thq 0 14 20 38 52 58 31 13582319 13598702 14630894 (fun K hK => ?_) (fun K hK => ?_) (fun K hK => ?_)
                        ·refine vq ?_
                         refine hK.out _ _ (HS _ (HH.out.wr.sr.less (fun _ hr => (mt hr)))) (fun hHeld => ?_)
                         clear hK K
                         refine nx 38 ?_
                         exact nz (hJ0_3 (wn.heap.size, b3) _ (HH.out.wr))
                        ·refine vq ?_
                         refine hK.out _ _ (HS _ ((HH.out.row _).less (fun _ hr => (mt (mt hr))))) (fun hHeld => ?_)
                         clear hK K
                         refine nx 52 ?_
                         exact nz (hJ3_14 (b3, wn.heap.size) _ ((HH.out.row _).less (mc (mt mh) (mc mh (fun _ hr => (mt (mt hr)))))))
                        ·refine vq ?_
                         refine hK.out _ _ (HS _ ((HH.out.row _).less (fun _ hr => (mt (mt hr))))) (fun hHeld => ?_)
                         clear hK K
                         refine nx 58 ?_
                         exact nz (hJ3_20 (b3, wn.heap.size) _ ((HH.out.row _).less (mc (mt mh) (mc mh (fun _ hr => (mt (mt hr)))))))
                      ·rintro gw wn hh
                       have HH := Lib.hid hh
                       clear hh
                       have hHeld := HS _ (HH.out.sr.less (fun _ hr => hr))
                       refine ny ?_
                       refine thq 3 14 20 41 52 58 31 13582319 13598695 14630887 (fun K hK => ?_) (fun K hK => ?_) (fun K hK => ?_)
                       ·refine vq ?_
                        refine hK.out _ _ (HS _ ((HH.out.row _).sr.less (fun _ hr => (mt hr)))) (fun hHeld => ?_)
                        clear hK K
                        refine nx 41 ?_
                        exact nz (hJ0_3 (gw, wn.heap.size) _ ((HH.out.row _).less (mc mh (fun _ hr => (mt hr)))))
                       ·refine vq ?_
                        refine hK.out _ _ (HS _ ((HH.out.row _).sr.less (fun _ hr => (mt hr)))) (fun hHeld => ?_)
                        clear hK K
                        refine nx 52 ?_
                        exact nz (hJ0_14 (gw, wn.heap.size) _ ((HH.out.row _).less (mc mh (fun _ hr => (mt hr)))))
                       ·refine vq ?_
                        refine hK.out _ _ (HS _ ((HH.out.row _).sr.less (fun _ hr => (mt hr)))) (fun hHeld => ?_)
                        clear hK K
                        refine nx 58 ?_
                        exact nz (hJ0_20 (gw, wn.heap.size) _ ((HH.out.row _).less (mc mh (fun _ hr => (mt hr)))))
                     ·rintro ⟨b14, b20⟩ wn hh
                      have HH := Lib.hid hh
                      clear hh
                      have hHeld := HS _ (HH.out.less (fun _ hr => (mt (mt hr))))
                      refine ny ?_
                      refine twq 0 3 38 41 31 14647271 14647278 (fun K hK => ?_) (fun K hK => ?_)
                      ·refine vq ?_
                       refine hK.out _ _ (HS _ (HH.out.wr.sr.less (fun _ hr => (mt (mt hr))))) (fun hHeld => ?_)
                       clear hK K
                       refine nx 38 ?_
                       exact nz (hJ0_14_20 (wn.heap.size, b14, b20) _ (HH.out.wr))
                      ·refine vq ?_
                       refine hK.out _ _ (HS _ ((HH.out.row _).less (fun _ hr => (mt (mt (mt hr)))))) (fun hHeld => ?_)
                       clear hK K
                       refine nx 41 ?_
                       exact nz (hJ3_14_20 (wn.heap.size, b14, b20) _ ((HH.out.row _).less (mc mh (mc (mt mh) (mc (mt (mt mh)) (fun _ hr => (mt (mt (mt hr)))))))))
                    ·rintro ⟨b3, b20⟩ wn hh
                     have HH := Lib.hid hh
                     clear hh
                     have hHeld := HS _ (HH.out.less (fun _ hr => (mt (mt hr))))
                     refine ny ?_
                     refine twq 0 14 38 52 31 14630895 14647278 (fun K hK => ?_) (fun K hK => ?_)
                     ·refine vq ?_
                      refine hK.out _ _ (HS _ (HH.out.wr.sr.less (fun _ hr => (mt (mt hr))))) (fun hHeld => ?_)
                      clear hK K
                      refine nx 38 ?_
                      exact nz (hJ0_3_20 (wn.heap.size, b3, b20) _ (HH.out.wr))
                     ·refine vq ?_
                      refine hK.out _ _ (HS _ ((HH.out.row _).less (fun _ hr => (mt (mt (mt hr)))))) (fun hHeld => ?_)
                      clear hK K
                      refine nx 52 ?_
                      exact nz (hJ3_14_20 (b3, wn.heap.size, b20) _ ((HH.out.row _).less (mc (mt mh) (mc mh (mc (mt (mt mh)) (fun _ hr => (mt (mt (mt hr)))))))))
                   ·rintro ⟨b3, b14⟩ wn hh
                    have HH := Lib.hid hh
                    clear hh
                    have hHeld := HS _ (HH.out.less (fun _ hr => (mt (mt hr))))
                    refine ny ?_
                    refine twq 0 20 38 58 31 13598703 14647278 (fun K hK => ?_) (fun K hK => ?_)
                    ·refine vq ?_
                     refine hK.out _ _ (HS _ (HH.out.wr.sr.less (fun _ hr => (mt (mt hr))))) (fun hHeld => ?_)
                     clear hK K
                     refine nx 38 ?_
                     exact nz (hJ0_3_14 (wn.heap.size, b3, b14) _ (HH.out.wr))
                    ·refine vq ?_
                     refine hK.out _ _ (HS _ ((HH.out.row _).less (fun _ hr => (mt (mt (mt hr)))))) (fun hHeld => ?_)
                     clear hK K
                     refine nx 58 ?_
                     exact nz (hJ3_14_20 (b3, b14, wn.heap.size) _ ((HH.out.row _).less (mc (mt mh) (mc (mt (mt mh)) (mc mh (fun _ hr => (mt (mt (mt hr)))))))))
                  ·rintro ⟨gw, b20⟩ wn hh
                   have HH := Lib.hid hh
                   clear hh
                   have hHeld := HS _ (HH.out.sr.less (fun _ hr => (mt hr)))
                   refine ny ?_
                   refine twq 3 14 41 52 31 14630895 14647271 (fun K hK => ?_) (fun K hK => ?_)
                   ·refine vq ?_
                    refine hK.out _ _ (HS _ ((HH.out.row _).sr.less (fun _ hr => (mt (mt hr))))) (fun hHeld => ?_)
                    clear hK K
                    refine nx 41 ?_
                    exact nz (hJ0_3_20 (gw, wn.heap.size, b20) _ ((HH.out.row _).less (mc mh (mc (mt mh) (fun _ hr => (mt (mt hr)))))))
                   ·refine vq ?_
                    refine hK.out _ _ (HS _ ((HH.out.row _).sr.less (fun _ hr => (mt (mt hr))))) (fun hHeld => ?_)
                    clear hK K
                    refine nx 52 ?_
                    exact nz (hJ0_14_20 (gw, wn.heap.size, b20) _ ((HH.out.row _).less (mc mh (mc (mt mh) (fun _ hr => (mt (mt hr)))))))
                 ·rintro ⟨gw, b14⟩ wn hh
                  have HH := Lib.hid hh
                  clear hh
                  have hHeld := HS _ (HH.out.sr.less (fun _ hr => (mt hr)))
                  refine ny ?_
                  refine twq 3 20 41 58 31 13598703 14647271 (fun K hK => ?_) (fun K hK => ?_)
                  ·refine vq ?_
                   refine hK.out _ _ (HS _ ((HH.out.row _).sr.less (fun _ hr => (mt (mt hr))))) (fun hHeld => ?_)
                   clear hK K
                   refine nx 41 ?_
                   exact nz (hJ0_3_14 (gw, wn.heap.size, b14) _ ((HH.out.row _).less (mc mh (mc (mt mh) (fun _ hr => (mt (mt hr)))))))
                  ·refine vq ?_
                   refine hK.out _ _ (HS _ ((HH.out.row _).sr.less (fun _ hr => (mt (mt hr))))) (fun hHeld => ?_)
                   clear hK K
                   refine nx 58 ?_
                   exact nz (hJ0_14_20 (gw, b14, wn.heap.size) _ ((HH.out.row _).less (mc (mt mh) (mc mh (fun _ hr => (mt (mt hr)))))))
                ·rintro ⟨gw, b3⟩ wn hh
                 have HH := Lib.hid hh
                 clear hh
                 have hHeld := HS _ (HH.out.sr.less (fun _ hr => (mt hr)))
                 refine ny ?_
                 refine thq 4 14 20 42 52 58 31 13582335 13598703 14630895 (fun K hK => ?_) (fun K hK => ?_) (fun K hK => ?_)
                 ·refine gq Tryz.func46 #[.pointer (some ⟨gw, 0, none⟩), .int .i64 5, .slice (some ⟨b3, 0, none⟩) 1 1] ?_
                  with_reducible refine ((Sw.num 5 5 [g.s] b3 1 1 HH.out rfl rfl mh (by decide) (by decide) (by simp) HN5.out (by simp [bes_length]))).mono ?_
                  rintro e wn' ⟨rfl, hn⟩
                  refine ⟨_, rfl, ?_⟩
                  have HN := Lib.hid hn
                  clear hn
                  refine hK.out _ _ (HS _ (HN.out.sr.less (fun _ hr => (mt hr)))) (fun hHeld => ?_)
                  clear hK K
                  refine nx 42 ?_
                  exact nz (hJ0_3_4 (gw, b3) _ HN.out)
                 ·refine vq ?_
                  refine hK.out _ _ (HS _ ((HH.out.row _).sr.less (fun _ hr => (mt (mt hr))))) (fun hHeld => ?_)
                  clear hK K
                  refine nx 52 ?_
                  exact nz (hJ0_3_14 (gw, b3, wn.heap.size) _ ((HH.out.row _).less (mc (mt mh) (mc mh (fun _ hr => (mt (mt hr)))))))
                 ·refine vq ?_
                  refine hK.out _ _ (HS _ ((HH.out.row _).sr.less (fun _ hr => (mt (mt hr))))) (fun hHeld => ?_)
                  clear hK K
                  refine nx 58 ?_
                  exact nz (hJ0_3_20 (gw, b3, wn.heap.size) _ ((HH.out.row _).less (mc (mt mh) (mc mh (fun _ hr => (mt (mt hr)))))))
               ·rintro ⟨b3, b14, b20⟩ wn hh
                have HH := Lib.hid hh
                clear hh
                have hHeld := HS _ (HH.out.less (fun _ hr => (mt (mt (mt hr)))))
                refine ny ?_
                refine oq 0 38 31 14647279 (fun K hK => ?_)
                refine vq ?_
                refine hK.out _ _ (HS _ (HH.out.wr.sr.less (fun _ hr => (mt (mt (mt hr)))))) (fun hHeld => ?_)
                clear hK K
                refine nx 38 ?_
                exact nz (hJ0_3_14_20 (wn.heap.size, b3, b14, b20) _ (HH.out.wr))
              ·rintro ⟨gw, b14, b20⟩ wn hh
               have HH := Lib.hid hh
               clear hh
               have hHeld := HS _ (HH.out.sr.less (fun _ hr => (mt (mt hr))))
               refine ny ?_
               refine oq 3 41 31 14647279 (fun K hK => ?_)
               refine vq ?_
               refine hK.out _ _ (HS _ ((HH.out.row _).sr.less (fun _ hr => (mt (mt (mt hr)))))) (fun hHeld => ?_)
               clear hK K
               refine nx 41 ?_
               exact nz (hJ0_3_14_20 (gw, wn.heap.size, b14, b20) _ ((HH.out.row _).less (mc mh (mc (mt mh) (mc (mt (mt mh)) (fun _ hr => (mt (mt (mt hr)))))))))
             ·rintro ⟨gw, b3, b20⟩ wn hh
              have HH := Lib.hid hh
              clear hh
              have hHeld := HS _ (HH.out.sr.less (fun _ hr => (mt (mt hr))))
              refine ny ?_
              refine twq 4 14 42 52 31 14630911 14647279 (fun K hK => ?_) (fun K hK => ?_)
              ·refine gq Tryz.func46 #[.pointer (some ⟨gw, 0, none⟩), .int .i64 5, .slice (some ⟨b3, 0, none⟩) 1 1] ?_
               with_reducible refine ((Sw.num 5 5 [g.s] b3 1 1 HH.out rfl rfl mh (by decide) (by decide) (by simp) HN5.out (by simp [bes_length]))).mono ?_
               rintro e wn' ⟨rfl, hn⟩
               refine ⟨_, rfl, ?_⟩
               have HN := Lib.hid hn
               clear hn
               refine hK.out _ _ (HS _ (HN.out.sr.less (fun _ hr => (mt (mt hr))))) (fun hHeld => ?_)
               clear hK K
               refine nx 42 ?_
               exact nz (hJ0_3_4_20 (gw, b3, b20) _ HN.out)
              ·refine vq ?_
               refine hK.out _ _ (HS _ ((HH.out.row _).sr.less (fun _ hr => (mt (mt (mt hr)))))) (fun hHeld => ?_)
               clear hK K
               refine nx 52 ?_
               exact nz (hJ0_3_14_20 (gw, b3, wn.heap.size, b20) _ ((HH.out.row _).less (mc (mt mh) (mc mh (mc (mt (mt mh)) (fun _ hr => (mt (mt (mt hr)))))))))
            ·rintro ⟨gw, b3, b14⟩ wn hh
             have HH := Lib.hid hh
             clear hh
             have hHeld := HS _ (HH.out.sr.less (fun _ hr => (mt (mt hr))))
             refine ny ?_
             refine twq 4 20 42 58 31 13598719 14647279 (fun K hK => ?_) (fun K hK => ?_)
             ·refine gq Tryz.func46 #[.pointer (some ⟨gw, 0, none⟩), .int .i64 5, .slice (some ⟨b3, 0, none⟩) 1 1] ?_
              with_reducible refine ((Sw.num 5 5 [g.s] b3 1 1 HH.out rfl rfl mh (by decide) (by decide) (by simp) HN5.out (by simp [bes_length]))).mono ?_
              rintro e wn' ⟨rfl, hn⟩
              refine ⟨_, rfl, ?_⟩
              have HN := Lib.hid hn
              clear hn
              refine hK.out _ _ (HS _ (HN.out.sr.less (fun _ hr => (mt (mt hr))))) (fun hHeld => ?_)
              clear hK K
              refine nx 42 ?_
              exact nz (hJ0_3_4_14 (gw, b3, b14) _ HN.out)
             ·refine vq ?_
              refine hK.out _ _ (HS _ ((HH.out.row _).sr.less (fun _ hr => (mt (mt (mt hr)))))) (fun hHeld => ?_)
              clear hK K
              refine nx 58 ?_
              exact nz (hJ0_3_14_20 (gw, b3, b14, wn.heap.size) _ ((HH.out.row _).less (mc (mt mh) (mc (mt (mt mh)) (mc mh (fun _ hr => (mt (mt (mt hr)))))))))
           ·rintro ⟨gw, b3⟩ wn hh
            have HH := Lib.hid hh
            clear hh
            have hHeld := HS _ (HH.out.sr.less (fun _ hr => (mt hr)))
            refine ny ?_
            refine twq 14 20 52 58 31 13598719 14630911 (fun K hK => ?_) (fun K hK => ?_)
            ·refine vq ?_
             refine hK.out _ _ (HS _ ((HH.out.row _).sr.less (fun _ hr => (mt (mt hr))))) (fun hHeld => ?_)
             clear hK K
             refine nx 52 ?_
             exact nz (hJ0_3_4_14 (gw, b3, wn.heap.size) _ ((HH.out.row _).less (mc (mt mh) (mc mh (fun _ hr => (mt (mt hr)))))))
            ·refine vq ?_
             refine hK.out _ _ (HS _ ((HH.out.row _).sr.less (fun _ hr => (mt (mt hr))))) (fun hHeld => ?_)
             clear hK K
             refine nx 58 ?_
             exact nz (hJ0_3_4_20 (gw, b3, wn.heap.size) _ ((HH.out.row _).less (mc (mt mh) (mc mh (fun _ hr => (mt (mt hr)))))))
          ·rintro ⟨gw, b3, b14, b20⟩ wn hh
           have HH := Lib.hid hh
           clear hh
           have hHeld := HS _ (HH.out.sr.less (fun _ hr => (mt (mt (mt hr)))))
           refine ny ?_
           refine oq 4 42 31 14647295 (fun K hK => ?_)
           refine gq Tryz.func46 #[.pointer (some ⟨gw, 0, none⟩), .int .i64 5, .slice (some ⟨b3, 0, none⟩) 1 1] ?_
           with_reducible refine ((Sw.num 5 5 [g.s] b3 1 1 HH.out rfl rfl mh (by decide) (by decide) (by simp) HN5.out (by simp [bes_length]))).mono ?_
           rintro e wn' ⟨rfl, hn⟩
           refine ⟨_, rfl, ?_⟩
           have HN := Lib.hid hn
           clear hn
           refine hK.out _ _ (HS _ (HN.out.sr.less (fun _ hr => (mt (mt (mt hr)))))) (fun hHeld => ?_)
           clear hK K
           refine nx 42 ?_
           exact nz (hJ0_3_4_14_20 (gw, b3, b14, b20) _ HN.out)
         ·rintro ⟨gw, b3, b20⟩ wn hh
          have HH := Lib.hid hh
          clear hh
          have hHeld := HS _ (HH.out.sr.less (fun _ hr => (mt (mt hr))))
          refine ny ?_
          refine oq 14 52 31 14647295 (fun K hK => ?_)
          refine vq ?_
          refine hK.out _ _ (HS _ ((HH.out.row _).sr.less (fun _ hr => (mt (mt (mt hr)))))) (fun hHeld => ?_)
          clear hK K
          refine nx 52 ?_
          exact nz (hJ0_3_4_14_20 (gw, b3, wn.heap.size, b20) _ ((HH.out.row _).less (mc (mt mh) (mc mh (mc (mt (mt mh)) (fun _ hr => (mt (mt (mt hr)))))))))
        ·rintro ⟨gw, b3, b14⟩ wn hh
         have HH := Lib.hid hh
         clear hh
         have hHeld := HS _ (HH.out.sr.less (fun _ hr => (mt (mt hr))))
         refine ny ?_
         refine twq 15 20 53 58 31 13631487 14647295 (fun K hK => ?_) (fun K hK => ?_)
         ·refine gq Tryz.func46 #[.pointer (some ⟨gw, 0, none⟩), .int .i64 1, .slice (some ⟨b14, 0, none⟩) 3 3] ?_
          with_reducible refine ((Sw.num 1 1 [g.i, g.d, g.f] b14 3 3 HH.out rfl rfl (mt mh) (by decide) (by decide) (by simp) HN1.out (by simp [bes_length]))).mono ?_
          rintro e wn' ⟨rfl, hn⟩
          refine ⟨_, rfl, ?_⟩
          have HN := Lib.hid hn
          clear hn
          refine hK.out _ _ (HS _ (HN.out.sr.less (fun _ hr => (mt (mt hr))))) (fun hHeld => ?_)
          clear hK K
          refine nx 53 ?_
          exact nz (hJ0_3_4_14_15 (gw, b3, b14) _ HN.out)
         ·refine vq ?_
          refine hK.out _ _ (HS _ ((HH.out.row _).sr.less (fun _ hr => (mt (mt (mt hr)))))) (fun hHeld => ?_)
          clear hK K
          refine nx 58 ?_
          exact nz (hJ0_3_4_14_20 (gw, b3, b14, wn.heap.size) _ ((HH.out.row _).less (mc (mt mh) (mc (mt (mt mh)) (mc mh (fun _ hr => (mt (mt (mt hr)))))))))
       ·rintro ⟨gw, b3, b14, b20⟩ wn hh
        have HH := Lib.hid hh
        clear hh
        have hHeld := HS _ (HH.out.sr.less (fun _ hr => (mt (mt (mt hr)))))
        refine ny ?_
        refine oq 15 53 31 14680063 (fun K hK => ?_)
        refine gq Tryz.func46 #[.pointer (some ⟨gw, 0, none⟩), .int .i64 1, .slice (some ⟨b14, 0, none⟩) 3 3] ?_
        with_reducible refine ((Sw.num 1 1 [g.i, g.d, g.f] b14 3 3 HH.out rfl rfl (mt mh) (by decide) (by decide) (by simp) HN1.out (by simp [bes_length]))).mono ?_
        rintro e wn' ⟨rfl, hn⟩
        refine ⟨_, rfl, ?_⟩
        have HN := Lib.hid hn
        clear hn
        refine hK.out _ _ (HS _ (HN.out.sr.less (fun _ hr => (mt (mt (mt hr)))))) (fun hHeld => ?_)
        clear hK K
        refine nx 53 ?_
        exact nz (hJ0_3_4_14_15_20 (gw, b3, b14, b20) _ HN.out)
      ·rintro ⟨gw, b3, b14⟩ wn hh
       have HH := Lib.hid hh
       clear hh
       have hHeld := HS _ (HH.out.sr.less (fun _ hr => (mt (mt hr))))
       refine ny ?_
       refine oq 20 58 31 14680063 (fun K hK => ?_)
       refine vq ?_
       refine hK.out _ _ (HS _ ((HH.out.row _).sr.less (fun _ hr => (mt (mt (mt hr)))))) (fun hHeld => ?_)
       clear hK K
       refine nx 58 ?_
       exact nz (hJ0_3_4_14_15_20 (gw, b3, b14, wn.heap.size) _ ((HH.out.row _).less (mc (mt mh) (mc (mt (mt mh)) (mc mh (fun _ hr => (mt (mt (mt hr)))))))))
     rintro ⟨gw, b3, b14, b20⟩ wn hh
     have HH := Lib.hid hh
     clear hh
     have hHeld := HS _ (HH.out.sr.less (fun _ hr => (mt (mt (mt hr)))))
     refine ny ?_
     refine oq 21 59 31 16777215 (fun K hK => ?_)
     refine gq Tryz.func46 #[.pointer (some ⟨gw, 0, none⟩), .int .i64 4, .slice (some ⟨b20, 0, none⟩) 1 1] ?_
     with_reducible refine ((Sw.num 4 4 [g.t] b20 1 1 HH.out rfl rfl (mt (mt mh)) (by decide) (by decide) (by simp) HN4.out (by simp [bes_length]))).mono ?_
     rintro e wq ⟨rfl, hn⟩
     refine ⟨_, rfl, ?_⟩
     have HQ := Lib.hid hn
     clear hn
     refine hK.out _ _ (HS _ (HQ.out.sr.less (fun _ hr => mt (mt (mt hr))))) (fun hHeld => ?_)
     clear hK K
     refine nx 59 ?_
     refine oq 24 62 31 33554431 (fun K hK => ?_)
     refine gq Tryz.func72 #[y.v] ?_
     with_reducible refine ((LogLen_call (HY.out.below HQ.out.bel))).mono ?_
     rintro e wr1 ⟨rfl, hb_⟩
     refine ⟨_, rfl, ?_⟩
     have HQ1 := Lib.hid (HQ.out.below hb_)
     clear hb_
     refine hK.out _ _ (HS _ (HQ1.out.sr.less (fun _ hr => mt (mt (mt hr))))) (fun hHeld => ?_)
     clear hK K
     refine nx 62 ?_
     refine oq 25 63 31 67108863 (fun K hK => ?_)
     refine gq Tryz.func71 #[y.v, .int .i64 12] ?_
     with_reducible refine ((whole_call (HY.out.below HQ1.out.bel) HK.out 12 (by omega) (by omega))).mono ?_
     rintro e wr2 ⟨rfl, hb_⟩
     refine ⟨_, rfl, ?_⟩
     have HQ2 := Lib.hid (HQ1.out.below hb_)
     clear hb_
     refine hK.out _ _ (HS _ (HQ2.out.sr.less (fun _ hr => mt (mt (mt hr))))) (fun hHeld => ?_)
     clear hK K
     refine nx 63 ?_
     refine oq 26 64 31 134217727 (fun K hK => ?_)
     refine gq Tryz.func70 #[.pointer (some ⟨gw, 0, none⟩), .int .i64 (y.whole 12)] ?_
     with_reducible refine ((Sealed_len (y.whole 12) HQ2.out.wt HL.out.1 HL.out.2)).mono ?_
     rintro e wr3 ⟨v7, rfl, hv7, hb_⟩
     refine ⟨_, rfl, ?_⟩
     have HV7 := Lib.hid hv7
     have HQ3 := Lib.hid (HQ2.out.sr.below hb_)
     clear hb_ hv7
     refine hK.out _ _ (HS _ (HQ3.out.less (fun _ hr => mt (mt (mt hr))))) (fun hHeld => ?_)
     clear hK K
     refine nx 64 ?_
     refine pq 27 65 31 268435455 ?_
     refine pq 28 66 31 536870911 ?_
     refine pq 29 4 31 1073741823 ?_
     refine pq 30 5 31 2147483647 ?_
     refine done_ (by kernel_rfl) ?_
     go_wp2
     have hO := HO.out
     simp only [Bool.true_and] at hO
     refine bodyPost_ret (v := .tuple #[v7, .int .i64 0]) ?_ rfl ?_
     ·simp [results, Tryz.results19, go_sem]
     ·unfold LogPost; rw [hO, if_pos rfl, if_pos rfl]; exact ⟨_, rfl, R_low HV7.out HQ2.out.bel.size, HQ3.out.bel⟩
end Go.Proofs.YtmbnomlkhmcmaaaGreat.A
end
section
namespace Go.Proofs.YtmbnomlkhmcmaaaGreat.A
open Go.RowKit Go.Shelf Go.Proofs.YtmbnomlkhmcmaaaGreatW.PrintWords Go.Proofs.YtmbnomlkhmcmaaaGreatW.PrintLast Go.Proofs.YtmbnomlkhmcmaaaGreatW.PrintMore Go.Proofs.YtmbnomlkhmcmaaaGreat.B Go.Proofs.YtmbnomlkhmcmaaaGreat.C
set_option linter.unusedVariables false
set_option linter.unusedSimpArgs false
theorem mayF_mem : ∀ (l : List Bk) (seen : List Int), mayF seen l = true → ∀ b ∈ l, 0 ≤ b.f0 ∧ b.f0 < 64 ∧ b.f1.length = 37
 | [], _, _, b, hb => by cases hb
 | x :: l, seen, h, b, hb => by
  unfold mayF at h
  by_cases h0 : x.f0 < 0
  ·rw [if_pos h0] at h; cases h
  ·rw [if_neg h0] at h
   by_cases h1 : x.f0 ≥ 64
   ·rw [if_pos h1] at h; cases h
   ·rw [if_neg h1] at h
    by_cases h2 : x.f0 ∈ seen
    ·rw [if_pos h2] at h; cases h
    ·rw [if_neg h2] at h
     by_cases h3 : x.f1.length = 37
     ·rw [if_pos h3] at h
      rcases List.mem_cons.1 hb with rfl | hb
      ·exact ⟨by omega, by omega, h3⟩
      ·exact mayF_mem l _ h b hb
     ·rw [if_neg h3] at h; cases h
theorem nodup_len : ∀ (n : Nat) (l : List Int), l.Nodup → (∀ x ∈ l, 0 ≤ x ∧ x < (n : Int)) → l.length ≤ n
 | 0, l, _, h => by
  cases l with
  | nil => exact Nat.le_refl _
  | cons a l => have := h a List.mem_cons_self; omega
 | n + 1, l, hn, h => by
  by_cases hm : (n : Int) ∈ l
  ·have h1 := nodup_len n (l.erase (n : Int)) (hn.erase _) (fun x hx => by
    have h2 := (hn.mem_erase_iff).1 hx
    have h3 := h x h2.2
    have h4 := h2.1
    exact ⟨h3.1, by omega⟩)
   rw [List.length_erase_of_mem hm] at h1
   omega
  ·have h1 := nodup_len n l hn (fun x hx => by
    have h3 := h x hx
    have h4 : x ≠ (n : Int) := fun e => hm (e ▸ hx)
    exact ⟨h3.1, by omega⟩)
   omega
theorem okEs_spec {y : Ly} : ∀ (l : List Et) (ids : List Int), okEs y ids l = true → (∀ x ∈ l, enB y x.f0 x.f1 = true) ∧ (ids.Nodup → (ids ++ l.map (·.f1)).Nodup)
 | [], ids, _ => ⟨fun x hx => (by cases hx), fun h => by simpa using h⟩
 | x :: l, ids, h => by
  unfold okEs at h
  by_cases h1 : enB y x.f0 x.f1 = true
  ·rw [if_pos h1] at h
   by_cases h2 : ids.contains x.f1 = true
   ·rw [if_pos h2] at h; cases h
   ·rw [if_neg h2] at h
    obtain ⟨h3, h4⟩ := okEs_spec l _ h
    refine ⟨fun z hz => ?_, fun hn => ?_⟩
    ·rcases List.mem_cons.1 hz with rfl | hz
     ·exact h1
     ·exact h3 z hz
    ·have h5 : x.f1 ∉ ids := fun hm => h2 (by simpa using hm)
     have h6 := h4 (by
      rw [List.nodup_append]
      exact ⟨hn, by simp, fun a ha b hb => by rw [List.mem_singleton.1 hb]; rintro rfl; exact h5 ha⟩)
     simpa using h6
  ·rw [if_neg h1] at h; cases h
theorem eqB_length {a b : List Int} (h : eqB a b = true) : a.length = b.length := by
 unfold eqB at h
 have h1 := congrArg List.length (beq_iff_eq.1 h)
 rw [ByteArray.toList_eq, ByteArray.toList_eq, strOfNums_data, strOfNums_data, List.length_map, List.length_map] at h1
 exact h1
theorem blk_ok {y : Ly} {K : List Bk} (h : stOk y K = true) : (K.length : Int) ≤ y.c6 ∧ ∀ b ∈ K, b.f1.length = 37 ∧ okN 1 b.f0 := by
 unfold stOk at h
 simp only [Bool.and_eq_true, decide_eq_true_eq] at h
 refine ⟨h.2.1, fun b hb => ?_⟩
 obtain ⟨h1, h2, h3⟩ := mayF_mem K [] h.2.2.1 b hb
 exact ⟨h3, by omega, by rw [show (2 : Int) ^ (8 * 1) - 1 = 255 from rfl]; omega⟩
theorem okN1 {n b : Int} (h : amB n b = true) (hb : b < 255) : okN 1 n := okN_of h (by rw [show (2 : Int) ^ (8 * 1) - 1 = 255 from rfl]; exact hb)
theorem okN4 {n : Int} (h : amB n 4294967294 = true) : okN 4 n := okN_of h (by decide)
theorem De.ok_of {y : Ly} {d : De} (ok : y.Ok) (h : okDelta y d = true) : d.Ok y := by
 have hl := Ly.lv_le ok
 have ok2 := ok
 unfold Ly.Ok at ok2
 unfold okDelta fewD lfB at h
 simp only [Bool.and_eq_true, decide_eq_true_eq, List.all_eq_true] at h
 obtain ⟨h1, h2, h3, ⟨h4, h5, h6⟩, h7, h8, h9, h10⟩ := h
 refine ⟨ok5 h7, ⟨h4, fun n hn => okN1 (h1 n hn) (by omega)⟩, ⟨h5, fun x hx => ?_⟩, ⟨h6, fun x hx => ?_⟩, blk_ok h10⟩
 ·have h := h2 x hx
  unfold chOk plB at h
  simp only [Bool.and_eq_true] at h
  refine ⟨fun n hn => ?_, fun n hn => ?_⟩
  ·rcases List.mem_cons.1 hn with rfl | hn
   ·exact okN1 h.1 (by omega)
   ·rw [List.mem_singleton.1 hn]; exact okN1 h.2.1 (by omega)
  ·rw [List.mem_singleton.1 hn]; exact okN4 h.2.2
 ·have h := h3 x hx
  unfold diOk enB at h
  simp only [Bool.and_eq_true, decide_eq_true_eq] at h
  exact ⟨by omega, okN1 h.2 (by omega)⟩
theorem Fu.ok_of {y : Ly} {d : Fu} (ok : y.Ok) (h : okFull y d = true) : d.Ok y := by
 have hl := Ly.lv_le ok
 have ok2 := ok
 unfold Ly.Ok at ok2
 unfold okFull at h
 simp only [Bool.and_eq_true, decide_eq_true_eq, List.all_eq_true] at h
 obtain ⟨h1, h2, h3, h4, h7, h8, h10⟩ := h
 obtain ⟨e1, e2⟩ := okEs_spec d.E [] h1
 have e3 := e2 List.nodup_nil
 rw [List.nil_append] at e3
 refine ⟨ok5 h7, ⟨h4, fun x hx => ?_⟩, ⟨?_, fun x hx => ?_⟩, ?_, blk_ok h10⟩
 ·have h := h2 x hx
  unfold plOk plB at h
  simp only [Bool.and_eq_true] at h
  refine ⟨fun n hn => ?_, fun n hn => ?_⟩
  ·rw [List.mem_singleton.1 hn]; exact okN1 h.1 (by omega)
  ·rw [List.mem_singleton.1 hn]; exact okN4 h.2
 ·have h5 := nodup_len y.c2.toNat _ e3 (fun z hz => by
   obtain ⟨x, hx, rfl⟩ := List.mem_map.1 hz
   have h := e1 x hx
   unfold enB amB at h
   simp only [Bool.and_eq_true, decide_eq_true_eq] at h
   exact ⟨h.2.1, by omega⟩)
  rw [List.length_map] at h5
  omega
 ·have h := e1 x hx
  unfold enB at h
  simp only [Bool.and_eq_true, decide_eq_true_eq] at h
  exact ⟨by omega, okN1 h.2 (by omega)⟩
 ·have h5 := eqB_length h3
  rw [pack_bits_length] at h5
  unfold Ly.nb at h5
  unfold Ly.vl
  omega
def EncPost (b : Bool) (bs : List Int) (w : World) (e : Ending) (w' : World) : Prop :=
 ∃ v, e = .returned (.tuple #[v, .int .i64 (if b = true then 0 else 1)]) ∧ Kd.R (Kd.int .u8) 5 w' w.heap.size (fun _ => True) v (if b = true then bs else []) ∧ Below w.heap.size w w'
theorem De.R.below {d : De} {w W : World} (hd : d.R w) (hb : Below w.heap.size w W) : d.R W := ⟨Kd.C_below hd.rl hb, Kd.C_below hd.rp hb, Kd.C_below hd.rd hb, Kd.C_below hd.rk hb⟩
set_option maxHeartbeats 4000000 in
set_option maxRecDepth 100000 in
theorem EncodeDelta_call {y : Ly} {w : World} (hy : y.R w) (ok : y.Ok) (d : De) (hd : d.R w) (hL : d.L.length ≤ 300) (hP : d.P.length ≤ 300) (hD : d.D.length ≤ 300) (hK : d.K.length ≤ 300) (hKc : d.K.length ≤ d.Kc) :
  Calls Tryz.prog 16 #[y.v, d.v] w (EncPost (okDelta y d) (fill (dB6 y d) (y.whole y.deltaLen).toNat) w) := by
 have may := fun W (hb : Below w.heap.size w W) => mayD_call (hy.below hb) ok d (hd.below hb) hL hP hD hK hKc
 by_cases h : okDelta y d = true
 ·refine (EncodeDelta_ok hy ok d hd (De.ok_of ok h) (fun W hb => by have := may W hb; rwa [h] at this)).mono ?_
  rintro e w' ⟨v, rfl, hv, hb⟩
  unfold EncPost
  rw [if_pos h, if_pos h]
  exact ⟨v, rfl, hv, hb⟩
 ·have HM := Lib.hid may
  have HF := Lib.hid (Bool.eq_false_iff.2 h)
  clear may hd hy ok hL hP hD hK hKc h
  obtain ⟨n0, hn0⟩ : ∃ n, d.L.length = n := ⟨_, rfl⟩
  obtain ⟨n1, hn1⟩ : ∃ n, d.P.length = n := ⟨_, rfl⟩
  obtain ⟨n2, hn2⟩ : ∃ n, d.D.length = n := ⟨_, rfl⟩
  obtain ⟨n3, hn3⟩ : ∃ n, d.K.length = n := ⟨_, rfl⟩
  have HM2 := Lib.hid (show ∀ W, Below w.heap.size w W → Calls Tryz.prog 61 #[.agg #[.int .i64 d.s, .int .i64 d.e, .slice d.LA n0 d.Lc, .slice d.PA n1 d.Pc, .slice d.DA n2 d.Dc, .slice d.KA n3 d.Kc], y.v] W fun e w' => e = .returned (.bool (okDelta y d)) ∧ Below W.heap.size W w' from by rw [← hn0, ← hn1, ← hn2, ← hn3]; exact HM.out)
  show Calls _ _ #[y.v, .agg #[.int .i64 d.s, .int .i64 d.e, .slice d.LA d.L.length d.Lc, .slice d.PA d.P.length d.Pc, .slice d.DA d.D.length d.Dc, .slice d.KA d.K.length d.Kc]] _ _
  rw [hn0, hn1, hn2, hn3]
  clear HM hn0 hn1 hn2 hn3
  go_enter Tryz.func16, Tryz.ntmps16
  go_wp2_with (first
   | ((with_reducible refine gate_dst (N := 2) rfl ?_); refine box_event ?hg (N := 2) ?hd (cs := #[.int .i64 y.c0, .int .i64 y.c1, .int .i64 y.c2, .int .i64 y.c3, .int .i64 y.c4, .int .i64 y.c5, .int .i64 y.c6, .int .i64 y.c7, .int .i64 y.c8, .int .i64 y.c9, .slice y.A y.l.length y.cap]) (t := 46) ?hr ?_; (case hd => rfl); (case hg => rfl); (case hr => first | (go_simp; done) | (go_simp; rfl)); intro gl hg_ wgl hbox_ hb_; have HX1 := Lib.hid (Sr.box (Sr.nil w) hg_ hbox_ hb_); clear hbox_ hb_ hg_)
   | ((with_reducible refine gate_dst (N := 3) rfl ?_); refine box_event ?hg (N := 3) ?hd (cs := #[.int .i64 d.s, .int .i64 d.e, .slice d.LA n0 d.Lc, .slice d.PA n1 d.Pc, .slice d.DA n2 d.Dc, .slice d.KA n3 d.Kc]) (t := 37) ?hr ?_; (case hd => rfl); (case hg => rfl); (case hr => first | (go_simp; done) | (go_simp; rfl)); intro gd hg_ wgd hbox_ hb_; have HX2 := Lib.hid (Sr.box HX1.out hg_ hbox_ hb_); have qd0 := HX2.out.cell mh 0 rfl; have qd1 := HX2.out.cell mh 1 rfl; have qd2 := HX2.out.cell mh 2 rfl; have qd3 := HX2.out.cell mh 3 rfl; have qd4 := HX2.out.cell mh 4 rfl; have qd5 := HX2.out.cell mh 5 rfl; have ql0 := HX2.out.cell (mt mh) 0 rfl; have ql1 := HX2.out.cell (mt mh) 1 rfl; have ql2 := HX2.out.cell (mt mh) 2 rfl; have ql3 := HX2.out.cell (mt mh) 3 rfl; have ql4 := HX2.out.cell (mt mh) 4 rfl; have ql5 := HX2.out.cell (mt mh) 5 rfl; have ql6 := HX2.out.cell (mt mh) 6 rfl; have ql7 := HX2.out.cell (mt mh) 7 rfl; have ql8 := HX2.out.cell (mt mh) 8 rfl; have ql9 := HX2.out.cell (mt mh) 9 rfl; have ql10 := HX2.out.cell (mt mh) 10 rfl; clear hbox_ hb_ hg_)
   | fail)
  with_reducible refine (HM2.out _ HX2.out.bel).mono ?_
  rw [HF.out]
  rintro e w3 ⟨rfl, hb_⟩
  have HX3 := Lib.hid (HX2.out.below hb_)
  clear hb_ qd0 qd1 qd2 qd3 qd4 qd5 ql0 ql1 ql2 ql3 ql4 ql5 ql6 ql7 ql8 ql9 ql10 HX1 HX2
  go_wp2_with fail
  refine bodyPost_ret (v := .tuple #[.slice none 0 0, .int .i64 1]) ?_ rfl ?_
  ·simp [results, Tryz.results16, go_sem]
  ·unfold EncPost
   rw [HF.out]
   exact ⟨_, rfl, Kd.R_nil _ _ _ _ _, HX3.out.bel⟩
theorem Fu.R.below {d : Fu} {w W : World} (hd : d.R w) (hb : Below w.heap.size w W) : d.R W := ⟨Kd.C_below hd.rp hb, Kd.C_below hd.re hb, Kd.C_below hd.rv hb, hd.ru, Kd.C_below hd.rk hb⟩
set_option maxHeartbeats 4000000 in
set_option maxRecDepth 100000 in
theorem EncodeFull_call {y : Ly} {w : World} (hy : y.R w) (ok : y.Ok) (d : Fu) (hd : d.R w) (hE : d.E.length ≤ 300) (hP : d.P.length ≤ 300) (hV : d.V.length ≤ 300) (hVc : d.V.length ≤ d.Vc) (hK : d.K.length ≤ 300) (hKc : d.K.length ≤ d.Kc) :
  Calls Tryz.prog 12 #[y.v, d.v] w (EncPost (okFull y d) (fill (fB6 y d) (y.whole y.fullLen).toNat) w) := by
 have may := fun W (hb : Below w.heap.size w W) => mayF_call (hy.below hb) ok d (hd.below hb) hE hP hV hVc hK hKc
 by_cases h : okFull y d = true
 ·refine (EncodeFull_ok hy ok d hd (Fu.ok_of ok h) (fun W hb => by have := may W hb; rwa [h] at this)).mono ?_
  rintro e w' ⟨v, rfl, hv, hb⟩
  unfold EncPost
  rw [if_pos h, if_pos h]
  exact ⟨v, rfl, hv, hb⟩
 ·have HM := Lib.hid may
  have HF := Lib.hid (Bool.eq_false_iff.2 h)
  clear may hd hy ok hE hP hV hVc hK hKc h
  obtain ⟨n0, hn0⟩ : ∃ n, d.P.length = n := ⟨_, rfl⟩
  obtain ⟨n1, hn1⟩ : ∃ n, d.E.length = n := ⟨_, rfl⟩
  obtain ⟨n2, hn2⟩ : ∃ n, d.V.length = n := ⟨_, rfl⟩
  obtain ⟨n3, hn3⟩ : ∃ n, d.K.length = n := ⟨_, rfl⟩
  have HM2 := Lib.hid (show ∀ W, Below w.heap.size w W → Calls Tryz.prog 45 #[.agg #[.int .i64 d.s, .int .i64 d.e, .slice d.PA n0 d.Pc, .slice d.EA n1 d.Ec, .slice d.VA n2 d.Vc, .slice d.KA n3 d.Kc], y.v] W fun e w' => e = .returned (.bool (okFull y d)) ∧ Below W.heap.size W w' from by rw [← hn0, ← hn1, ← hn2, ← hn3]; exact HM.out)
  show Calls _ _ #[y.v, .agg #[.int .i64 d.s, .int .i64 d.e, .slice d.PA d.P.length d.Pc, .slice d.EA d.E.length d.Ec, .slice d.VA d.V.length d.Vc, .slice d.KA d.K.length d.Kc]] _ _
  rw [hn0, hn1, hn2, hn3]
  clear HM hn0 hn1 hn2 hn3
  go_enter Tryz.func12, Tryz.ntmps12
  go_wp2_with (first
   | ((with_reducible refine gate_dst (N := 2) rfl ?_); refine box_event ?hg (N := 2) ?hd (cs := #[.int .i64 y.c0, .int .i64 y.c1, .int .i64 y.c2, .int .i64 y.c3, .int .i64 y.c4, .int .i64 y.c5, .int .i64 y.c6, .int .i64 y.c7, .int .i64 y.c8, .int .i64 y.c9, .slice y.A y.l.length y.cap]) (t := 46) ?hr ?_; (case hd => rfl); (case hg => rfl); (case hr => first | (go_simp; done) | (go_simp; rfl)); intro gl hg_ wgl hbox_ hb_; have HX1 := Lib.hid (Sr.box (Sr.nil w) hg_ hbox_ hb_); clear hbox_ hb_ hg_)
   | ((with_reducible refine gate_dst (N := 3) rfl ?_); refine box_event ?hg (N := 3) ?hd (cs := #[.int .i64 d.s, .int .i64 d.e, .slice d.PA n0 d.Pc, .slice d.EA n1 d.Ec, .slice d.VA n2 d.Vc, .slice d.KA n3 d.Kc]) (t := 32) ?hr ?_; (case hd => rfl); (case hg => rfl); (case hr => first | (go_simp; done) | (go_simp; rfl)); intro gd hg_ wgd hbox_ hb_; have HX2 := Lib.hid (Sr.box HX1.out hg_ hbox_ hb_); have qd0 := HX2.out.cell mh 0 rfl; have qd1 := HX2.out.cell mh 1 rfl; have qd2 := HX2.out.cell mh 2 rfl; have qd3 := HX2.out.cell mh 3 rfl; have qd4 := HX2.out.cell mh 4 rfl; have qd5 := HX2.out.cell mh 5 rfl; have ql0 := HX2.out.cell (mt mh) 0 rfl; have ql1 := HX2.out.cell (mt mh) 1 rfl; have ql2 := HX2.out.cell (mt mh) 2 rfl; have ql3 := HX2.out.cell (mt mh) 3 rfl; have ql4 := HX2.out.cell (mt mh) 4 rfl; have ql5 := HX2.out.cell (mt mh) 5 rfl; have ql6 := HX2.out.cell (mt mh) 6 rfl; have ql7 := HX2.out.cell (mt mh) 7 rfl; have ql8 := HX2.out.cell (mt mh) 8 rfl; have ql9 := HX2.out.cell (mt mh) 9 rfl; have ql10 := HX2.out.cell (mt mh) 10 rfl; clear hbox_ hb_ hg_)
   | fail)
  with_reducible refine (HM2.out _ HX2.out.bel).mono ?_
  rw [HF.out]
  rintro e w3 ⟨rfl, hb_⟩
  have HX3 := Lib.hid (HX2.out.below hb_)
  clear hb_ qd0 qd1 qd2 qd3 qd4 qd5 ql0 ql1 ql2 ql3 ql4 ql5 ql6 ql7 ql8 ql9 ql10 HX1 HX2
  go_wp2_with fail
  refine bodyPost_ret (v := .tuple #[.slice none 0 0, .int .i64 1]) ?_ rfl ?_
  ·simp [results, Tryz.results12, go_sem]
  ·unfold EncPost
   rw [HF.out]
   exact ⟨_, rfl, Kd.R_nil _ _ _ _ _, HX3.out.bel⟩
end Go.Proofs.YtmbnomlkhmcmaaaGreat.A
end
