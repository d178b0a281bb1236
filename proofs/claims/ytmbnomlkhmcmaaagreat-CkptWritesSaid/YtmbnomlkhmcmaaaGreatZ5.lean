/- Part of the proof of LawCkptWrites. -/
import Derived.Test.YtmbnomlkhmcmaaaGreatZ4
section
namespace Go.Proofs.YtmbnomlkhmcmaaaGreat.A
open Go.RowKit Go.Shelf Go.Proofs.YtmbnomlkhmcmaaaGreatW.PrintWords Go.Proofs.YtmbnomlkhmcmaaaGreatW.PrintLast Go.Proofs.YtmbnomlkhmcmaaaGreat.B Go.Proofs.YtmbnomlkhmcmaaaGreat.C Go.Proofs.YtmbnomlkhmcmaaaGreat.Z
set_option linter.unusedVariables false
set_option linter.unusedSimpArgs false
abbrev Ch := S138
abbrev Di := S109
structure De where
 (s e : Int)
 (L : List Int) (P : List Ch) (D : List Di) (K : List Bk)
 (LA PA DA KA : Option Addr) (Lc Pc Dc Kc : Nat)
abbrev De.v (d : De) : Value := .agg #[.int .i64 d.s, .int .i64 d.e, .slice d.LA d.L.length d.Lc, .slice d.PA d.P.length d.Pc, .slice d.DA d.D.length d.Dc, .slice d.KA d.K.length d.Kc]
abbrev De.obj (d : De) : Obj := .cells #[.int .i64 d.s, .int .i64 d.e, .slice d.LA d.L.length d.Lc, .slice d.PA d.P.length d.Pc, .slice d.DA d.D.length d.Dc, .slice d.KA d.K.length d.Kc] 37
structure De.R (d : De) (w : World) : Prop where
 rl : Kd.C (Kd.int .i64) w d.LA d.L.length d.L
 rp : Kd.C k138 w d.PA d.P.length d.P
 rd : Kd.C k109 w d.DA d.D.length d.D
 rk : Kd.C k170 w d.KA d.K.length d.K
def chB (p : Ch) : List Int := bes 1 [p.f0, p.f1.f0] ++ bes 4 [p.f1.f1]
def flag (x : Di) : Int := if x.f0 = true then 0 else 1
def diB (x : Di) : List Int := bes 1 [flag x, x.f1.f1] ++ strL x.f1.f0
structure De.Ok (y : Ly) (d : De) : Prop where
 hc : ∀ n ∈ [d.s, d.e], okN 5 n
 hl : (d.L.length : Int) ≤ y.slots ∧ ∀ n ∈ d.L, okN 1 n
 hp : (d.P.length : Int) ≤ y.slots ∧ ∀ x ∈ d.P, (∀ n ∈ [x.f0, x.f1.f0], okN 1 n) ∧ ∀ n ∈ [x.f1.f1], okN 4 n
 hd : (d.D.length : Int) ≤ y.c5 ∧ ∀ x ∈ d.D, x.f1.f0.size = 10 ∧ okN 1 x.f1.f1
 hk : (d.K.length : Int) ≤ y.c6 ∧ ∀ b ∈ d.K, b.f1.length = 37 ∧ okN 1 b.f0
def zs (n : Int) : List Int := List.replicate n.toNat 0
def dB1 (y : Ly) (d : De) : List Int := bes 1 [1] ++ bes 5 [d.s, d.e]
def dB2 (y : Ly) (d : De) : List Int := dB1 y d ++ bes 1 [(d.L.length : Int)] ++ bes 1 d.L ++ zs (y.slots - d.L.length)
def dB3 (y : Ly) (d : De) : List Int := dB2 y d ++ bes 1 [(d.P.length : Int)]
def dB4 (y : Ly) (d : De) : List Int := dB3 y d ++ d.P.flatMap chB ++ zs (6 * (y.slots - d.P.length)) ++ bes 1 [(d.D.length : Int)]
def dB5 (y : Ly) (d : De) : List Int := dB4 y d ++ d.D.flatMap diB ++ zs (12 * (y.c5 - d.D.length))
def dB6 (y : Ly) (d : De) : List Int := dB5 y d ++ stashB y d.K
theorem flatC (l : List Ch) : (l.flatMap chB).length = 6 * l.length := by
 induction l with
 | nil => rfl
 | cons b l ih => rw [List.flatMap_cons, List.length_append, ih]; simp [chB, bes_length]; omega
theorem flatD : ∀ l : List Di, (∀ x ∈ l, x.f1.f0.size = 10) → (l.flatMap diB).length = 12 * l.length
 | [], _ => rfl
 | b :: l, h => by
  have h1 := h b List.mem_cons_self
  have h2 := flatD l (fun x hx => h x (List.mem_cons_of_mem _ hx))
  rw [List.flatMap_cons, List.length_append, h2]
  simp [diB, bes_length, strL_length, h1]
  omega
section
variable {y : Ly} {d : De}
theorem dB1_len : (dB1 y d).length = 11 := by simp [dB1, bes_length]
theorem dB2_len (ok : y.Ok) (h : d.Ok y) : ((dB2 y d).length : Int) = 12 + y.slots := by
 have h1 := Ly.slots_le ok
 have h2 := h.hl.1
 simp [dB2, dB1, bes_length, zs]
 omega
theorem dB3_len (ok : y.Ok) (h : d.Ok y) : ((dB3 y d).length : Int) = 13 + y.slots := by
 have h1 := dB2_len ok h
 unfold dB3
 rw [List.length_append, bes_length]
 simp
 omega
theorem dB4_len (ok : y.Ok) (h : d.Ok y) : ((dB4 y d).length : Int) = 14 + 7 * y.slots := by
 have h1 := dB3_len ok h
 have h2 := h.hp.1
 have h3 := Ly.slots_le ok
 unfold dB4
 rw [List.length_append, List.length_append, List.length_append, bes_length, flatC]
 simp [zs]
 omega
theorem dB5_len (ok : y.Ok) (h : d.Ok y) : ((dB5 y d).length : Int) = 14 + 7 * y.slots + 12 * y.c5 := by
 have h1 := dB4_len ok h
 have h2 := h.hd.1
 unfold dB5
 rw [List.length_append, List.length_append, flatD _ (fun x hx => (h.hd.2 x hx).1)]
 simp [zs]
 unfold Ly.Ok at ok
 omega
theorem dB6_len (ok : y.Ok) (h : d.Ok y) : ((dB6 y d).length : Int) = y.deltaLen := by
 have h1 := dB5_len ok h
 have h2 := h.hk.1
 unfold dB6 stashB Ly.deltaLen
 rw [List.length_append, List.length_append, List.length_append, bes_length, flat_len _ (fun x hx => (h.hk.2 x hx).1)]
 simp
 unfold Ly.Ok at ok
 omega
end
abbrev oEnI0 (d : De) (nL : Nat) (PA : Option Addr) (nP : Nat) (DA : Option Addr) (nD : Nat) (nK : Nat) : Obj := Obj.cells #[.int .i64 d.s, .int .i64 d.e, .slice d.LA nL d.Lc, .slice PA nP d.Pc, .slice DA nD d.Dc, .slice d.KA nK d.Kc] 37
abbrev oEnI1 (d : De) (nL : Nat) (PA : Option Addr) (nP : Nat) (ad : Addr) (nD : Nat) (nK : Nat) : Obj := Obj.cells #[.int .i64 d.s, .int .i64 d.e, .slice d.LA nL d.Lc, .slice PA nP d.Pc, .slice (some ad) nD d.Dc, .slice d.KA nK d.Kc] 37
abbrev oEnI2 (d : De) (nL : Nat) (ad : Addr) (nP : Nat) (DA : Option Addr) (nD : Nat) (nK : Nat) : Obj := Obj.cells #[.int .i64 d.s, .int .i64 d.e, .slice d.LA nL d.Lc, .slice (some ad) nP d.Pc, .slice DA nD d.Dc, .slice d.KA nK d.Kc] 37
abbrev oEnI3 (id : Int) (lf : Int) (tg : Int) : Obj := Obj.cells #[.int .i64 id, .int .i64 lf, .int .i64 tg] 138
set_option maxHeartbeats 16000000 in
set_option maxRecDepth 100000 in
theorem EncodeDelta_ok {y : Ly} {w : World} (hy : y.R w) (ok : y.Ok) (d : De) (hd : d.R w) (hok : d.Ok y) (may : ∀ W, Below w.heap.size w W → Calls Tryz.prog 61 #[d.v, y.v] W fun e w' => e = .returned (.bool true) ∧ Below W.heap.size W w') :
  Calls Tryz.prog 16 #[y.v, d.v] w fun e w' => ∃ v, e = .returned (.tuple #[v, .int .i64 0]) ∧ Kd.R (Kd.int .u8) 5 w' w.heap.size (fun _ => True) v (fill (dB6 y d) (y.whole y.deltaLen).toNat) ∧ Below w.heap.size w w' := by
 have HY := Lib.hid hy
 have HK := Lib.hid ok
 have HD := Lib.hid hd
 have HO := Lib.hid hok
 have HS40 := Lib.hid (Ly.slots_le ok)
 have HM := Lib.hid may
 obtain ⟨nL, hnL⟩ : ∃ n, d.L.length = n := ⟨_, rfl⟩
 obtain ⟨nP, hnP⟩ : ∃ n, d.P.length = n := ⟨_, rfl⟩
 obtain ⟨nD, hnD⟩ : ∃ n, d.D.length = n := ⟨_, rfl⟩
 obtain ⟨nK, hnK⟩ : ∃ n, d.K.length = n := ⟨_, rfl⟩
 obtain ⟨PA, hPA⟩ : ∃ p, d.PA = p := ⟨_, rfl⟩
 obtain ⟨DA, hDA⟩ : ∃ p, d.DA = p := ⟨_, rfl⟩
 have EP := Lib.hid hPA
 have ED := Lib.hid hDA
 have HRP := Lib.hid (show Kd.C k138 w PA d.P.length d.P from hPA ▸ hd.rp)
 have HRD := Lib.hid (show Kd.C k109 w DA d.D.length d.D from hDA ▸ hd.rd)
 have NL := Lib.hid hnL
 have NP := Lib.hid hnP
 have ND := Lib.hid hnD
 have NK := Lib.hid hnK
 show Calls _ _ #[y.v, .agg #[.int .i64 d.s, .int .i64 d.e, .slice d.LA d.L.length d.Lc, .slice d.PA d.P.length d.Pc, .slice d.DA d.D.length d.Dc, .slice d.KA d.K.length d.Kc]] _ _
 rw [hnL, hnP, hnD, hnK, hPA, hDA]
 clear hy ok hd hok may hnL hnP hnD hnK hPA hDA
 go_enter Tryz.func16, Tryz.ntmps16
 go_wp2_with (first
  | ((with_reducible refine gate_dst (N := 2) rfl ?_); refine box_event ?hg (N := 2) ?hd (cs := #[.int .i64 y.c0, .int .i64 y.c1, .int .i64 y.c2, .int .i64 y.c3, .int .i64 y.c4, .int .i64 y.c5, .int .i64 y.c6, .int .i64 y.c7, .int .i64 y.c8, .int .i64 y.c9, .slice y.A y.l.length y.cap]) (t := 46) ?hr ?_; (case hd => rfl); (case hg => rfl); (case hr => first | (go_simp; done) | (go_simp; rfl)); intro gl hg_ wgl hbox_ hb_; have HX1 := Lib.hid (Sr.box (Sr.nil w) hg_ hbox_ hb_); clear hbox_ hb_ hg_)
  | ((with_reducible refine gate_dst (N := 3) rfl ?_); refine box_event ?hg (N := 3) ?hd (cs := #[.int .i64 d.s, .int .i64 d.e, .slice d.LA nL d.Lc, .slice PA nP d.Pc, .slice DA nD d.Dc, .slice d.KA nK d.Kc]) (t := 37) ?hr ?_; (case hd => rfl); (case hg => rfl); (case hr => first | (go_simp; done) | (go_simp; rfl)); intro gd hg_ wgd hbox_ hb_; have HX2 := Lib.hid (Sr.box HX1.out hg_ hbox_ hb_); have qd0 := HX2.out.cell mh 0 rfl; have qd1 := HX2.out.cell mh 1 rfl; have qd2 := HX2.out.cell mh 2 rfl; have qd3 := HX2.out.cell mh 3 rfl; have qd4 := HX2.out.cell mh 4 rfl; have qd5 := HX2.out.cell mh 5 rfl; have ql0 := HX2.out.cell (mt mh) 0 rfl; have ql1 := HX2.out.cell (mt mh) 1 rfl; have ql2 := HX2.out.cell (mt mh) 2 rfl; have ql3 := HX2.out.cell (mt mh) 3 rfl; have ql4 := HX2.out.cell (mt mh) 4 rfl; have ql5 := HX2.out.cell (mt mh) 5 rfl; have ql6 := HX2.out.cell (mt mh) 6 rfl; have ql7 := HX2.out.cell (mt mh) 7 rfl; have ql8 := HX2.out.cell (mt mh) 8 rfl; have ql9 := HX2.out.cell (mt mh) 9 rfl; have ql10 := HX2.out.cell (mt mh) 10 rfl; clear hbox_ hb_ hg_)
  | fail)
 clear qd0 qd1 qd2 qd3 qd4 qd5 ql0 ql1 ql2 ql3 ql4 ql5 ql6 ql7 ql8 ql9 ql10
 have hm := HM.out _ HX2.out.bel
 rw [show d.v = .agg #[.int .i64 d.s, .int .i64 d.e, .slice d.LA nL d.Lc, .slice PA nP d.Pc, .slice DA nD d.Dc, .slice d.KA nK d.Kc] by rw [← NL.out, ← NP.out, ← ND.out, ← NK.out, ← EP.out, ← ED.out]] at hm
 refine hm.mono ?_
 clear hm
 rintro e w3 ⟨rfl, hb_⟩
 have HX3 := Lib.hid (HX2.out.below hb_)
 clear hb_ HX1 HX2
 go_upto_region 3 with fail
 have HO1 := Lib.hid (show ∀ n ∈ [(1 : Int)], okN 1 n from fun n hn => by rw [List.mem_singleton.1 hn]; exact ⟨by omega, by omega⟩)
 have HnL := Lib.hid (show ∀ n ∈ [(nL : Int)], okN 1 n from fun n hn => by rw [List.mem_singleton.1 hn]; have h1 := HS40.out; have h2 := HO.out.hl.1; have h3 := NL.out; exact ⟨by omega, by omega⟩)
 have HnP := Lib.hid (show ∀ n ∈ [(nP : Int)], okN 1 n from fun n hn => by rw [List.mem_singleton.1 hn]; have h1 := HS40.out; have h2 := HO.out.hp.1; have h3 := NP.out; exact ⟨by omega, by omega⟩)
 have HnD := Lib.hid (show ∀ n ∈ [(nD : Int)], okN 1 n from fun n hn => by rw [List.mem_singleton.1 hn]; have h1 := HK.out; unfold Ly.Ok at h1; have h2 := HO.out.hd.1; have h3 := ND.out; exact ⟨by omega, by omega⟩)
 have HS : ∀ w', Sr w [(gd, (oEnI0 d nL PA nP DA nD nK)), (gl, y.obj)] w' → w'.cell? ⟨gd, 0, none⟩ = some (.int .i64 d.s) ∧ w'.cell? ⟨gd, 1, none⟩ = some (.int .i64 d.e) := fun w' h => ⟨h.cell mh 0 rfl, h.cell mh 1 rfl⟩
 refine stq 12 0 (fun w' => w'.cell? ⟨gd, 0, none⟩ = some (.int .i64 d.s) ∧ w'.cell? ⟨gd, 1, none⟩ = some (.int .i64 d.e)) (HS _ (HX3.out.below (drewB _))) (fun hHeld => ?_)
 refine pq 3 19 12 8 ?_
 refine pq 4 20 12 24 ?_
 refine pq 6 22 12 88 ?_
 refine pq 7 23 12 216 ?_
 refine tq 5 21 12 248 hHeld ?_
 refine tq 8 24 12 504 hHeld ?_
 refine join_ (σ := Nat × Nat × Nat) 2 (bm 12 1023) (fun s => [(16, .pointer (some ⟨s.1, 0, none⟩)), (17, .slice (some ⟨s.2.1, 0, none⟩) 1 1), (18, .pointer (some ⟨s.1, 0, none⟩)), (25, .slice (some ⟨s.2.2, 0, none⟩) 2 2)]) (fun s w' => Sw w s.1 ([] ++ bes 1 [1]) ((s.2.1, rowo [1]) :: (s.2.2, rowo [d.s, d.e]) :: [(gd, (oEnI0 d nL PA nP DA nD nK)), (gl, y.obj)]) w') ?_ ?_
 rotate_left
 ·intro hJ0_1_2_9
  refine join_ (σ := Nat × Nat) 3 (bm 12 511) (fun s => [(16, .pointer (some ⟨s.1, 0, none⟩)), (17, .slice (some ⟨s.2, 0, none⟩) 1 1), (18, .pointer (some ⟨s.1, 0, none⟩))]) (fun s w' => Sw w s.1 ([] ++ bes 1 [1]) ((s.2, rowo [1]) :: [(gd, (oEnI0 d nL PA nP DA nD nK)), (gl, y.obj)]) w') ?_ ?_
  rotate_left
  ·intro hJ0_1_2
   refine join_ (σ := Nat × Nat × Nat) 3 (bm 12 1019) (fun s => [(16, .pointer (some ⟨s.1, 0, none⟩)), (17, .slice (some ⟨s.2.1, 0, none⟩) 1 1), (25, .slice (some ⟨s.2.2, 0, none⟩) 2 2)]) (fun s w' => Sw w s.1 [] ((s.2.1, rowo [1]) :: (s.2.2, rowo [d.s, d.e]) :: [(gd, (oEnI0 d nL PA nP DA nD nK)), (gl, y.obj)]) w') ?_ ?_
   rotate_left
   ·intro hJ0_1_9
    refine join_ (σ := Nat × Nat) 4 (bm 12 507) (fun s => [(16, .pointer (some ⟨s.1, 0, none⟩)), (17, .slice (some ⟨s.2, 0, none⟩) 1 1)]) (fun s w' => Sw w s.1 [] ((s.2, rowo [1]) :: [(gd, (oEnI0 d nL PA nP DA nD nK)), (gl, y.obj)]) w') ?_ ?_
    rotate_left
    ·intro hJ0_1
     refine join_ (σ := Nat × Nat) 4 (bm 12 1017) (fun s => [(16, .pointer (some ⟨s.1, 0, none⟩)), (25, .slice (some ⟨s.2, 0, none⟩) 2 2)]) (fun s w' => Sw w s.1 [] ((s.2, rowo [d.s, d.e]) :: [(gd, (oEnI0 d nL PA nP DA nD nK)), (gl, y.obj)]) w') ?_ ?_
     rotate_left
     ·intro hJ0_9
      refine join_ (σ := Nat × Nat) 4 (bm 12 1018) (fun s => [(17, .slice (some ⟨s.1, 0, none⟩) 1 1), (25, .slice (some ⟨s.2, 0, none⟩) 2 2)]) (fun s w' => Sr w ((s.1, rowo [1]) :: (s.2, rowo [d.s, d.e]) :: [(gd, (oEnI0 d nL PA nP DA nD nK)), (gl, y.obj)]) w') ?_ ?_
      rotate_left
      ·intro hJ1_9
       refine join_ (σ := Nat) 5 (bm 12 505) (fun s => [(16, .pointer (some ⟨s, 0, none⟩))]) (fun s w' => Sw w s [] ([(gd, (oEnI0 d nL PA nP DA nD nK)), (gl, y.obj)]) w') ?_ ?_
       rotate_left
       ·intro hJ0
        refine join_ (σ := Nat) 5 (bm 12 506) (fun s => [(17, .slice (some ⟨s, 0, none⟩) 1 1)]) (fun s w' => Sr w ((s, rowo [1]) :: [(gd, (oEnI0 d nL PA nP DA nD nK)), (gl, y.obj)]) w') ?_ ?_
        rotate_left
        ·intro hJ1
         refine join_ (σ := Nat) 5 (bm 12 1016) (fun s => [(25, .slice (some ⟨s, 0, none⟩) 2 2)]) (fun s w' => Sr w ((s, rowo [d.s, d.e]) :: [(gd, (oEnI0 d nL PA nP DA nD nK)), (gl, y.obj)]) w') ?_ ?_
         rotate_left
         ·intro hJ9
          refine thq 0 1 9 16 17 25 12 505 506 1016 (fun K hK => ?_) (fun K hK => ?_) (fun K hK => ?_)
          ·refine vq ?_
           refine hK.out _ _ (HS _ ((HX3.out.below (drewB _)).wr.sr.less (fun _ hr => hr))) (fun hHeld => ?_)
           clear hK K
           refine nx 16 ?_
           exact nz (hJ0 w3.drew.heap.size _ ((HX3.out.below (drewB _)).wr))
          ·refine vq ?_
           refine hK.out _ _ (HS _ (((HX3.out.below (drewB _)).row _).less (fun _ hr => (mt hr)))) (fun hHeld => ?_)
           clear hK K
           refine nx 17 ?_
           exact nz (hJ1 w3.drew.heap.size _ (((HX3.out.below (drewB _)).row _).less (mc mh (fun _ hr => (mt hr)))))
          ·refine vq ?_
           refine hK.out _ _ (HS _ (((HX3.out.below (drewB _)).row _).less (fun _ hr => (mt hr)))) (fun hHeld => ?_)
           clear hK K
           refine nx 25 ?_
           exact nz (hJ9 w3.drew.heap.size _ (((HX3.out.below (drewB _)).row _).less (mc mh (fun _ hr => (mt hr)))))
         ·rintro b9 wn hh
          have HH := Lib.hid hh
          clear hh
          have hHeld := HS _ (HH.out.less (fun _ hr => (mt hr)))
          refine ny ?_
          refine twq 0 1 16 17 12 1017 1018 (fun K hK => ?_) (fun K hK => ?_)
          ·refine vq ?_
           refine hK.out _ _ (HS _ (HH.out.wr.sr.less (fun _ hr => (mt hr)))) (fun hHeld => ?_)
           clear hK K
           refine nx 16 ?_
           exact nz (hJ0_9 (wn.heap.size, b9) _ (HH.out.wr))
          ·refine vq ?_
           refine hK.out _ _ (HS _ ((HH.out.row _).less (fun _ hr => (mt (mt hr))))) (fun hHeld => ?_)
           clear hK K
           refine nx 17 ?_
           exact nz (hJ1_9 (wn.heap.size, b9) _ ((HH.out.row _).less (mc mh (mc (mt mh) (fun _ hr => (mt (mt hr)))))))
        ·rintro b1 wn hh
         have HH := Lib.hid hh
         clear hh
         have hHeld := HS _ (HH.out.less (fun _ hr => (mt hr)))
         refine ny ?_
         refine twq 0 9 16 25 12 507 1018 (fun K hK => ?_) (fun K hK => ?_)
         ·refine vq ?_
          refine hK.out _ _ (HS _ (HH.out.wr.sr.less (fun _ hr => (mt hr)))) (fun hHeld => ?_)
          clear hK K
          refine nx 16 ?_
          exact nz (hJ0_1 (wn.heap.size, b1) _ (HH.out.wr))
         ·refine vq ?_
          refine hK.out _ _ (HS _ ((HH.out.row _).less (fun _ hr => (mt (mt hr))))) (fun hHeld => ?_)
          clear hK K
          refine nx 25 ?_
          exact nz (hJ1_9 (b1, wn.heap.size) _ ((HH.out.row _).less (mc (mt mh) (mc mh (fun _ hr => (mt (mt hr)))))))
       ·rintro gw wn hh
        have HH := Lib.hid hh
        clear hh
        have hHeld := HS _ (HH.out.sr.less (fun _ hr => hr))
        refine ny ?_
        refine twq 1 9 17 25 12 507 1017 (fun K hK => ?_) (fun K hK => ?_)
        ·refine vq ?_
         refine hK.out _ _ (HS _ ((HH.out.row _).sr.less (fun _ hr => (mt hr)))) (fun hHeld => ?_)
         clear hK K
         refine nx 17 ?_
         exact nz (hJ0_1 (gw, wn.heap.size) _ ((HH.out.row _).less (mc mh (fun _ hr => (mt hr)))))
        ·refine vq ?_
         refine hK.out _ _ (HS _ ((HH.out.row _).sr.less (fun _ hr => (mt hr)))) (fun hHeld => ?_)
         clear hK K
         refine nx 25 ?_
         exact nz (hJ0_9 (gw, wn.heap.size) _ ((HH.out.row _).less (mc mh (fun _ hr => (mt hr)))))
      ·rintro ⟨b1, b9⟩ wn hh
       have HH := Lib.hid hh
       clear hh
       have hHeld := HS _ (HH.out.less (fun _ hr => (mt (mt hr))))
       refine ny ?_
       refine oq 0 16 12 1019 (fun K hK => ?_)
       refine vq ?_
       refine hK.out _ _ (HS _ (HH.out.wr.sr.less (fun _ hr => (mt (mt hr))))) (fun hHeld => ?_)
       clear hK K
       refine nx 16 ?_
       exact nz (hJ0_1_9 (wn.heap.size, b1, b9) _ (HH.out.wr))
     ·rintro ⟨gw, b9⟩ wn hh
      have HH := Lib.hid hh
      clear hh
      have hHeld := HS _ (HH.out.sr.less (fun _ hr => (mt hr)))
      refine ny ?_
      refine oq 1 17 12 1019 (fun K hK => ?_)
      refine vq ?_
      refine hK.out _ _ (HS _ ((HH.out.row _).sr.less (fun _ hr => (mt (mt hr))))) (fun hHeld => ?_)
      clear hK K
      refine nx 17 ?_
      exact nz (hJ0_1_9 (gw, wn.heap.size, b9) _ ((HH.out.row _).less (mc mh (mc (mt mh) (fun _ hr => (mt (mt hr)))))))
    ·rintro ⟨gw, b1⟩ wn hh
     have HH := Lib.hid hh
     clear hh
     have hHeld := HS _ (HH.out.sr.less (fun _ hr => (mt hr)))
     refine ny ?_
     refine twq 2 9 18 25 12 511 1019 (fun K hK => ?_) (fun K hK => ?_)
     ·refine gq Tryz.func46 #[.pointer (some ⟨gw, 0, none⟩), .int .i64 1, .slice (some ⟨b1, 0, none⟩) 1 1] ?_
      with_reducible refine ((Sw.num 1 1 [1] b1 1 1 HH.out rfl rfl mh (by decide) (by decide) (by simp) HO1.out (by simp [bes_length]))).mono ?_
      rintro e wn' ⟨rfl, hn⟩
      refine ⟨_, rfl, ?_⟩
      have HN := Lib.hid hn
      clear hn
      refine hK.out _ _ (HS _ (HN.out.sr.less (fun _ hr => (mt hr)))) (fun hHeld => ?_)
      clear hK K
      refine nx 18 ?_
      exact nz (hJ0_1_2 (gw, b1) _ HN.out)
     ·refine vq ?_
      refine hK.out _ _ (HS _ ((HH.out.row _).sr.less (fun _ hr => (mt (mt hr))))) (fun hHeld => ?_)
      clear hK K
      refine nx 25 ?_
      exact nz (hJ0_1_9 (gw, b1, wn.heap.size) _ ((HH.out.row _).less (mc (mt mh) (mc mh (fun _ hr => (mt (mt hr)))))))
   ·rintro ⟨gw, b1, b9⟩ wn hh
    have HH := Lib.hid hh
    clear hh
    have hHeld := HS _ (HH.out.sr.less (fun _ hr => (mt (mt hr))))
    refine ny ?_
    refine oq 2 18 12 1023 (fun K hK => ?_)
    refine gq Tryz.func46 #[.pointer (some ⟨gw, 0, none⟩), .int .i64 1, .slice (some ⟨b1, 0, none⟩) 1 1] ?_
    with_reducible refine ((Sw.num 1 1 [1] b1 1 1 HH.out rfl rfl mh (by decide) (by decide) (by simp) HO1.out (by simp [bes_length]))).mono ?_
    rintro e wn' ⟨rfl, hn⟩
    refine ⟨_, rfl, ?_⟩
    have HN := Lib.hid hn
    clear hn
    refine hK.out _ _ (HS _ (HN.out.sr.less (fun _ hr => (mt (mt hr))))) (fun hHeld => ?_)
    clear hK K
    refine nx 18 ?_
    exact nz (hJ0_1_2_9 (gw, b1, b9) _ HN.out)
  ·rintro ⟨gw, b1⟩ wn hh
   have HH := Lib.hid hh
   clear hh
   have hHeld := HS _ (HH.out.sr.less (fun _ hr => (mt hr)))
   refine ny ?_
   refine oq 9 25 12 1023 (fun K hK => ?_)
   refine vq ?_
   refine hK.out _ _ (HS _ ((HH.out.row _).sr.less (fun _ hr => (mt (mt hr))))) (fun hHeld => ?_)
   clear hK K
   refine nx 25 ?_
   exact nz (hJ0_1_2_9 (gw, b1, wn.heap.size) _ ((HH.out.row _).less (mc (mt mh) (mc mh (fun _ hr => (mt (mt hr)))))))
 rintro ⟨gw, b1, b9⟩ wn hh
 have HH := Lib.hid hh
 clear hh
 have hHeld := HS _ (HH.out.sr.less (fun _ hr => (mt (mt hr))))
 refine ny ?_
 refine oq 10 26 12 2047 (fun K hK => ?_)
 refine gq Tryz.func46 #[.pointer (some ⟨gw, 0, none⟩), .int .i64 5, .slice (some ⟨b9, 0, none⟩) 2 2] ?_
 with_reducible refine ((Sw.num 5 5 [d.s, d.e] b9 2 2 HH.out rfl rfl (mt mh) (by decide) (by decide) (by simp) HO.out.hc (by simp [bes_length]))).mono ?_
 rintro e wa ⟨rfl, hn⟩
 refine ⟨_, rfl, ?_⟩
 have HQ := Lib.hid hn
 clear hn
 refine hK.out _ _ (HS _ (HQ.out.sr.less (fun _ hr => mt (mt hr)))) (fun hHeld => ?_)
 clear hK K
 refine nx 26 ?_
 refine pq 11 6 12 4095 ?_
 refine done_ (by kernel_rfl) ?_
 have HA := Lib.hid (show Sw w gw (dB1 y d) [(gd, (oEnI0 d nL PA nP DA nD nK)), (gl, y.obj)] wa from HQ.out.less (fun _ hr => mt (mt hr)))
 clear HQ HH HS HX3 hHeld
 go_upto_region 4 with fail
 have HS : ∀ w', Sr w [(gd, (oEnI0 d nL PA nP DA nD nK)), (gl, y.obj)] w' → w'.cell? ⟨gd, 2, none⟩ = some (.slice d.LA nL d.Lc) ∧ w'.cell? ⟨gl, 0, none⟩ = some (.int .i64 y.c0) ∧ w'.cell? ⟨gl, 1, none⟩ = some (.int .i64 y.c1) ∧ w'.cell? ⟨gl, 2, none⟩ = some (.int .i64 y.c2) ∧ w'.cell? ⟨gl, 3, none⟩ = some (.int .i64 y.c3) ∧ w'.cell? ⟨gl, 4, none⟩ = some (.int .i64 y.c4) ∧ w'.cell? ⟨gl, 5, none⟩ = some (.int .i64 y.c5) ∧ w'.cell? ⟨gl, 6, none⟩ = some (.int .i64 y.c6) ∧ w'.cell? ⟨gl, 7, none⟩ = some (.int .i64 y.c7) ∧ w'.cell? ⟨gl, 8, none⟩ = some (.int .i64 y.c8) ∧ w'.cell? ⟨gl, 9, none⟩ = some (.int .i64 y.c9) ∧ w'.cell? ⟨gl, 10, none⟩ = some (.slice y.A y.l.length y.cap) := fun w' h => ⟨h.cell mh 2 rfl, h.cell (mt mh) 0 rfl, h.cell (mt mh) 1 rfl, h.cell (mt mh) 2 rfl, h.cell (mt mh) 3 rfl, h.cell (mt mh) 4 rfl, h.cell (mt mh) 5 rfl, h.cell (mt mh) 6 rfl, h.cell (mt mh) 7 rfl, h.cell (mt mh) 8 rfl, h.cell (mt mh) 9 rfl, h.cell (mt mh) 10 rfl⟩
 have HZ1 := Lib.hid (show wrap64 (y.slots - (nL : Int)) = ((y.slots - (nL : Int)).toNat : Int) by
  have h1 := HS40.out
  have h2 := HO.out.hl.1
  have h3 := NL.out
  rw [wr64 (by omega) (by omega)]
  omega)
 have HZ2 := Lib.hid (show (y.slots - (nL : Int)).toNat ≤ 40 by have h1 := HS40.out; omega)
 have HL1 := Lib.hid (show d.L.length ≤ 40 by have h1 := HS40.out; have h2 := HO.out.hl.1; omega)
 obtain ⟨zL, hzL⟩ : ∃ z, (y.slots - (nL : Int)).toNat = z := ⟨_, rfl⟩
 rw [hzL] at HZ1 HZ2
 have HZ0 := Lib.hid hzL
 clear hzL
 refine stq 18 0 (fun w' => w'.cell? ⟨gd, 2, none⟩ = some (.slice d.LA nL d.Lc) ∧ w'.cell? ⟨gl, 0, none⟩ = some (.int .i64 y.c0) ∧ w'.cell? ⟨gl, 1, none⟩ = some (.int .i64 y.c1) ∧ w'.cell? ⟨gl, 2, none⟩ = some (.int .i64 y.c2) ∧ w'.cell? ⟨gl, 3, none⟩ = some (.int .i64 y.c3) ∧ w'.cell? ⟨gl, 4, none⟩ = some (.int .i64 y.c4) ∧ w'.cell? ⟨gl, 5, none⟩ = some (.int .i64 y.c5) ∧ w'.cell? ⟨gl, 6, none⟩ = some (.int .i64 y.c6) ∧ w'.cell? ⟨gl, 7, none⟩ = some (.int .i64 y.c7) ∧ w'.cell? ⟨gl, 8, none⟩ = some (.int .i64 y.c8) ∧ w'.cell? ⟨gl, 9, none⟩ = some (.int .i64 y.c9) ∧ w'.cell? ⟨gl, 10, none⟩ = some (.slice y.A y.l.length y.cap)) (HS _ (HA.out.below (drewB _)).sr) (fun hHeld => ?_)
 have HQ0 := Lib.hid (HA.out.below (drewB _))
 generalize wa.drew = wa0 at HQ0 hHeld ⊢
 refine pq 0 27 18 1 ?_
 refine pq 1 28 18 3 ?_
 refine pq 6 33 18 67 ?_
 refine pq 11 38 18 2115 ?_
 refine tq 2 29 18 2119 hHeld ?_
 refine pq 3 30 18 2127 ?_
 refine tq 7 34 18 2255 hHeld ?_
 refine tq 9 36 18 2767 hHeld ?_
 refine tq 12 39 18 6863 hHeld ?_
 refine pq 13 40 18 15055 ?_
 refine oq 4 31 18 15071 (fun K hK => ?_)
 refine vq ?_
 have HQ1 := Lib.hid (HQ0.out.row (rowo [(nL : Int)]))
 replace HQ1 : RowKit.Hid (Sw w gw (dB1 y d) ((wa0.heap.size, rowo [(nL : Int)]) :: [(gd, (oEnI0 d nL PA nP DA nD nK)), (gl, y.obj)]) (wa0.alloc (Obj.cells #[.int .i64 (nL : Int)] 3))) := HQ1
 generalize wa0.alloc (Obj.cells #[.int .i64 (nL : Int)] 3) = wa1 at HQ1 ⊢
 refine hK.out _ _ (HS _ (HQ1.out.sr.less (fun _ hr => (mt hr)))) (fun hHeld => ?_)
 clear hK K
 refine nx 31 ?_
 refine oq 5 32 18 15103 (fun K hK => ?_)
 refine gq Tryz.func46 #[.pointer (some ⟨gw, 0, none⟩), .int .i64 1, .slice (some ⟨wa0.heap.size, 0, none⟩) 1 1] ?_
 with_reducible refine ((Sw.num 1 1 [(nL : Int)] _ 1 1 HQ1.out rfl rfl mh (by decide) (by decide) (by simp) HnL.out (by rw [dB1_len]; decide))).mono ?_
 rintro e wb ⟨rfl, hn⟩
 refine ⟨_, rfl, ?_⟩
 have HQ2 := Lib.hid hn
 clear hn HQ1
 refine hK.out _ _ (HS _ (HQ2.out.sr.less (fun _ hr => (mt hr)))) (fun hHeld => ?_)
 clear hK K
 refine nx 32 ?_
 refine oq 8 35 18 15359 (fun K hK => ?_)
 refine gq Tryz.func46 #[.pointer (some ⟨gw, 0, none⟩), .int .i64 1, .slice d.LA nL d.Lc] ?_
 with_reducible refine ((Sw.numS 1 1 d.L d.LA nL d.Lc HQ2.out rfl NL.out HD.out.rl (by decide) (by decide) (by have := HL1.out; omega) HO.out.hl.2 (by rw [List.length_append, dB1_len, bes_length]; simp))).mono ?_
 rintro e wc ⟨rfl, hn⟩
 refine ⟨_, rfl, ?_⟩
 have HQ3 := Lib.hid hn
 clear hn HQ2
 refine hK.out _ _ (HS _ (HQ3.out.sr.less (fun _ hr => (mt hr)))) (fun hHeld => ?_)
 clear hK K
 refine nx 35 ?_
 refine oq 10 37 18 16383 (fun K hK => ?_)
 refine gq Tryz.func62 #[y.v] ?_
 with_reducible refine ((Slots_call (HY.out.below HQ3.out.bel) HK.out)).mono ?_
 rintro e wd ⟨rfl, hn⟩
 refine ⟨_, rfl, ?_⟩
 have HQ4 := Lib.hid (HQ3.out.below hn)
 clear hn HQ3
 refine hK.out _ _ (HS _ (HQ4.out.sr.less (fun _ hr => (mt hr)))) (fun hHeld => ?_)
 clear hK K
 refine nx 37 ?_
 refine pq 14 41 18 32767 ?_
 refine oq 15 42 18 65535 (fun K hK => ?_)
 refine gq Tryz.func48 #[.int .i64 (wrap64 (y.slots - (nL : Int)))] ?_
 with_reducible refine ((Sw.zeros HQ4.out _ zL HZ1.out (by rw [HZ1.out]; have := HZ2.out; omega))).mono ?_
 rintro e we ⟨bz, rfl, hn⟩
 refine ⟨_, rfl, ?_⟩
 have HQ5 := Lib.hid hn
 clear hn HQ4
 refine hK.out _ _ (HS _ (HQ5.out.sr.less (fun _ hr => (mt (mt hr))))) (fun hHeld => ?_)
 clear hK K
 refine nx 42 ?_
 refine oq 16 43 18 131071 (fun K hK => ?_)
 refine vq ?_
 have HQ6 := Lib.hid (HQ5.out.row (part (some ⟨bz, 0, none⟩) zL zL))
 replace HQ6 : RowKit.Hid (Sw w gw (dB1 y d ++ bes 1 [(nL : Int)] ++ bes 1 d.L) ((we.heap.size, part (some ⟨bz, 0, none⟩) zL zL) :: (bz, zobj zL) :: (wa0.heap.size, rowo [(nL : Int)]) :: [(gd, (oEnI0 d nL PA nP DA nD nK)), (gl, y.obj)]) (we.alloc (Obj.cells #[.slice (some ⟨bz, 0, none⟩) zL zL] 29))) := HQ6
 generalize we.alloc (Obj.cells #[.slice (some ⟨bz, 0, none⟩) zL zL] 29) = we1 at HQ6 ⊢
 refine hK.out _ _ (HS _ (HQ6.out.sr.less (fun _ hr => (mt (mt (mt hr)))))) (fun hHeld => ?_)
 clear hK K
 refine nx 43 ?_
 refine oq 17 44 18 262143 (fun K hK => ?_)
 refine gq Tryz.func47 #[.pointer (some ⟨gw, 0, none⟩), .slice (some ⟨we.heap.size, 0, none⟩) 1 1] ?_
 with_reducible refine ((Sw.rawz HQ6.out bz _ zL 1 mh (mt mh) (by have := HZ2.out; omega) (by rw [List.length_append, List.length_append, dB1_len, bes_length, bes_length]; have := HL1.out; simp; omega))).mono ?_
 rintro e wf ⟨rfl, hn⟩
 refine ⟨_, rfl, ?_⟩
 have HQ7 := Lib.hid hn
 clear hn HQ5 HQ6
 refine hK.out _ _ (HS _ (HQ7.out.sr.less (fun _ hr => (mt (mt (mt hr)))))) (fun hHeld => ?_)
 clear hK K
 refine nx 44 ?_
 refine done_ (by kernel_rfl) ?_
 have HB := Lib.hid (show Sw w gw (dB2 y d) [(gd, (oEnI0 d nL PA nP DA nD nK)), (gl, y.obj)] wf from by
  have h := HQ7.out.less (rows' := [(gd, (oEnI0 d nL PA nP DA nD nK)), (gl, y.obj)]) (fun _ hr => mt (mt (mt hr)))
  unfold dB2 zs
  rw [NL.out, HZ0.out]
  exact h)
 clear HQ7 HS HA hHeld HZ1 HZ2
 have q3 := HB.out.sr.cell mh 3 rfl
 go_wp2_with fail
 refine (Sw.num 1 1 [(nP : Int)] _ 1 1 (HB.out.row (rowo [(nP : Int)])) rfl rfl mh (by decide) (by decide) (by simp) HnP.out (by have h1 := dB2_len HK.out HO.out; have h2 := HS40.out; omega)).mono ?_
 rintro e wg ⟨rfl, hn⟩
 have HC := Lib.hid (show Sw w gw (dB3 y d) [(gd, (oEnI0 d nL PA nP DA nD nK)), (gl, y.obj)] wg from by unfold dB3; rw [NP.out]; exact hn.less (fun _ hr => mt hr))
 clear hn HB q3
 have q3 := HC.out.sr.cell mh 3 rfl
 go_wp2_with fail
 clear q3
 go_loopw [54] (fun i wr => ∃ k : Nat, k ≤ nP ∧ i = .int .i64 k ∧ Hid (Sw w gw (dB3 y d ++ (d.P.take k).flatMap chB) [(gd, (oEnI0 d nL PA nP DA nD nK)), (gl, y.obj)] wr)) (fun i _ => nP - (intOf i).toNat)
 case atStart =>
  exact ⟨0, Nat.zero_le _, rfl, by simpa using HC⟩
 case round =>
  obtain ⟨k, hk, rfl, HS0⟩ := hrel
  by_cases hlt : k < nP
  ·obtain ⟨⟨id, ⟨lf, tg⟩⟩, hb⟩ : ∃ b, rd_T138 d.P (k : Int) = b := ⟨_, rfl⟩
   have hks : k < d.P.length := by have := NP.out; omega
   have hd : d.P.take (k + 1) = d.P.take k ++ [⟨id, ⟨lf, tg⟩⟩] := by
    rw [List.take_succ_eq_append_getElem hks, ← hb]
    congr 2
    unfold rd_T138
    rw [Int.toNat_natCast, List.getD_eq_getElem?_getD, List.getElem?_eq_getElem hks]
    rfl
   have hmem : (⟨id, ⟨lf, tg⟩⟩ : Ch) ∈ d.P := by
    have : (⟨id, ⟨lf, tg⟩⟩ : Ch) ∈ d.P.take (k + 1) := by rw [hd]; simp
    exact List.mem_of_mem_take this
   obtain ⟨hy1, hy2⟩ := HO.out.hp.2 _ hmem
   have HI1 := Lib.hid (show ∀ n ∈ [id, lf], okN 1 n from hy1)
   have HI4 := Lib.hid (show ∀ n ∈ [tg], okN 4 n from hy2)
   obtain ⟨ad, rfl, q0, q1, q2⟩ := at_T138 HRP.out (k : Int) (by omega) (by omega)
   rw [hb] at q0 q1 q2
   simp only [Int.toNat_natCast] at q0 q1 q2
   replace q0 := (HS0.out.bel.cell (World.block_lt_of_cell? w _ q0)).trans q0
   replace q1 := (HS0.out.bel.cell (World.block_lt_of_cell? w _ q1)).trans q1
   replace q2 := (HS0.out.bel.cell (World.block_lt_of_cell? w _ q2)).trans q2
   have HDr := Lib.hid hd
   have HLX := Lib.hid (show (dB3 y d ++ (d.P.take k).flatMap chB).length ≤ 1100 by
    have h1 := flatC (d.P.take k)
    have h2 := dB3_len HK.out HO.out
    have h3 := HS40.out
    have h4 := HO.out.hp.1
    have h5 := NP.out
    rw [List.length_append, h1, List.length_take]
    omega)
   obtain ⟨X, hX⟩ : ∃ X, dB3 y d ++ (d.P.take k).flatMap chB = X := ⟨_, rfl⟩
   rw [hX] at HS0 HLX
   have HXe := Lib.hid hX
   clear hb hd hmem hy1 hy2 hks hX
   go_upto_region 9 with fail
   have HR0 := Lib.hid (HS0.out.row ((oEnI3 id lf tg)))
   generalize wr.alloc ((oEnI3 id lf tg)) = W1 at HR0 ⊢
   have HS : ∀ w', Sr w ((wr.heap.size, (oEnI3 id lf tg)) :: [(gd, (oEnI2 d nL ad nP DA nD nK)), (gl, y.obj)]) w' → w'.cell? ⟨wr.heap.size, 0, none⟩ = some (.int .i64 id) ∧ w'.cell? ⟨wr.heap.size, 1, none⟩ = some (.int .i64 lf) ∧ w'.cell? ⟨wr.heap.size, 2, none⟩ = some (.int .i64 tg) := fun w' h => ⟨h.cell mh 0 rfl, h.cell mh 1 rfl, h.cell mh 2 rfl⟩
   refine stq 13 0 (fun w' => w'.cell? ⟨wr.heap.size, 0, none⟩ = some (.int .i64 id) ∧ w'.cell? ⟨wr.heap.size, 1, none⟩ = some (.int .i64 lf) ∧ w'.cell? ⟨wr.heap.size, 2, none⟩ = some (.int .i64 tg)) (HS _ (HR0.out.below (drewB _)).sr) (fun hHeld => ?_)
   have HR1 := Lib.hid (HR0.out.below (drewB _))
   generalize W1.drew = W2 at HR1 hHeld ⊢
   refine pq 0 58 13 1 ?_
   refine pq 1 59 13 3 ?_
   refine pq 3 61 13 11 ?_
   refine pq 4 62 13 27 ?_
   refine pq 8 66 13 283 ?_
   refine pq 9 67 13 795 ?_
   refine tq 2 60 13 799 hHeld ?_
   refine tq 5 63 13 831 hHeld ?_
   refine tq 10 68 13 1855 hHeld ?_
   refine join_ (σ := Nat × Nat) 1 (bm 13 4095) (fun s => [(64, .slice (some ⟨s.1, 0, none⟩) 2 2), (65, .pointer (some ⟨gw, 0, none⟩)), (69, .slice (some ⟨s.2, 0, none⟩) 1 1)]) (fun s w' => Sw w gw (X ++ bes 1 [id, lf]) ((s.1, rowo [id, lf]) :: (s.2, rowo [tg]) :: (wr.heap.size, (oEnI3 id lf tg)) :: [(gd, (oEnI2 d nL ad nP DA nD nK)), (gl, y.obj)]) w') ?_ ?_
   rotate_left
   ·intro hJ6_7_11
    refine join_ (σ := Nat) 2 (bm 13 2047) (fun s => [(64, .slice (some ⟨s, 0, none⟩) 2 2), (65, .pointer (some ⟨gw, 0, none⟩))]) (fun s w' => Sw w gw (X ++ bes 1 [id, lf]) ((s, rowo [id, lf]) :: (wr.heap.size, (oEnI3 id lf tg)) :: [(gd, (oEnI2 d nL ad nP DA nD nK)), (gl, y.obj)]) w') ?_ ?_
    rotate_left
    ·intro hJ6_7
     refine join_ (σ := Nat × Nat) 2 (bm 13 3967) (fun s => [(64, .slice (some ⟨s.1, 0, none⟩) 2 2), (69, .slice (some ⟨s.2, 0, none⟩) 1 1)]) (fun s w' => Sw w gw X ((s.1, rowo [id, lf]) :: (s.2, rowo [tg]) :: (wr.heap.size, (oEnI3 id lf tg)) :: [(gd, (oEnI2 d nL ad nP DA nD nK)), (gl, y.obj)]) w') ?_ ?_
     rotate_left
     ·intro hJ6_11
      refine join_ (σ := Nat) 3 (bm 13 1919) (fun s => [(64, .slice (some ⟨s, 0, none⟩) 2 2)]) (fun s w' => Sw w gw X ((s, rowo [id, lf]) :: (wr.heap.size, (oEnI3 id lf tg)) :: [(gd, (oEnI2 d nL ad nP DA nD nK)), (gl, y.obj)]) w') ?_ ?_
      rotate_left
      ·intro hJ6
       refine join_ (σ := Nat) 3 (bm 13 3903) (fun s => [(69, .slice (some ⟨s, 0, none⟩) 1 1)]) (fun s w' => Sw w gw X ((s, rowo [tg]) :: (wr.heap.size, (oEnI3 id lf tg)) :: [(gd, (oEnI2 d nL ad nP DA nD nK)), (gl, y.obj)]) w') ?_ ?_
       rotate_left
       ·intro hJ11
        refine twq 6 11 64 69 13 1919 3903 (fun K hK => ?_) (fun K hK => ?_)
        ·refine vq ?_
         refine hK.out _ _ (HS _ ((HR1.out.row _).sr.less (fun _ hr => (mt hr)))) (fun hHeld => ?_)
         clear hK K
         refine nx 64 ?_
         exact nz (hJ6 W2.heap.size _ ((HR1.out.row _).less (mc mh (fun _ hr => (mt hr)))))
        ·refine vq ?_
         refine hK.out _ _ (HS _ ((HR1.out.row _).sr.less (fun _ hr => (mt hr)))) (fun hHeld => ?_)
         clear hK K
         refine nx 69 ?_
         exact nz (hJ11 W2.heap.size _ ((HR1.out.row _).less (mc mh (fun _ hr => (mt hr)))))
       ·rintro b11 wn hh
        have HH := Lib.hid hh
        clear hh
        have hHeld := HS _ (HH.out.sr.less (fun _ hr => (mt hr)))
        refine ny ?_
        refine oq 6 64 13 3967 (fun K hK => ?_)
        refine vq ?_
        refine hK.out _ _ (HS _ ((HH.out.row _).sr.less (fun _ hr => (mt (mt hr))))) (fun hHeld => ?_)
        clear hK K
        refine nx 64 ?_
        exact nz (hJ6_11 (wn.heap.size, b11) _ ((HH.out.row _).less (mc mh (mc (mt mh) (fun _ hr => (mt (mt hr)))))))
      ·rintro b6 wn hh
       have HH := Lib.hid hh
       clear hh
       have hHeld := HS _ (HH.out.sr.less (fun _ hr => (mt hr)))
       refine ny ?_
       refine twq 7 11 65 69 13 2047 3967 (fun K hK => ?_) (fun K hK => ?_)
       ·refine gq Tryz.func46 #[.pointer (some ⟨gw, 0, none⟩), .int .i64 1, .slice (some ⟨b6, 0, none⟩) 2 2] ?_
        with_reducible refine ((Sw.num 1 1 [id, lf] b6 2 2 HH.out rfl rfl mh (by decide) (by decide) (by simp) HI1.out (by have := HLX.out; omega))).mono ?_
        rintro e wn' ⟨rfl, hn⟩
        refine ⟨_, rfl, ?_⟩
        have HN := Lib.hid hn
        clear hn
        refine hK.out _ _ (HS _ (HN.out.sr.less (fun _ hr => (mt hr)))) (fun hHeld => ?_)
        clear hK K
        refine nx 65 ?_
        exact nz (hJ6_7 b6 _ HN.out)
       ·refine vq ?_
        refine hK.out _ _ (HS _ ((HH.out.row _).sr.less (fun _ hr => (mt (mt hr))))) (fun hHeld => ?_)
        clear hK K
        refine nx 69 ?_
        exact nz (hJ6_11 (b6, wn.heap.size) _ ((HH.out.row _).less (mc (mt mh) (mc mh (fun _ hr => (mt (mt hr)))))))
     ·rintro ⟨b6, b11⟩ wn hh
      have HH := Lib.hid hh
      clear hh
      have hHeld := HS _ (HH.out.sr.less (fun _ hr => (mt (mt hr))))
      refine ny ?_
      refine oq 7 65 13 4095 (fun K hK => ?_)
      refine gq Tryz.func46 #[.pointer (some ⟨gw, 0, none⟩), .int .i64 1, .slice (some ⟨b6, 0, none⟩) 2 2] ?_
      with_reducible refine ((Sw.num 1 1 [id, lf] b6 2 2 HH.out rfl rfl mh (by decide) (by decide) (by simp) HI1.out (by have := HLX.out; omega))).mono ?_
      rintro e wn' ⟨rfl, hn⟩
      refine ⟨_, rfl, ?_⟩
      have HN := Lib.hid hn
      clear hn
      refine hK.out _ _ (HS _ (HN.out.sr.less (fun _ hr => (mt (mt hr))))) (fun hHeld => ?_)
      clear hK K
      refine nx 65 ?_
      exact nz (hJ6_7_11 (b6, b11) _ HN.out)
    ·rintro b6 wn hh
     have HH := Lib.hid hh
     clear hh
     have hHeld := HS _ (HH.out.sr.less (fun _ hr => (mt hr)))
     refine ny ?_
     refine oq 11 69 13 4095 (fun K hK => ?_)
     refine vq ?_
     refine hK.out _ _ (HS _ ((HH.out.row _).sr.less (fun _ hr => (mt (mt hr))))) (fun hHeld => ?_)
     clear hK K
     refine nx 69 ?_
     exact nz (hJ6_7_11 (b6, wn.heap.size) _ ((HH.out.row _).less (mc (mt mh) (mc mh (fun _ hr => (mt (mt hr)))))))
   rintro ⟨b6, b11⟩ wn hh
   have HH := Lib.hid hh
   clear hh
   have hHeld := HS _ (HH.out.sr.less (fun _ hr => (mt (mt hr))))
   refine ny ?_
   refine oq 12 70 13 8191 (fun K hK => ?_)
   refine gq Tryz.func46 #[.pointer (some ⟨gw, 0, none⟩), .int .i64 4, .slice (some ⟨b11, 0, none⟩) 1 1] ?_
   with_reducible refine ((Sw.num 4 4 [tg] b11 1 1 HH.out rfl rfl (mt mh) (by decide) (by decide) (by simp) HI4.out (by simp [bes_length]; have := HLX.out; omega))).mono ?_
   rintro e wq ⟨rfl, hn⟩
   refine ⟨_, rfl, ?_⟩
   have HQ := Lib.hid hn
   clear hn
   refine hK.out _ _ (HS _ (HQ.out.sr.less (fun _ hr => mt (mt hr)))) (fun hHeld => ?_)
   clear hK K
   refine nx 70 ?_
   refine done_ (by kernel_rfl) ?_
   go_wp2_with fail
   have ek : wrap64 ((k : Int) + 1) = ((k + 1 : Nat) : Int) := by have h1 := HS40.out; have h2 := HO.out.hp.1; have h3 := NP.out; rw [wr64 (by omega) (by omega)]; omega
   rw [ek]
   refine ⟨⟨k + 1, by omega, rfl, ?_⟩, ?_⟩
   ·have hq := HQ.out.less (rows' := [(gd, (oEnI2 d nL ad nP DA nD nK)), (gl, y.obj)]) (fun _ hr => mt (mt (mt hr)))
    rw [← HXe.out] at hq
    have e : dB3 y d ++ (d.P.take k).flatMap chB ++ bes 1 [id, lf] ++ bes 4 [tg] = dB3 y d ++ (d.P.take (k + 1)).flatMap chB := by
     rw [HDr.out, List.flatMap_append]
     simp [chB]
    rw [e] at hq
    exact hq
   ·simp only [intOf]
    omega
  ·obtain rfl : nP = k := by omega
   have HE := Lib.hid (show Sw w gw (dB3 y d ++ d.P.flatMap chB) [(gd, (oEnI0 d nL PA nP DA nD nK)), (gl, y.obj)] wr from by have h := HS0.out; rw [show d.P.take nP = d.P from by rw [← NP.out, List.take_length]] at h; exact h)
   clear HS0 HC
   go_upto_region 11 with fail
   have HS : ∀ w', Sr w [(gd, (oEnI0 d nL PA nP DA nD nK)), (gl, y.obj)] w' → w'.cell? ⟨gd, 3, none⟩ = some (.slice PA nP d.Pc) ∧ w'.cell? ⟨gd, 4, none⟩ = some (.slice DA nD d.Dc) ∧ w'.cell? ⟨gl, 0, none⟩ = some (.int .i64 y.c0) ∧ w'.cell? ⟨gl, 1, none⟩ = some (.int .i64 y.c1) ∧ w'.cell? ⟨gl, 2, none⟩ = some (.int .i64 y.c2) ∧ w'.cell? ⟨gl, 3, none⟩ = some (.int .i64 y.c3) ∧ w'.cell? ⟨gl, 4, none⟩ = some (.int .i64 y.c4) ∧ w'.cell? ⟨gl, 5, none⟩ = some (.int .i64 y.c5) ∧ w'.cell? ⟨gl, 6, none⟩ = some (.int .i64 y.c6) ∧ w'.cell? ⟨gl, 7, none⟩ = some (.int .i64 y.c7) ∧ w'.cell? ⟨gl, 8, none⟩ = some (.int .i64 y.c8) ∧ w'.cell? ⟨gl, 9, none⟩ = some (.int .i64 y.c9) ∧ w'.cell? ⟨gl, 10, none⟩ = some (.slice y.A y.l.length y.cap) := fun w' h => ⟨h.cell mh 3 rfl, h.cell mh 4 rfl, h.cell (mt mh) 0 rfl, h.cell (mt mh) 1 rfl, h.cell (mt mh) 2 rfl, h.cell (mt mh) 3 rfl, h.cell (mt mh) 4 rfl, h.cell (mt mh) 5 rfl, h.cell (mt mh) 6 rfl, h.cell (mt mh) 7 rfl, h.cell (mt mh) 8 rfl, h.cell (mt mh) 9 rfl, h.cell (mt mh) 10 rfl⟩
   have HZ1 := Lib.hid (show wrap64 (6 * (wrap64 (y.slots - (nP : Int)))) = ((6 * (y.slots - (nP : Int))).toNat : Int) by
    have h1 := HS40.out
    have h2 := HO.out.hp.1
    have h3 := NP.out
    rw [wr64 (z := y.slots - (nP : Int)) (by omega) (by omega), wr64 (by omega) (by omega)]
    omega)
   have HZ2 := Lib.hid (show (6 * (y.slots - (nP : Int))).toNat ≤ 240 by have h1 := HS40.out; omega)
   have HLX := Lib.hid (show (dB3 y d ++ d.P.flatMap chB).length ≤ 1100 by
    have h1 := flatC d.P
    have h2 := dB3_len HK.out HO.out
    have h3 := HS40.out
    have h4 := HO.out.hp.1
    rw [List.length_append, h1]
    omega)
   obtain ⟨X, hX⟩ : ∃ X, dB3 y d ++ d.P.flatMap chB = X := ⟨_, rfl⟩
   rw [hX] at HE HLX
   have HXe := Lib.hid hX
   obtain ⟨zP, hzP⟩ : ∃ z, (6 * (y.slots - (nP : Int))).toNat = z := ⟨_, rfl⟩
   rw [hzP] at HZ1 HZ2
   have HZ0 := Lib.hid hzP
   clear hzP hX
   refine stq 16 0 (fun w' => w'.cell? ⟨gd, 3, none⟩ = some (.slice PA nP d.Pc) ∧ w'.cell? ⟨gd, 4, none⟩ = some (.slice DA nD d.Dc) ∧ w'.cell? ⟨gl, 0, none⟩ = some (.int .i64 y.c0) ∧ w'.cell? ⟨gl, 1, none⟩ = some (.int .i64 y.c1) ∧ w'.cell? ⟨gl, 2, none⟩ = some (.int .i64 y.c2) ∧ w'.cell? ⟨gl, 3, none⟩ = some (.int .i64 y.c3) ∧ w'.cell? ⟨gl, 4, none⟩ = some (.int .i64 y.c4) ∧ w'.cell? ⟨gl, 5, none⟩ = some (.int .i64 y.c5) ∧ w'.cell? ⟨gl, 6, none⟩ = some (.int .i64 y.c6) ∧ w'.cell? ⟨gl, 7, none⟩ = some (.int .i64 y.c7) ∧ w'.cell? ⟨gl, 8, none⟩ = some (.int .i64 y.c8) ∧ w'.cell? ⟨gl, 9, none⟩ = some (.int .i64 y.c9) ∧ w'.cell? ⟨gl, 10, none⟩ = some (.slice y.A y.l.length y.cap)) (HS _ (HE.out.below (drewB _)).sr) (fun hHeld => ?_)
   have HE1 := Lib.hid (HE.out.below (drewB _))
   generalize wr.drew = wr1 at HE1 hHeld ⊢
   refine pq 0 72 16 1 ?_
   refine pq 3 75 16 9 ?_
   refine pq 11 83 16 2057 ?_
   refine tq 1 73 16 2059 hHeld ?_
   refine tq 4 76 16 2075 hHeld ?_
   refine pq 5 77 16 2107 ?_
   refine tq 12 84 16 6203 hHeld ?_
   refine pq 13 85 16 14395 ?_
   refine join_ (σ := Nat × Nat × Nat) 1 (bm 16 32767) (fun s => [(74, .int .i64 y.slots), (78, .int .i64 (wrap64 (y.slots - (nP : Int)))), (79, .int .i64 (wrap64 (6 * (wrap64 (y.slots - (nP : Int)))))), (80, .slice (some ⟨s.1, 0, none⟩) zP zP), (81, .slice (some ⟨s.2.1, 0, none⟩) 1 1), (82, .pointer (some ⟨gw, 0, none⟩)), (86, .slice (some ⟨s.2.2, 0, none⟩) 1 1)]) (fun s w' => Sw w gw (X ++ List.replicate zP 0) ((s.1, zobj zP) :: (s.2.1, part (some ⟨s.1, 0, none⟩) zP zP) :: (s.2.2, rowo [(nD : Int)]) :: [(gd, (oEnI0 d nL PA nP DA nD nK)), (gl, y.obj)]) w') ?_ ?_
   rotate_left
   ·intro hJ2_8_9_10_14
    refine join_ (σ := Nat × Nat) 2 (bm 16 16383) (fun s => [(74, .int .i64 y.slots), (78, .int .i64 (wrap64 (y.slots - (nP : Int)))), (79, .int .i64 (wrap64 (6 * (wrap64 (y.slots - (nP : Int)))))), (80, .slice (some ⟨s.1, 0, none⟩) zP zP), (81, .slice (some ⟨s.2, 0, none⟩) 1 1), (82, .pointer (some ⟨gw, 0, none⟩))]) (fun s w' => Sw w gw (X ++ List.replicate zP 0) ((s.1, zobj zP) :: (s.2, part (some ⟨s.1, 0, none⟩) zP zP) :: [(gd, (oEnI0 d nL PA nP DA nD nK)), (gl, y.obj)]) w') ?_ ?_
    rotate_left
    ·intro hJ2_8_9_10
     refine join_ (σ := Nat × Nat × Nat) 2 (bm 16 31743) (fun s => [(74, .int .i64 y.slots), (78, .int .i64 (wrap64 (y.slots - (nP : Int)))), (79, .int .i64 (wrap64 (6 * (wrap64 (y.slots - (nP : Int)))))), (80, .slice (some ⟨s.1, 0, none⟩) zP zP), (81, .slice (some ⟨s.2.1, 0, none⟩) 1 1), (86, .slice (some ⟨s.2.2, 0, none⟩) 1 1)]) (fun s w' => Sw w gw X ((s.1, zobj zP) :: (s.2.1, part (some ⟨s.1, 0, none⟩) zP zP) :: (s.2.2, rowo [(nD : Int)]) :: [(gd, (oEnI0 d nL PA nP DA nD nK)), (gl, y.obj)]) w') ?_ ?_
     rotate_left
     ·intro hJ2_8_9_14
      refine join_ (σ := Nat × Nat) 3 (bm 16 15359) (fun s => [(74, .int .i64 y.slots), (78, .int .i64 (wrap64 (y.slots - (nP : Int)))), (79, .int .i64 (wrap64 (6 * (wrap64 (y.slots - (nP : Int)))))), (80, .slice (some ⟨s.1, 0, none⟩) zP zP), (81, .slice (some ⟨s.2, 0, none⟩) 1 1)]) (fun s w' => Sw w gw X ((s.1, zobj zP) :: (s.2, part (some ⟨s.1, 0, none⟩) zP zP) :: [(gd, (oEnI0 d nL PA nP DA nD nK)), (gl, y.obj)]) w') ?_ ?_
      rotate_left
      ·intro hJ2_8_9
       refine join_ (σ := Nat × Nat) 3 (bm 16 31231) (fun s => [(74, .int .i64 y.slots), (78, .int .i64 (wrap64 (y.slots - (nP : Int)))), (79, .int .i64 (wrap64 (6 * (wrap64 (y.slots - (nP : Int)))))), (80, .slice (some ⟨s.1, 0, none⟩) zP zP), (86, .slice (some ⟨s.2, 0, none⟩) 1 1)]) (fun s w' => Sw w gw X ((s.1, zobj zP) :: (s.2, rowo [(nD : Int)]) :: [(gd, (oEnI0 d nL PA nP DA nD nK)), (gl, y.obj)]) w') ?_ ?_
       rotate_left
       ·intro hJ2_8_14
        refine join_ (σ := Nat) 4 (bm 16 14847) (fun s => [(74, .int .i64 y.slots), (78, .int .i64 (wrap64 (y.slots - (nP : Int)))), (79, .int .i64 (wrap64 (6 * (wrap64 (y.slots - (nP : Int)))))), (80, .slice (some ⟨s, 0, none⟩) zP zP)]) (fun s w' => Sw w gw X ((s, zobj zP) :: [(gd, (oEnI0 d nL PA nP DA nD nK)), (gl, y.obj)]) w') ?_ ?_
        rotate_left
        ·intro hJ2_8
         refine join_ (σ := Nat) 4 (bm 16 30975) (fun s => [(74, .int .i64 y.slots), (78, .int .i64 (wrap64 (y.slots - (nP : Int)))), (79, .int .i64 (wrap64 (6 * (wrap64 (y.slots - (nP : Int)))))), (86, .slice (some ⟨s, 0, none⟩) 1 1)]) (fun s w' => Sw w gw X ((s, rowo [(nD : Int)]) :: [(gd, (oEnI0 d nL PA nP DA nD nK)), (gl, y.obj)]) w') ?_ ?_
         rotate_left
         ·intro hJ2_14
          refine join_ (σ := Unit) 5 (bm 16 14591) (fun s => [(74, .int .i64 y.slots), (78, .int .i64 (wrap64 (y.slots - (nP : Int)))), (79, .int .i64 (wrap64 (6 * (wrap64 (y.slots - (nP : Int))))))]) (fun s w' => Sw w gw X ([(gd, (oEnI0 d nL PA nP DA nD nK)), (gl, y.obj)]) w') ?_ ?_
          rotate_left
          ·intro hJ2
           refine join_ (σ := Nat) 7 (bm 16 30779) (fun s => [(86, .slice (some ⟨s, 0, none⟩) 1 1)]) (fun s w' => Sw w gw X ((s, rowo [(nD : Int)]) :: [(gd, (oEnI0 d nL PA nP DA nD nK)), (gl, y.obj)]) w') ?_ ?_
           rotate_left
           ·intro hJ14
            refine twq 2 14 74 86 16 14399 30779 (fun K hK => ?_) (fun K hK => ?_)
            ·refine gq Tryz.func62 #[y.v] ?_
             with_reducible refine ((Slots_call (HY.out.below (Sw.bel HE1.out)) HK.out)).mono ?_
             rintro e wn' ⟨rfl, hn⟩
             refine ⟨_, rfl, ?_⟩
             have HN := Lib.hid (HE1.out.below hn)
             clear hn
             refine hK.out _ _ (HS _ (HN.out.sr.less (fun _ hr => hr))) (fun hHeld => ?_)
             clear hK K
             refine nx 74 ?_
             refine pq 6 78 16 14463 ?_
             refine pq 7 79 16 14591 ?_
             exact nz (hJ2 () _ HN.out)
            ·refine vq ?_
             refine hK.out _ _ (HS _ ((HE1.out.row _).sr.less (fun _ hr => (mt hr)))) (fun hHeld => ?_)
             clear hK K
             refine nx 86 ?_
             exact nz (hJ14 wr1.heap.size _ ((HE1.out.row _).less (mc mh (fun _ hr => (mt hr)))))
           ·rintro b14 wn hh
            have HH := Lib.hid hh
            clear hh
            have hHeld := HS _ (HH.out.sr.less (fun _ hr => (mt hr)))
            refine ny ?_
            refine oq 2 74 16 30783 (fun K hK => ?_)
            refine gq Tryz.func62 #[y.v] ?_
            with_reducible refine ((Slots_call (HY.out.below (Sw.bel HH.out)) HK.out)).mono ?_
            rintro e wn' ⟨rfl, hn⟩
            refine ⟨_, rfl, ?_⟩
            have HN := Lib.hid (HH.out.below hn)
            clear hn
            refine hK.out _ _ (HS _ (HN.out.sr.less (fun _ hr => (mt hr)))) (fun hHeld => ?_)
            clear hK K
            refine nx 74 ?_
            refine pq 6 78 16 30847 ?_
            refine pq 7 79 16 30975 ?_
            exact nz (hJ2_14 b14 _ HN.out)
          ·rintro _ wn hh
           have HH := Lib.hid hh
           clear hh
           have hHeld := HS _ (HH.out.sr.less (fun _ hr => hr))
           refine ny ?_
           refine twq 8 14 80 86 16 14847 30975 (fun K hK => ?_) (fun K hK => ?_)
           ·refine gq Tryz.func48 #[.int .i64 (wrap64 (6 * (wrap64 (y.slots - (nP : Int)))))] ?_
            with_reducible refine ((Sw.zeros HH.out _ zP HZ1.out (by rw [HZ1.out]; have := HZ2.out; omega))).mono ?_
            rintro e wn' ⟨b8, rfl, hn⟩
            refine ⟨_, rfl, ?_⟩
            have HN := Lib.hid hn
            clear hn
            refine hK.out _ _ (HS _ (HN.out.sr.less (fun _ hr => (mt hr)))) (fun hHeld => ?_)
            clear hK K
            refine nx 80 ?_
            exact nz (hJ2_8 b8 _ (HN.out.less (mc mh (fun _ hr => (mt hr)))))
           ·refine vq ?_
            refine hK.out _ _ (HS _ ((HH.out.row _).sr.less (fun _ hr => (mt hr)))) (fun hHeld => ?_)
            clear hK K
            refine nx 86 ?_
            exact nz (hJ2_14 wn.heap.size _ ((HH.out.row _).less (mc mh (fun _ hr => (mt hr)))))
         ·rintro b14 wn hh
          have HH := Lib.hid hh
          clear hh
          have hHeld := HS _ (HH.out.sr.less (fun _ hr => (mt hr)))
          refine ny ?_
          refine oq 8 80 16 31231 (fun K hK => ?_)
          refine gq Tryz.func48 #[.int .i64 (wrap64 (6 * (wrap64 (y.slots - (nP : Int)))))] ?_
          with_reducible refine ((Sw.zeros HH.out _ zP HZ1.out (by rw [HZ1.out]; have := HZ2.out; omega))).mono ?_
          rintro e wn' ⟨b8, rfl, hn⟩
          refine ⟨_, rfl, ?_⟩
          have HN := Lib.hid hn
          clear hn
          refine hK.out _ _ (HS _ (HN.out.sr.less (fun _ hr => (mt (mt hr))))) (fun hHeld => ?_)
          clear hK K
          refine nx 80 ?_
          exact nz (hJ2_8_14 (b8, b14) _ (HN.out.less (mc mh (mc (mt mh) (fun _ hr => (mt (mt hr)))))))
        ·rintro b8 wn hh
         have HH := Lib.hid hh
         clear hh
         have hHeld := HS _ (HH.out.sr.less (fun _ hr => (mt hr)))
         refine ny ?_
         refine twq 9 14 81 86 16 15359 31231 (fun K hK => ?_) (fun K hK => ?_)
         ·refine vq ?_
          refine hK.out _ _ (HS _ ((HH.out.row _).sr.less (fun _ hr => (mt (mt hr))))) (fun hHeld => ?_)
          clear hK K
          refine nx 81 ?_
          exact nz (hJ2_8_9 (b8, wn.heap.size) _ ((HH.out.row _).less (mc (mt mh) (mc mh (fun _ hr => (mt (mt hr)))))))
         ·refine vq ?_
          refine hK.out _ _ (HS _ ((HH.out.row _).sr.less (fun _ hr => (mt (mt hr))))) (fun hHeld => ?_)
          clear hK K
          refine nx 86 ?_
          exact nz (hJ2_8_14 (b8, wn.heap.size) _ ((HH.out.row _).less (mc (mt mh) (mc mh (fun _ hr => (mt (mt hr)))))))
       ·rintro ⟨b8, b14⟩ wn hh
        have HH := Lib.hid hh
        clear hh
        have hHeld := HS _ (HH.out.sr.less (fun _ hr => (mt (mt hr))))
        refine ny ?_
        refine oq 9 81 16 31743 (fun K hK => ?_)
        refine vq ?_
        refine hK.out _ _ (HS _ ((HH.out.row _).sr.less (fun _ hr => (mt (mt (mt hr)))))) (fun hHeld => ?_)
        clear hK K
        refine nx 81 ?_
        exact nz (hJ2_8_9_14 (b8, wn.heap.size, b14) _ ((HH.out.row _).less (mc (mt mh) (mc mh (mc (mt (mt mh)) (fun _ hr => (mt (mt (mt hr)))))))))
      ·rintro ⟨b8, b9⟩ wn hh
       have HH := Lib.hid hh
       clear hh
       have hHeld := HS _ (HH.out.sr.less (fun _ hr => (mt (mt hr))))
       refine ny ?_
       refine twq 10 14 82 86 16 16383 31743 (fun K hK => ?_) (fun K hK => ?_)
       ·refine gq Tryz.func47 #[.pointer (some ⟨gw, 0, none⟩), .slice (some ⟨b9, 0, none⟩) 1 1] ?_
        with_reducible refine ((Sw.rawz HH.out b8 b9 zP 1 (mt mh) mh (by have := HZ2.out; omega) (by have := HLX.out; omega))).mono ?_
        rintro e wn' ⟨rfl, hn⟩
        refine ⟨_, rfl, ?_⟩
        have HN := Lib.hid hn
        clear hn
        refine hK.out _ _ (HS _ (HN.out.sr.less (fun _ hr => (mt (mt hr))))) (fun hHeld => ?_)
        clear hK K
        refine nx 82 ?_
        exact nz (hJ2_8_9_10 (b8, b9) _ HN.out)
       ·refine vq ?_
        refine hK.out _ _ (HS _ ((HH.out.row _).sr.less (fun _ hr => (mt (mt (mt hr)))))) (fun hHeld => ?_)
        clear hK K
        refine nx 86 ?_
        exact nz (hJ2_8_9_14 (b8, b9, wn.heap.size) _ ((HH.out.row _).less (mc (mt mh) (mc (mt (mt mh)) (mc mh (fun _ hr => (mt (mt (mt hr)))))))))
     ·rintro ⟨b8, b9, b14⟩ wn hh
      have HH := Lib.hid hh
      clear hh
      have hHeld := HS _ (HH.out.sr.less (fun _ hr => (mt (mt (mt hr)))))
      refine ny ?_
      refine oq 10 82 16 32767 (fun K hK => ?_)
      refine gq Tryz.func47 #[.pointer (some ⟨gw, 0, none⟩), .slice (some ⟨b9, 0, none⟩) 1 1] ?_
      with_reducible refine ((Sw.rawz HH.out b8 b9 zP 1 (mt mh) mh (by have := HZ2.out; omega) (by have := HLX.out; omega))).mono ?_
      rintro e wn' ⟨rfl, hn⟩
      refine ⟨_, rfl, ?_⟩
      have HN := Lib.hid hn
      clear hn
      refine hK.out _ _ (HS _ (HN.out.sr.less (fun _ hr => (mt (mt (mt hr)))))) (fun hHeld => ?_)
      clear hK K
      refine nx 82 ?_
      exact nz (hJ2_8_9_10_14 (b8, b9, b14) _ HN.out)
    ·rintro ⟨b8, b9⟩ wn hh
     have HH := Lib.hid hh
     clear hh
     have hHeld := HS _ (HH.out.sr.less (fun _ hr => (mt (mt hr))))
     refine ny ?_
     refine oq 14 86 16 32767 (fun K hK => ?_)
     refine vq ?_
     refine hK.out _ _ (HS _ ((HH.out.row _).sr.less (fun _ hr => (mt (mt (mt hr)))))) (fun hHeld => ?_)
     clear hK K
     refine nx 86 ?_
     exact nz (hJ2_8_9_10_14 (b8, b9, wn.heap.size) _ ((HH.out.row _).less (mc (mt mh) (mc (mt (mt mh)) (mc mh (fun _ hr => (mt (mt (mt hr)))))))))
   rintro ⟨b8, b9, b14⟩ wn hh
   have HH := Lib.hid hh
   clear hh
   have hHeld := HS _ (HH.out.sr.less (fun _ hr => (mt (mt (mt hr)))))
   refine ny ?_
   refine oq 15 87 16 65535 (fun K hK => ?_)
   refine gq Tryz.func46 #[.pointer (some ⟨gw, 0, none⟩), .int .i64 1, .slice (some ⟨b14, 0, none⟩) 1 1] ?_
   with_reducible refine ((Sw.num 1 1 [(nD : Int)] b14 1 1 HH.out rfl rfl (mt (mt mh)) (by decide) (by decide) (by simp) HnD.out (by rw [List.length_append, List.length_replicate]; have := HLX.out; have := HZ2.out; omega))).mono ?_
   rintro e wh ⟨rfl, hn⟩
   refine ⟨_, rfl, ?_⟩
   have HQ := Lib.hid hn
   clear hn
   refine hK.out _ _ (HS _ (HQ.out.sr.less (fun _ hr => mt (mt (mt hr))))) (fun hHeld => ?_)
   clear hK K
   refine nx 87 ?_
   refine done_ (by kernel_rfl) ?_
   have HF := Lib.hid (show Sw w gw (dB4 y d) [(gd, (oEnI0 d nL PA nP DA nD nK)), (gl, y.obj)] wh from by
    have h := HQ.out.less (rows' := [(gd, (oEnI0 d nL PA nP DA nD nK)), (gl, y.obj)]) (fun _ hr => mt (mt (mt hr)))
    unfold dB4 zs
    rw [HXe.out, ND.out, NP.out, HZ0.out]
    exact h)
   clear HQ HS HH hHeld HZ1 HZ2 HE HE1
   have qf4 := HF.out.sr.cell mh 4 rfl
   go_wp2_with fail
   clear qf4
   go_loopw [91] (fun i wr => ∃ k : Nat, k ≤ nD ∧ i = .int .i64 k ∧ Hid (Sw w gw (dB4 y d ++ (d.D.take k).flatMap diB) [(gd, (oEnI0 d nL PA nP DA nD nK)), (gl, y.obj)] wr)) (fun i _ => nD - (intOf i).toNat)
   case atStart =>
    exact ⟨0, Nat.zero_le _, rfl, by simpa using HF⟩
   case round =>
    obtain ⟨k, hk, rfl, HS0⟩ := hrel
    by_cases hlt : k < nD
    ·obtain ⟨⟨gone, ⟨key, id⟩⟩, hb⟩ : ∃ b, rd_T109 d.D (k : Int) = b := ⟨_, rfl⟩
     have hks : k < d.D.length := by have := ND.out; omega
     have hd : d.D.take (k + 1) = d.D.take k ++ [⟨gone, ⟨key, id⟩⟩] := by
      rw [List.take_succ_eq_append_getElem hks, ← hb]
      congr 2
      unfold rd_T109
      rw [Int.toNat_natCast, List.getD_eq_getElem?_getD, List.getElem?_eq_getElem hks]
      rfl
     have hmem : (⟨gone, ⟨key, id⟩⟩ : Di) ∈ d.D := by
      have : (⟨gone, ⟨key, id⟩⟩ : Di) ∈ d.D.take (k + 1) := by rw [hd]; simp
      exact List.mem_of_mem_take this
     obtain ⟨hy1, hy2⟩ := HO.out.hd.2 _ hmem
     have HKy := Lib.hid (show key.size = 10 from hy1)
     obtain ⟨fl, hfl⟩ : ∃ fl : Int, flag ⟨gone, ⟨key, id⟩⟩ = fl := ⟨_, rfl⟩
     have hf01 : fl = 0 ∨ fl = 1 := by rw [← hfl]; unfold flag; split <;> simp
     have HFl := Lib.hid hfl
     have HI1 := Lib.hid (show ∀ n ∈ [fl, id], okN 1 n from fun n hn => by
      rcases List.mem_cons.1 hn with rfl | hn
      ·exact ⟨by omega, by omega⟩
      ·rw [List.mem_singleton.1 hn]; exact hy2)
     obtain ⟨ad, rfl, q0, q1, q2⟩ := at_T109 HRD.out (k : Int) (by omega) (by omega)
     rw [hb] at q0 q1 q2
     simp only [Int.toNat_natCast] at q0 q1 q2
     replace q0 := (HS0.out.bel.cell (World.block_lt_of_cell? w _ q0)).trans q0
     replace q1 := (HS0.out.bel.cell (World.block_lt_of_cell? w _ q1)).trans q1
     replace q2 := (HS0.out.bel.cell (World.block_lt_of_cell? w _ q2)).trans q2
     have HDr := Lib.hid hd
     have HLX := Lib.hid (show (dB4 y d ++ (d.D.take k).flatMap diB).length ≤ 1100 by
      have h1 := flatD (d.D.take k) (fun x hx => (HO.out.hd.2 x (List.mem_of_mem_take hx)).1)
      have h2 := dB4_len HK.out HO.out
      have h3 := HS40.out
      have h4 := HO.out.hd.1
      have h5 := ND.out
      have h6 := HK.out
      unfold Ly.Ok at h6
      rw [List.length_append, h1, List.length_take]
      omega)
     obtain ⟨X, hX⟩ : ∃ X, dB4 y d ++ (d.D.take k).flatMap diB = X := ⟨_, rfl⟩
     rw [hX] at HS0 HLX
     have HXe := Lib.hid hX
     clear hb hd hmem hy1 hy2 hks hX hfl hf01
     have kc := fun (W : World) => Lib.run_convert_string_bytes (P := Tryz.prog) W 9 29 5 key Tryz.underlying9 Tryz.underlying29 Tryz.underlying5
     have HR0 := Lib.hid (HS0.out.row (Obj.cells #[.bool gone, .string key, .int .i64 id] 109))
     cases gone with
     | true =>
      obtain rfl : (0 : Int) = fl := by rw [← HFl.out]; rfl
      go_upto_region 18 with fail
      generalize wr.alloc (Obj.cells #[.bool true, .string key, .int .i64 id] 109) = W1 at HR0 ⊢
      have HS : ∀ w', Sr w ((wr.heap.size, Obj.cells #[.bool true, .string key, .int .i64 id] 109) :: [(gd, (oEnI1 d nL PA nP ad nD nK)), (gl, y.obj)]) w' → w'.cell? ⟨wr.heap.size, 1, none⟩ = some (.string key) ∧ w'.cell? ⟨wr.heap.size, 2, none⟩ = some (.int .i64 id) := fun w' h => ⟨h.cell mh 1 rfl, h.cell mh 2 rfl⟩
      refine stq 13 0 (fun w' => w'.cell? ⟨wr.heap.size, 1, none⟩ = some (.string key) ∧ w'.cell? ⟨wr.heap.size, 2, none⟩ = some (.int .i64 id)) (HS _ (HR0.out.below (drewB _)).sr) (fun hHeld => ?_)
      have HR1 := Lib.hid (HR0.out.below (drewB _))
      generalize W1.drew = W2 at HR1 hHeld ⊢
      refine pq 0 97 13 1 ?_
      refine pq 1 98 13 3 ?_
      refine pq 2 99 13 7 ?_
      refine pq 3 100 13 15 ?_
      refine pq 7 104 13 143 ?_
      refine pq 8 105 13 399 ?_
      refine tq 4 101 13 415 hHeld ?_
      refine tq 9 106 13 927 hHeld ?_
      refine join_ (σ := Nat × Nat × {p : Nat × Obj // StrO key p} × Nat) 1 (bm 13 4095) (fun s => [(102, .slice (some ⟨s.1, 0, none⟩) 2 2), (103, .pointer (some ⟨gw, 0, none⟩)), (107, .slice (some ⟨s.2.1, 0, none⟩) key.size s.2.2.1.1.1), (108, .slice (some ⟨s.2.2.2, 0, none⟩) 1 1)]) (fun s w' => Sw w gw (X ++ bes 1 [0, id]) ((s.1, rowo [0, id]) :: (s.2.1, s.2.2.1.1.2) :: (s.2.2.2, part (some ⟨s.2.1, 0, none⟩) key.size s.2.2.1.1.1) :: (wr.heap.size, Obj.cells #[.bool true, .string key, .int .i64 id] 109) :: [(gd, (oEnI1 d nL PA nP ad nD nK)), (gl, y.obj)]) w') ?_ ?_
      rotate_left
      ·intro hJ5_6_10_11
       refine join_ (σ := Nat × Nat × {p : Nat × Obj // StrO key p}) 2 (bm 13 2047) (fun s => [(102, .slice (some ⟨s.1, 0, none⟩) 2 2), (103, .pointer (some ⟨gw, 0, none⟩)), (107, .slice (some ⟨s.2.1, 0, none⟩) key.size s.2.2.1.1)]) (fun s w' => Sw w gw (X ++ bes 1 [0, id]) ((s.1, rowo [0, id]) :: (s.2.1, s.2.2.1.2) :: (wr.heap.size, Obj.cells #[.bool true, .string key, .int .i64 id] 109) :: [(gd, (oEnI1 d nL PA nP ad nD nK)), (gl, y.obj)]) w') ?_ ?_
       rotate_left
       ·intro hJ5_6_10
        refine join_ (σ := Nat × Nat × {p : Nat × Obj // StrO key p} × Nat) 2 (bm 13 4031) (fun s => [(102, .slice (some ⟨s.1, 0, none⟩) 2 2), (107, .slice (some ⟨s.2.1, 0, none⟩) key.size s.2.2.1.1.1), (108, .slice (some ⟨s.2.2.2, 0, none⟩) 1 1)]) (fun s w' => Sw w gw X ((s.1, rowo [0, id]) :: (s.2.1, s.2.2.1.1.2) :: (s.2.2.2, part (some ⟨s.2.1, 0, none⟩) key.size s.2.2.1.1.1) :: (wr.heap.size, Obj.cells #[.bool true, .string key, .int .i64 id] 109) :: [(gd, (oEnI1 d nL PA nP ad nD nK)), (gl, y.obj)]) w') ?_ ?_
        rotate_left
        ·intro hJ5_10_11
         refine join_ (σ := Nat) 3 (bm 13 1023) (fun s => [(102, .slice (some ⟨s, 0, none⟩) 2 2), (103, .pointer (some ⟨gw, 0, none⟩))]) (fun s w' => Sw w gw (X ++ bes 1 [0, id]) ((s, rowo [0, id]) :: (wr.heap.size, Obj.cells #[.bool true, .string key, .int .i64 id] 109) :: [(gd, (oEnI1 d nL PA nP ad nD nK)), (gl, y.obj)]) w') ?_ ?_
         rotate_left
         ·intro hJ5_6
          refine join_ (σ := Nat × Nat × {p : Nat × Obj // StrO key p}) 3 (bm 13 1983) (fun s => [(102, .slice (some ⟨s.1, 0, none⟩) 2 2), (107, .slice (some ⟨s.2.1, 0, none⟩) key.size s.2.2.1.1)]) (fun s w' => Sw w gw X ((s.1, rowo [0, id]) :: (s.2.1, s.2.2.1.2) :: (wr.heap.size, Obj.cells #[.bool true, .string key, .int .i64 id] 109) :: [(gd, (oEnI1 d nL PA nP ad nD nK)), (gl, y.obj)]) w') ?_ ?_
          rotate_left
          ·intro hJ5_10
           refine join_ (σ := Nat × {p : Nat × Obj // StrO key p} × Nat) 3 (bm 13 3999) (fun s => [(107, .slice (some ⟨s.1, 0, none⟩) key.size s.2.1.1.1), (108, .slice (some ⟨s.2.2, 0, none⟩) 1 1)]) (fun s w' => Sw w gw X ((s.1, s.2.1.1.2) :: (s.2.2, part (some ⟨s.1, 0, none⟩) key.size s.2.1.1.1) :: (wr.heap.size, Obj.cells #[.bool true, .string key, .int .i64 id] 109) :: [(gd, (oEnI1 d nL PA nP ad nD nK)), (gl, y.obj)]) w') ?_ ?_
           rotate_left
           ·intro hJ10_11
            refine join_ (σ := Nat) 4 (bm 13 959) (fun s => [(102, .slice (some ⟨s, 0, none⟩) 2 2)]) (fun s w' => Sw w gw X ((s, rowo [0, id]) :: (wr.heap.size, Obj.cells #[.bool true, .string key, .int .i64 id] 109) :: [(gd, (oEnI1 d nL PA nP ad nD nK)), (gl, y.obj)]) w') ?_ ?_
            rotate_left
            ·intro hJ5
             refine join_ (σ := Nat × {p : Nat × Obj // StrO key p}) 4 (bm 13 1951) (fun s => [(107, .slice (some ⟨s.1, 0, none⟩) key.size s.2.1.1)]) (fun s w' => Sw w gw X ((s.1, s.2.1.2) :: (wr.heap.size, Obj.cells #[.bool true, .string key, .int .i64 id] 109) :: [(gd, (oEnI1 d nL PA nP ad nD nK)), (gl, y.obj)]) w') ?_ ?_
             rotate_left
             ·intro hJ10
              refine twq 5 10 102 107 13 959 1951 (fun K hK => ?_) (fun K hK => ?_)
              ·refine vq ?_
               refine hK.out _ _ (HS _ ((HR1.out.row _).sr.less (fun _ hr => (mt hr)))) (fun hHeld => ?_)
               clear hK K
               refine nx 102 ?_
               exact nz (hJ5 W2.heap.size _ ((HR1.out.row _).less (mc mh (fun _ hr => (mt hr)))))
              ·refine vq ?_
               refine hK.out _ _ (HS _ ((HR1.out.conv 5 key).sr.less (fun _ hr => (mt hr)))) (fun hHeld => ?_)
               clear hK K
               refine nx 107 ?_
               exact nz (hJ10 (W2.heap.size, ⟨convP W2 5 key, conv_O _ _ _⟩) _ ((HR1.out.conv 5 key).less (mc mh (fun _ hr => (mt hr)))))
             ·rintro ⟨b10, p10⟩ wn hh
              have HH := Lib.hid hh
              clear hh
              have hHeld := HS _ (HH.out.sr.less (fun _ hr => (mt hr)))
              refine ny ?_
              refine twq 5 11 102 108 13 1983 3999 (fun K hK => ?_) (fun K hK => ?_)
              ·refine vq ?_
               refine hK.out _ _ (HS _ ((HH.out.row _).sr.less (fun _ hr => (mt (mt hr))))) (fun hHeld => ?_)
               clear hK K
               refine nx 102 ?_
               exact nz (hJ5_10 (wn.heap.size, b10, p10) _ ((HH.out.row _).less (mc mh (mc (mt mh) (fun _ hr => (mt (mt hr)))))))
              ·refine vq ?_
               refine hK.out _ _ (HS _ ((HH.out.row _).sr.less (fun _ hr => (mt (mt hr))))) (fun hHeld => ?_)
               clear hK K
               refine nx 108 ?_
               exact nz (hJ10_11 (b10, p10, wn.heap.size) _ ((HH.out.row _).less (mc (mt mh) (mc mh (fun _ hr => (mt (mt hr)))))))
            ·rintro b5 wn hh
             have HH := Lib.hid hh
             clear hh
             have hHeld := HS _ (HH.out.sr.less (fun _ hr => (mt hr)))
             refine ny ?_
             refine twq 6 10 103 107 13 1023 1983 (fun K hK => ?_) (fun K hK => ?_)
             ·refine gq Tryz.func46 #[.pointer (some ⟨gw, 0, none⟩), .int .i64 1, .slice (some ⟨b5, 0, none⟩) 2 2] ?_
              with_reducible refine ((Sw.num 1 1 [0, id] b5 2 2 HH.out rfl rfl mh (by decide) (by decide) (by simp) HI1.out (by have := HLX.out; omega))).mono ?_
              rintro e wn' ⟨rfl, hn⟩
              refine ⟨_, rfl, ?_⟩
              have HN := Lib.hid hn
              clear hn
              refine hK.out _ _ (HS _ (HN.out.sr.less (fun _ hr => (mt hr)))) (fun hHeld => ?_)
              clear hK K
              refine nx 103 ?_
              exact nz (hJ5_6 b5 _ HN.out)
             ·refine vq ?_
              refine hK.out _ _ (HS _ ((HH.out.conv 5 key).sr.less (fun _ hr => (mt (mt hr))))) (fun hHeld => ?_)
              clear hK K
              refine nx 107 ?_
              exact nz (hJ5_10 (b5, wn.heap.size, ⟨convP wn 5 key, conv_O _ _ _⟩) _ ((HH.out.conv 5 key).less (mc (mt mh) (mc mh (fun _ hr => (mt (mt hr)))))))
           ·rintro ⟨b10, p10, b11⟩ wn hh
            have HH := Lib.hid hh
            clear hh
            have hHeld := HS _ (HH.out.sr.less (fun _ hr => (mt (mt hr))))
            refine ny ?_
            refine oq 5 102 13 4031 (fun K hK => ?_)
            refine vq ?_
            refine hK.out _ _ (HS _ ((HH.out.row _).sr.less (fun _ hr => (mt (mt (mt hr)))))) (fun hHeld => ?_)
            clear hK K
            refine nx 102 ?_
            exact nz (hJ5_10_11 (wn.heap.size, b10, p10, b11) _ ((HH.out.row _).less (mc mh (mc (mt mh) (mc (mt (mt mh)) (fun _ hr => (mt (mt (mt hr)))))))))
          ·rintro ⟨b5, b10, p10⟩ wn hh
           have HH := Lib.hid hh
           clear hh
           have hHeld := HS _ (HH.out.sr.less (fun _ hr => (mt (mt hr))))
           refine ny ?_
           refine twq 6 11 103 108 13 2047 4031 (fun K hK => ?_) (fun K hK => ?_)
           ·refine gq Tryz.func46 #[.pointer (some ⟨gw, 0, none⟩), .int .i64 1, .slice (some ⟨b5, 0, none⟩) 2 2] ?_
            with_reducible refine ((Sw.num 1 1 [0, id] b5 2 2 HH.out rfl rfl mh (by decide) (by decide) (by simp) HI1.out (by have := HLX.out; omega))).mono ?_
            rintro e wn' ⟨rfl, hn⟩
            refine ⟨_, rfl, ?_⟩
            have HN := Lib.hid hn
            clear hn
            refine hK.out _ _ (HS _ (HN.out.sr.less (fun _ hr => (mt (mt hr))))) (fun hHeld => ?_)
            clear hK K
            refine nx 103 ?_
            exact nz (hJ5_6_10 (b5, b10, p10) _ HN.out)
           ·refine vq ?_
            refine hK.out _ _ (HS _ ((HH.out.row _).sr.less (fun _ hr => (mt (mt (mt hr)))))) (fun hHeld => ?_)
            clear hK K
            refine nx 108 ?_
            exact nz (hJ5_10_11 (b5, b10, p10, wn.heap.size) _ ((HH.out.row _).less (mc (mt mh) (mc (mt (mt mh)) (mc mh (fun _ hr => (mt (mt (mt hr)))))))))
         ·rintro b5 wn hh
          have HH := Lib.hid hh
          clear hh
          have hHeld := HS _ (HH.out.sr.less (fun _ hr => (mt hr)))
          refine ny ?_
          refine oq 10 107 13 2047 (fun K hK => ?_)
          refine vq ?_
          refine hK.out _ _ (HS _ ((HH.out.conv 5 key).sr.less (fun _ hr => (mt (mt hr))))) (fun hHeld => ?_)
          clear hK K
          refine nx 107 ?_
          exact nz (hJ5_6_10 (b5, wn.heap.size, ⟨convP wn 5 key, conv_O _ _ _⟩) _ ((HH.out.conv 5 key).less (mc (mt mh) (mc mh (fun _ hr => (mt (mt hr)))))))
        ·rintro ⟨b5, b10, p10, b11⟩ wn hh
         have HH := Lib.hid hh
         clear hh
         have hHeld := HS _ (HH.out.sr.less (fun _ hr => (mt (mt (mt hr)))))
         refine ny ?_
         refine oq 6 103 13 4095 (fun K hK => ?_)
         refine gq Tryz.func46 #[.pointer (some ⟨gw, 0, none⟩), .int .i64 1, .slice (some ⟨b5, 0, none⟩) 2 2] ?_
         with_reducible refine ((Sw.num 1 1 [0, id] b5 2 2 HH.out rfl rfl mh (by decide) (by decide) (by simp) HI1.out (by have := HLX.out; omega))).mono ?_
         rintro e wn' ⟨rfl, hn⟩
         refine ⟨_, rfl, ?_⟩
         have HN := Lib.hid hn
         clear hn
         refine hK.out _ _ (HS _ (HN.out.sr.less (fun _ hr => (mt (mt (mt hr)))))) (fun hHeld => ?_)
         clear hK K
         refine nx 103 ?_
         exact nz (hJ5_6_10_11 (b5, b10, p10, b11) _ HN.out)
       ·rintro ⟨b5, b10, p10⟩ wn hh
        have HH := Lib.hid hh
        clear hh
        have hHeld := HS _ (HH.out.sr.less (fun _ hr => (mt (mt hr))))
        refine ny ?_
        refine oq 11 108 13 4095 (fun K hK => ?_)
        refine vq ?_
        refine hK.out _ _ (HS _ ((HH.out.row _).sr.less (fun _ hr => (mt (mt (mt hr)))))) (fun hHeld => ?_)
        clear hK K
        refine nx 108 ?_
        exact nz (hJ5_6_10_11 (b5, b10, p10, wn.heap.size) _ ((HH.out.row _).less (mc (mt mh) (mc (mt (mt mh)) (mc mh (fun _ hr => (mt (mt (mt hr)))))))))
      rintro ⟨b5, b10, p10, b11⟩ wn hh
      have HH := Lib.hid hh
      clear hh
      have hHeld := HS _ (HH.out.sr.less (fun _ hr => (mt (mt (mt hr)))))
      refine ny ?_
      refine oq 12 109 13 8191 (fun K hK => ?_)
      refine gq Tryz.func47 #[.pointer (some ⟨gw, 0, none⟩), .slice (some ⟨b11, 0, none⟩) 1 1] ?_
      with_reducible refine ((Sw.raws key p10.1 b10 b11 key.size 1 HH.out p10.2 rfl (mt (mt mh)) (mt mh) (by rw [HKy.out]; decide) (by simp [bes_length]; have := HLX.out; omega))).mono ?_
      rintro e wq ⟨rfl, hn⟩
      refine ⟨_, rfl, ?_⟩
      have HQ := Lib.hid hn
      clear hn
      refine hK.out _ _ (HS _ (HQ.out.sr.less (fun _ hr => mt (mt (mt hr))))) (fun hHeld => ?_)
      clear hK K
      refine nx 109 ?_
      refine done_ (by kernel_rfl) ?_
      go_wp2_with fail
      have ek : wrap64 ((k : Int) + 1) = ((k + 1 : Nat) : Int) := by have h1 := HK.out; unfold Ly.Ok at h1; have h2 := HO.out.hd.1; have h3 := ND.out; rw [wr64 (by omega) (by omega)]; omega
      rw [ek]
      refine ⟨⟨k + 1, by omega, rfl, ?_⟩, ?_⟩
      ·have hq := HQ.out.less (rows' := [(gd, (oEnI1 d nL PA nP ad nD nK)), (gl, y.obj)]) (fun _ hr => mt (mt (mt (mt hr))))
       rw [← HXe.out] at hq
       have e : dB4 y d ++ (d.D.take k).flatMap diB ++ bes 1 [0, id] ++ strL key = dB4 y d ++ (d.D.take (k + 1)).flatMap diB := by
        rw [HDr.out, List.flatMap_append]
        simp [diB, HFl.out]
       rw [e] at hq
       exact hq
      ·simp only [intOf]
       omega
     | false =>
      obtain rfl : (1 : Int) = fl := by rw [← HFl.out]; rfl
      go_upto_region 18 with fail
      generalize wr.alloc (Obj.cells #[.bool false, .string key, .int .i64 id] 109) = W1 at HR0 ⊢
      have HS : ∀ w', Sr w ((wr.heap.size, Obj.cells #[.bool false, .string key, .int .i64 id] 109) :: [(gd, (oEnI1 d nL PA nP ad nD nK)), (gl, y.obj)]) w' → w'.cell? ⟨wr.heap.size, 1, none⟩ = some (.string key) ∧ w'.cell? ⟨wr.heap.size, 2, none⟩ = some (.int .i64 id) := fun w' h => ⟨h.cell mh 1 rfl, h.cell mh 2 rfl⟩
      refine stq 13 0 (fun w' => w'.cell? ⟨wr.heap.size, 1, none⟩ = some (.string key) ∧ w'.cell? ⟨wr.heap.size, 2, none⟩ = some (.int .i64 id)) (HS _ (HR0.out.below (drewB _)).sr) (fun hHeld => ?_)
      have HR1 := Lib.hid (HR0.out.below (drewB _))
      generalize W1.drew = W2 at HR1 hHeld ⊢
      refine pq 0 97 13 1 ?_
      refine pq 1 98 13 3 ?_
      refine pq 2 99 13 7 ?_
      refine pq 3 100 13 15 ?_
      refine pq 7 104 13 143 ?_
      refine pq 8 105 13 399 ?_
      refine tq 4 101 13 415 hHeld ?_
      refine tq 9 106 13 927 hHeld ?_
      refine join_ (σ := Nat × Nat × {p : Nat × Obj // StrO key p} × Nat) 1 (bm 13 4095) (fun s => [(102, .slice (some ⟨s.1, 0, none⟩) 2 2), (103, .pointer (some ⟨gw, 0, none⟩)), (107, .slice (some ⟨s.2.1, 0, none⟩) key.size s.2.2.1.1.1), (108, .slice (some ⟨s.2.2.2, 0, none⟩) 1 1)]) (fun s w' => Sw w gw (X ++ bes 1 [1, id]) ((s.1, rowo [1, id]) :: (s.2.1, s.2.2.1.1.2) :: (s.2.2.2, part (some ⟨s.2.1, 0, none⟩) key.size s.2.2.1.1.1) :: (wr.heap.size, Obj.cells #[.bool false, .string key, .int .i64 id] 109) :: [(gd, (oEnI1 d nL PA nP ad nD nK)), (gl, y.obj)]) w') ?_ ?_
      rotate_left
      ·intro hJ5_6_10_11
       refine join_ (σ := Nat × Nat × {p : Nat × Obj // StrO key p}) 2 (bm 13 2047) (fun s => [(102, .slice (some ⟨s.1, 0, none⟩) 2 2), (103, .pointer (some ⟨gw, 0, none⟩)), (107, .slice (some ⟨s.2.1, 0, none⟩) key.size s.2.2.1.1)]) (fun s w' => Sw w gw (X ++ bes 1 [1, id]) ((s.1, rowo [1, id]) :: (s.2.1, s.2.2.1.2) :: (wr.heap.size, Obj.cells #[.bool false, .string key, .int .i64 id] 109) :: [(gd, (oEnI1 d nL PA nP ad nD nK)), (gl, y.obj)]) w') ?_ ?_
       rotate_left
       ·intro hJ5_6_10
        refine join_ (σ := Nat × Nat × {p : Nat × Obj // StrO key p} × Nat) 2 (bm 13 4031) (fun s => [(102, .slice (some ⟨s.1, 0, none⟩) 2 2), (107, .slice (some ⟨s.2.1, 0, none⟩) key.size s.2.2.1.1.1), (108, .slice (some ⟨s.2.2.2, 0, none⟩) 1 1)]) (fun s w' => Sw w gw X ((s.1, rowo [1, id]) :: (s.2.1, s.2.2.1.1.2) :: (s.2.2.2, part (some ⟨s.2.1, 0, none⟩) key.size s.2.2.1.1.1) :: (wr.heap.size, Obj.cells #[.bool false, .string key, .int .i64 id] 109) :: [(gd, (oEnI1 d nL PA nP ad nD nK)), (gl, y.obj)]) w') ?_ ?_
        rotate_left
        ·intro hJ5_10_11
         refine join_ (σ := Nat) 3 (bm 13 1023) (fun s => [(102, .slice (some ⟨s, 0, none⟩) 2 2), (103, .pointer (some ⟨gw, 0, none⟩))]) (fun s w' => Sw w gw (X ++ bes 1 [1, id]) ((s, rowo [1, id]) :: (wr.heap.size, Obj.cells #[.bool false, .string key, .int .i64 id] 109) :: [(gd, (oEnI1 d nL PA nP ad nD nK)), (gl, y.obj)]) w') ?_ ?_
         rotate_left
         ·intro hJ5_6
          refine join_ (σ := Nat × Nat × {p : Nat × Obj // StrO key p}) 3 (bm 13 1983) (fun s => [(102, .slice (some ⟨s.1, 0, none⟩) 2 2), (107, .slice (some ⟨s.2.1, 0, none⟩) key.size s.2.2.1.1)]) (fun s w' => Sw w gw X ((s.1, rowo [1, id]) :: (s.2.1, s.2.2.1.2) :: (wr.heap.size, Obj.cells #[.bool false, .string key, .int .i64 id] 109) :: [(gd, (oEnI1 d nL PA nP ad nD nK)), (gl, y.obj)]) w') ?_ ?_
          rotate_left
          ·intro hJ5_10
           refine join_ (σ := Nat × {p : Nat × Obj // StrO key p} × Nat) 3 (bm 13 3999) (fun s => [(107, .slice (some ⟨s.1, 0, none⟩) key.size s.2.1.1.1), (108, .slice (some ⟨s.2.2, 0, none⟩) 1 1)]) (fun s w' => Sw w gw X ((s.1, s.2.1.1.2) :: (s.2.2, part (some ⟨s.1, 0, none⟩) key.size s.2.1.1.1) :: (wr.heap.size, Obj.cells #[.bool false, .string key, .int .i64 id] 109) :: [(gd, (oEnI1 d nL PA nP ad nD nK)), (gl, y.obj)]) w') ?_ ?_
           rotate_left
           ·intro hJ10_11
            refine join_ (σ := Nat) 4 (bm 13 959) (fun s => [(102, .slice (some ⟨s, 0, none⟩) 2 2)]) (fun s w' => Sw w gw X ((s, rowo [1, id]) :: (wr.heap.size, Obj.cells #[.bool false, .string key, .int .i64 id] 109) :: [(gd, (oEnI1 d nL PA nP ad nD nK)), (gl, y.obj)]) w') ?_ ?_
            rotate_left
            ·intro hJ5
             refine join_ (σ := Nat × {p : Nat × Obj // StrO key p}) 4 (bm 13 1951) (fun s => [(107, .slice (some ⟨s.1, 0, none⟩) key.size s.2.1.1)]) (fun s w' => Sw w gw X ((s.1, s.2.1.2) :: (wr.heap.size, Obj.cells #[.bool false, .string key, .int .i64 id] 109) :: [(gd, (oEnI1 d nL PA nP ad nD nK)), (gl, y.obj)]) w') ?_ ?_
             rotate_left
             ·intro hJ10
              refine twq 5 10 102 107 13 959 1951 (fun K hK => ?_) (fun K hK => ?_)
              ·refine vq ?_
               refine hK.out _ _ (HS _ ((HR1.out.row _).sr.less (fun _ hr => (mt hr)))) (fun hHeld => ?_)
               clear hK K
               refine nx 102 ?_
               exact nz (hJ5 W2.heap.size _ ((HR1.out.row _).less (mc mh (fun _ hr => (mt hr)))))
              ·refine vq ?_
               refine hK.out _ _ (HS _ ((HR1.out.conv 5 key).sr.less (fun _ hr => (mt hr)))) (fun hHeld => ?_)
               clear hK K
               refine nx 107 ?_
               exact nz (hJ10 (W2.heap.size, ⟨convP W2 5 key, conv_O _ _ _⟩) _ ((HR1.out.conv 5 key).less (mc mh (fun _ hr => (mt hr)))))
             ·rintro ⟨b10, p10⟩ wn hh
              have HH := Lib.hid hh
              clear hh
              have hHeld := HS _ (HH.out.sr.less (fun _ hr => (mt hr)))
              refine ny ?_
              refine twq 5 11 102 108 13 1983 3999 (fun K hK => ?_) (fun K hK => ?_)
              ·refine vq ?_
               refine hK.out _ _ (HS _ ((HH.out.row _).sr.less (fun _ hr => (mt (mt hr))))) (fun hHeld => ?_)
               clear hK K
               refine nx 102 ?_
               exact nz (hJ5_10 (wn.heap.size, b10, p10) _ ((HH.out.row _).less (mc mh (mc (mt mh) (fun _ hr => (mt (mt hr)))))))
              ·refine vq ?_
               refine hK.out _ _ (HS _ ((HH.out.row _).sr.less (fun _ hr => (mt (mt hr))))) (fun hHeld => ?_)
               clear hK K
               refine nx 108 ?_
               exact nz (hJ10_11 (b10, p10, wn.heap.size) _ ((HH.out.row _).less (mc (mt mh) (mc mh (fun _ hr => (mt (mt hr)))))))
            ·rintro b5 wn hh
             have HH := Lib.hid hh
             clear hh
             have hHeld := HS _ (HH.out.sr.less (fun _ hr => (mt hr)))
             refine ny ?_
             refine twq 6 10 103 107 13 1023 1983 (fun K hK => ?_) (fun K hK => ?_)
             ·refine gq Tryz.func46 #[.pointer (some ⟨gw, 0, none⟩), .int .i64 1, .slice (some ⟨b5, 0, none⟩) 2 2] ?_
              with_reducible refine ((Sw.num 1 1 [1, id] b5 2 2 HH.out rfl rfl mh (by decide) (by decide) (by simp) HI1.out (by have := HLX.out; omega))).mono ?_
              rintro e wn' ⟨rfl, hn⟩
              refine ⟨_, rfl, ?_⟩
              have HN := Lib.hid hn
              clear hn
              refine hK.out _ _ (HS _ (HN.out.sr.less (fun _ hr => (mt hr)))) (fun hHeld => ?_)
              clear hK K
              refine nx 103 ?_
              exact nz (hJ5_6 b5 _ HN.out)
             ·refine vq ?_
              refine hK.out _ _ (HS _ ((HH.out.conv 5 key).sr.less (fun _ hr => (mt (mt hr))))) (fun hHeld => ?_)
              clear hK K
              refine nx 107 ?_
              exact nz (hJ5_10 (b5, wn.heap.size, ⟨convP wn 5 key, conv_O _ _ _⟩) _ ((HH.out.conv 5 key).less (mc (mt mh) (mc mh (fun _ hr => (mt (mt hr)))))))
           ·rintro ⟨b10, p10, b11⟩ wn hh
            have HH := Lib.hid hh
            clear hh
            have hHeld := HS _ (HH.out.sr.less (fun _ hr => (mt (mt hr))))
            refine ny ?_
            refine oq 5 102 13 4031 (fun K hK => ?_)
            refine vq ?_
            refine hK.out _ _ (HS _ ((HH.out.row _).sr.less (fun _ hr => (mt (mt (mt hr)))))) (fun hHeld => ?_)
            clear hK K
            refine nx 102 ?_
            exact nz (hJ5_10_11 (wn.heap.size, b10, p10, b11) _ ((HH.out.row _).less (mc mh (mc (mt mh) (mc (mt (mt mh)) (fun _ hr => (mt (mt (mt hr)))))))))
          ·rintro ⟨b5, b10, p10⟩ wn hh
           have HH := Lib.hid hh
           clear hh
           have hHeld := HS _ (HH.out.sr.less (fun _ hr => (mt (mt hr))))
           refine ny ?_
           refine twq 6 11 103 108 13 2047 4031 (fun K hK => ?_) (fun K hK => ?_)
           ·refine gq Tryz.func46 #[.pointer (some ⟨gw, 0, none⟩), .int .i64 1, .slice (some ⟨b5, 0, none⟩) 2 2] ?_
            with_reducible refine ((Sw.num 1 1 [1, id] b5 2 2 HH.out rfl rfl mh (by decide) (by decide) (by simp) HI1.out (by have := HLX.out; omega))).mono ?_
            rintro e wn' ⟨rfl, hn⟩
            refine ⟨_, rfl, ?_⟩
            have HN := Lib.hid hn
            clear hn
            refine hK.out _ _ (HS _ (HN.out.sr.less (fun _ hr => (mt (mt hr))))) (fun hHeld => ?_)
            clear hK K
            refine nx 103 ?_
            exact nz (hJ5_6_10 (b5, b10, p10) _ HN.out)
           ·refine vq ?_
            refine hK.out _ _ (HS _ ((HH.out.row _).sr.less (fun _ hr => (mt (mt (mt hr)))))) (fun hHeld => ?_)
            clear hK K
            refine nx 108 ?_
            exact nz (hJ5_10_11 (b5, b10, p10, wn.heap.size) _ ((HH.out.row _).less (mc (mt mh) (mc (mt (mt mh)) (mc mh (fun _ hr => (mt (mt (mt hr)))))))))
         ·rintro b5 wn hh
          have HH := Lib.hid hh
          clear hh
          have hHeld := HS _ (HH.out.sr.less (fun _ hr => (mt hr)))
          refine ny ?_
          refine oq 10 107 13 2047 (fun K hK => ?_)
          refine vq ?_
          refine hK.out _ _ (HS _ ((HH.out.conv 5 key).sr.less (fun _ hr => (mt (mt hr))))) (fun hHeld => ?_)
          clear hK K
          refine nx 107 ?_
          exact nz (hJ5_6_10 (b5, wn.heap.size, ⟨convP wn 5 key, conv_O _ _ _⟩) _ ((HH.out.conv 5 key).less (mc (mt mh) (mc mh (fun _ hr => (mt (mt hr)))))))
        ·rintro ⟨b5, b10, p10, b11⟩ wn hh
         have HH := Lib.hid hh
         clear hh
         have hHeld := HS _ (HH.out.sr.less (fun _ hr => (mt (mt (mt hr)))))
         refine ny ?_
         refine oq 6 103 13 4095 (fun K hK => ?_)
         refine gq Tryz.func46 #[.pointer (some ⟨gw, 0, none⟩), .int .i64 1, .slice (some ⟨b5, 0, none⟩) 2 2] ?_
         with_reducible refine ((Sw.num 1 1 [1, id] b5 2 2 HH.out rfl rfl mh (by decide) (by decide) (by simp) HI1.out (by have := HLX.out; omega))).mono ?_
         rintro e wn' ⟨rfl, hn⟩
         refine ⟨_, rfl, ?_⟩
         have HN := Lib.hid hn
         clear hn
         refine hK.out _ _ (HS _ (HN.out.sr.less (fun _ hr => (mt (mt (mt hr)))))) (fun hHeld => ?_)
         clear hK K
         refine nx 103 ?_
         exact nz (hJ5_6_10_11 (b5, b10, p10, b11) _ HN.out)
       ·rintro ⟨b5, b10, p10⟩ wn hh
        have HH := Lib.hid hh
        clear hh
        have hHeld := HS _ (HH.out.sr.less (fun _ hr => (mt (mt hr))))
        refine ny ?_
        refine oq 11 108 13 4095 (fun K hK => ?_)
        refine vq ?_
        refine hK.out _ _ (HS _ ((HH.out.row _).sr.less (fun _ hr => (mt (mt (mt hr)))))) (fun hHeld => ?_)
        clear hK K
        refine nx 108 ?_
        exact nz (hJ5_6_10_11 (b5, b10, p10, wn.heap.size) _ ((HH.out.row _).less (mc (mt mh) (mc (mt (mt mh)) (mc mh (fun _ hr => (mt (mt (mt hr)))))))))
      rintro ⟨b5, b10, p10, b11⟩ wn hh
      have HH := Lib.hid hh
      clear hh
      have hHeld := HS _ (HH.out.sr.less (fun _ hr => (mt (mt (mt hr)))))
      refine ny ?_
      refine oq 12 109 13 8191 (fun K hK => ?_)
      refine gq Tryz.func47 #[.pointer (some ⟨gw, 0, none⟩), .slice (some ⟨b11, 0, none⟩) 1 1] ?_
      with_reducible refine ((Sw.raws key p10.1 b10 b11 key.size 1 HH.out p10.2 rfl (mt (mt mh)) (mt mh) (by rw [HKy.out]; decide) (by simp [bes_length]; have := HLX.out; omega))).mono ?_
      rintro e wq ⟨rfl, hn⟩
      refine ⟨_, rfl, ?_⟩
      have HQ := Lib.hid hn
      clear hn
      refine hK.out _ _ (HS _ (HQ.out.sr.less (fun _ hr => mt (mt (mt hr))))) (fun hHeld => ?_)
      clear hK K
      refine nx 109 ?_
      refine done_ (by kernel_rfl) ?_
      go_wp2_with fail
      have ek : wrap64 ((k : Int) + 1) = ((k + 1 : Nat) : Int) := by have h1 := HK.out; unfold Ly.Ok at h1; have h2 := HO.out.hd.1; have h3 := ND.out; rw [wr64 (by omega) (by omega)]; omega
      rw [ek]
      refine ⟨⟨k + 1, by omega, rfl, ?_⟩, ?_⟩
      ·have hq := HQ.out.less (rows' := [(gd, (oEnI1 d nL PA nP ad nD nK)), (gl, y.obj)]) (fun _ hr => mt (mt (mt (mt hr))))
       rw [← HXe.out] at hq
       have e : dB4 y d ++ (d.D.take k).flatMap diB ++ bes 1 [1, id] ++ strL key = dB4 y d ++ (d.D.take (k + 1)).flatMap diB := by
        rw [HDr.out, List.flatMap_append]
        simp [diB, HFl.out]
       rw [e] at hq
       exact hq
      ·simp only [intOf]
       omega
    ·obtain rfl : nD = k := by omega
     have HG := Lib.hid (show Sw w gw (dB4 y d ++ d.D.flatMap diB) [(gd, (oEnI0 d nL PA nP DA nD nK)), (gl, y.obj)] wr from by have h := HS0.out; rw [show d.D.take nD = d.D from by rw [← ND.out, List.take_length]] at h; exact h)
     clear HS0 HF
     have HZ1 := Lib.hid (show wrap64 (12 * (wrap64 (y.c5 - (nD : Int)))) = ((12 * (y.c5 - (nD : Int))).toNat : Int) by
      have h1 := HK.out
      unfold Ly.Ok at h1
      have h2 := HO.out.hd.1
      have h3 := ND.out
      rw [wr64 (z := y.c5 - (nD : Int)) (by omega) (by omega), wr64 (by omega) (by omega)]
      omega)
     have HZ2 := Lib.hid (show (12 * (y.c5 - (nD : Int))).toNat ≤ 96 by have h1 := HK.out; unfold Ly.Ok at h1; omega)
     have HLX := Lib.hid (show (dB4 y d ++ d.D.flatMap diB).length ≤ 1100 by
      have h1 := flatD d.D (fun x hx => (HO.out.hd.2 x hx).1)
      have h2 := dB4_len HK.out HO.out
      have h3 := HS40.out
      have h4 := HO.out.hd.1
      have h6 := HK.out
      unfold Ly.Ok at h6
      rw [List.length_append, h1]
      omega)
     obtain ⟨zD, hzD⟩ : ∃ z, (12 * (y.c5 - (nD : Int))).toNat = z := ⟨_, rfl⟩
     rw [hzD] at HZ1 HZ2
     have HZ0 := Lib.hid hzD
     clear hzD
     have q4 := HG.out.sr.cell mh 4 rfl
     have q5 := HG.out.sr.cell (mt mh) 5 rfl
     go_wp2_with fail
     with_reducible refine (Sw.zeros HG.out _ zD HZ1.out (by rw [HZ1.out]; have := HZ2.out; omega)).mono ?_
     rintro e wj ⟨bz, rfl, hn⟩
     have HG1 := Lib.hid hn
     clear hn q4 q5
     go_wp2_with fail
     with_reducible refine (Sw.rawz (HG1.out.row (part (some ⟨bz, 0, none⟩) zD zD)) bz _ zD 1 mh (mt mh) (by have := HZ2.out; omega) (by have := HLX.out; omega)).mono ?_
     rintro e wk ⟨rfl, hn⟩
     have HP := Lib.hid (show Sw w gw (dB5 y d) [(gd, (oEnI0 d nL PA nP DA nD nK)), (gl, y.obj)] wk from by unfold dB5 zs; rw [ND.out, HZ0.out]; exact hn.less (fun _ hr => mt (mt hr)))
     clear hn HG HG1
     have q0 := HP.out.sr.cell (mt mh) 0 rfl
     have q1 := HP.out.sr.cell (mt mh) 1 rfl
     have q2 := HP.out.sr.cell (mt mh) 2 rfl
     have q3 := HP.out.sr.cell (mt mh) 3 rfl
     have q4 := HP.out.sr.cell (mt mh) 4 rfl
     have q5 := HP.out.sr.cell (mt mh) 5 rfl
     have q6 := HP.out.sr.cell (mt mh) 6 rfl
     have q7 := HP.out.sr.cell (mt mh) 7 rfl
     have q8 := HP.out.sr.cell (mt mh) 8 rfl
     have q9 := HP.out.sr.cell (mt mh) 9 rfl
     have q10 := HP.out.sr.cell (mt mh) 10 rfl
     have qk := HP.out.sr.cell mh 5 rfl
     go_wp2_with fail
     clear q0 q1 q2 q3 q4 q5 q6 q7 q8 q9 q10 qk
     with_reducible refine (Sw.blocksN HP.out HY.out HK.out d.KA nK d.Kc d.K NK.out HD.out.rk HO.out.hk.1 HO.out.hk.2 (by have h1 := dB5_len HK.out HO.out; have h2 := HS40.out; have h3 := HK.out; unfold Ly.Ok at h3; omega)).mono ?_
     rintro e wl ⟨rfl, hn⟩
     have HT := Lib.hid (show Sw w gw (dB6 y d) [(gd, (oEnI0 d nL PA nP DA nD nK)), (gl, y.obj)] wl from hn)
     have HDL := Lib.hid (deltaLen_le HK.out)
     have HDx := Lib.hid (dB6_len HK.out HO.out)
     clear hn HP
     go_upto_region 22 with fail
     have HS : ∀ w', Sr w [(gd, (oEnI0 d nL PA nP DA nD nK)), (gl, y.obj)] w' → w'.cell? ⟨gl, 0, none⟩ = some (.int .i64 y.c0) ∧ w'.cell? ⟨gl, 1, none⟩ = some (.int .i64 y.c1) ∧ w'.cell? ⟨gl, 2, none⟩ = some (.int .i64 y.c2) ∧ w'.cell? ⟨gl, 3, none⟩ = some (.int .i64 y.c3) ∧ w'.cell? ⟨gl, 4, none⟩ = some (.int .i64 y.c4) ∧ w'.cell? ⟨gl, 5, none⟩ = some (.int .i64 y.c5) ∧ w'.cell? ⟨gl, 6, none⟩ = some (.int .i64 y.c6) ∧ w'.cell? ⟨gl, 7, none⟩ = some (.int .i64 y.c7) ∧ w'.cell? ⟨gl, 8, none⟩ = some (.int .i64 y.c8) ∧ w'.cell? ⟨gl, 9, none⟩ = some (.int .i64 y.c9) ∧ w'.cell? ⟨gl, 10, none⟩ = some (.slice y.A y.l.length y.cap) := fun w' h => ⟨h.cell (mt mh) 0 rfl, h.cell (mt mh) 1 rfl, h.cell (mt mh) 2 rfl, h.cell (mt mh) 3 rfl, h.cell (mt mh) 4 rfl, h.cell (mt mh) 5 rfl, h.cell (mt mh) 6 rfl, h.cell (mt mh) 7 rfl, h.cell (mt mh) 8 rfl, h.cell (mt mh) 9 rfl, h.cell (mt mh) 10 rfl⟩
     refine start_ (n := 9) (S := fun w' => w'.cell? ⟨gl, 0, none⟩ = some (.int .i64 y.c0) ∧ w'.cell? ⟨gl, 1, none⟩ = some (.int .i64 y.c1) ∧ w'.cell? ⟨gl, 2, none⟩ = some (.int .i64 y.c2) ∧ w'.cell? ⟨gl, 3, none⟩ = some (.int .i64 y.c3) ∧ w'.cell? ⟨gl, 4, none⟩ = some (.int .i64 y.c4) ∧ w'.cell? ⟨gl, 5, none⟩ = some (.int .i64 y.c5) ∧ w'.cell? ⟨gl, 6, none⟩ = some (.int .i64 y.c6) ∧ w'.cell? ⟨gl, 7, none⟩ = some (.int .i64 y.c7) ∧ w'.cell? ⟨gl, 8, none⟩ = some (.int .i64 y.c8) ∧ w'.cell? ⟨gl, 9, none⟩ = some (.int .i64 y.c9) ∧ w'.cell? ⟨gl, 10, none⟩ = some (.slice y.A y.l.length y.cap)) (ds := [4]) (bm 9 0) (by kernel_rfl) rfl rfl (HS _ (HT.out.below (drewB _)).sr) (fun hHeld => ?_)
     have HT0 := Lib.hid (HT.out.below (drewB _))
     generalize wl.drew = wl0 at HT0 hHeld ⊢
     refine pq 1 129 9 2 ?_
     refine tq 0 128 9 3 hHeld ?_
     refine tq 2 130 9 7 hHeld ?_
     refine oq 3 131 9 15 (fun K hK => ?_)
     refine gq Tryz.func63 #[y.v] ?_
     with_reducible refine ((DeltaLen_call (HY.out.below HT0.out.bel) HK.out)).mono ?_
     rintro e wm ⟨rfl, hn⟩
     refine ⟨_, rfl, ?_⟩
     have HT1 := Lib.hid (HT0.out.below hn)
     clear hn
     refine hK.out _ _ (HS _ HT1.out.sr) (fun hHeld => ?_)
     clear hK K
     refine nx 131 ?_
     refine last_ (i := 4) (N := some 132) (bm 9 31) rfl rfl (by kernel_rfl) (by decide) (fun K hK => ?_)
     refine gq Tryz.func50 #[y.v, .pointer (some ⟨gw, 0, none⟩), .int .i64 y.deltaLen] ?_
     with_reducible refine ((Sw.sealed HT1.out HY.out HK.out y.deltaLen (by have := HDL.out; omega) (by have := HDL.out; omega) (by have := HDx.out; omega))).mono ?_
     rintro e wo ⟨v7, rfl, hv7, hb7⟩
     refine ⟨_, rfl, ?_⟩
     have HV7 := Lib.hid hv7
     have HB7 := Lib.hid hb7
     clear hv7 hb7
     refine hK.out _ _ ?_
     clear hK K
     refine nx 132 ?_
     refine pq 5 133 9 63 ?_
     refine pq 6 134 9 127 ?_
     refine pq 7 4 9 255 ?_
     refine pq 8 5 9 511 ?_
     refine done_ (by kernel_rfl) ?_
     go_wp2_with fail
     refine bodyPost_ret (v := .tuple #[v7, .int .i64 0]) ?_ rfl ?_
     ·simp [results, Tryz.results16, go_sem]
     ·exact ⟨_, rfl, HV7.out, HB7.out⟩
end Go.Proofs.YtmbnomlkhmcmaaaGreat.A
end
section
namespace Go.Proofs.YtmbnomlkhmcmaaaGreat.A
open Go.RowKit Go.Shelf Go.Proofs.YtmbnomlkhmcmaaaGreatW.PrintWords Go.Proofs.YtmbnomlkhmcmaaaGreatW.PrintLast Go.Proofs.YtmbnomlkhmcmaaaGreat.B Go.Proofs.YtmbnomlkhmcmaaaGreat.C
set_option linter.unusedVariables false
set_option linter.unusedSimpArgs false
def u8L (l : List Int) : List UInt8 := l.map fun x => UInt8.ofNat x.toNat
def u8ok (l : List Int) : Prop := ∀ x ∈ l, 0 ≤ x ∧ x < 256
theorem u8L_length (l : List Int) : (u8L l).length = l.length := by simp [u8L]
theorem u8_back {z : Int} (h : 0 ≤ z ∧ z < 256) : ((UInt8.ofNat z.toNat).toNat : Int) = z := by
  rw [UInt8.toNat_ofNat', Nat.mod_eq_of_lt (by omega)]
  omega
theorem nums_u8L {l : List Int} (h : u8ok l) : Lib.numsL (u8L l) = l := by
  unfold Lib.numsL u8L
  rw [List.map_map]
  conv => rhs; rw [← List.map_id l]
  apply List.map_congr_left
  intro x hx
  exact u8_back (h x hx)
theorem holds_of_C {w : World} {A : Option Addr} {l : List Int} (c : Nat) (hC : Kd.C (Kd.int .u8) w A l.length l) (hu : u8ok l) : Lib.HoldsBytes w (.slice A l.length c) (u8L l) := by
  obtain ⟨h1, h2, h3⟩ := Kd.reads_of_C (d := (0 : Int)) hC
  refine ⟨A, c, by rw [u8L_length], fun hA => ?_, fun a ha i x hx => ?_⟩
  · by_cases h : 0 < l.length
    · obtain ⟨ad, he, _⟩ := h3 h
      rw [hA] at he
      cases he
    · rw [List.eq_nil_of_length_eq_zero (show l.length = 0 by omega)]; rfl
  · have hi := (List.getElem?_eq_some_iff.1 hx).1
    rw [u8L_length] at hi
    obtain ⟨ad, he, hc⟩ := h3 (by omega)
    rw [ha] at he
    cases he
    have h4 := hc i hi
    unfold u8L at hx
    rw [List.getElem?_map] at hx
    obtain ⟨z, hz, rfl⟩ := Option.map_eq_some_iff.1 hx
    rw [u8_back (hu z (List.mem_of_getElem? hz)), h4, List.getD_eq_getElem?_getD, hz]
    rfl
theorem C_fresh {B : Nat} {w : World} {v : Value} {l : List UInt8} (h : Lib.FreshBytes B w v l) : ∃ A d, v = .slice A l.length d ∧ Kd.C (Kd.int .u8) w A (Lib.numsL l).length (Lib.numsL l) := by
  obtain ⟨g, cap, zs, rfl, _, h1, h2, h3, h4, h5, h6, _⟩ := h
  refine ⟨_, _, rfl, rfl, by rw [Lib.numsL_length]; have : maxLen ≤ 9223372036854775807 := by decide +kernel
                             omega, fun _ => ⟨_, rfl, fun j p hj => ⟨_, rfl, rfl, fun i u hu => ?_⟩⟩⟩
  have hlt := (List.getElem?_eq_some_iff.1 hj).1
  rw [Lib.numsL_length] at hlt
  have hp : zs.getD j 0 = p := by
    unfold Lib.numsL at hj
    rw [List.getElem?_map] at hj
    obtain ⟨x, hx, rfl⟩ := Option.map_eq_some_iff.1 hj
    rw [← h5] at hx
    unfold Lib.bytesOf at hx
    rw [List.getElem?_map] at hx
    obtain ⟨z, hz, rfl⟩ := Option.map_eq_some_iff.1 hx
    rw [List.getElem?_take_of_lt hlt] at hz
    rw [List.getD_eq_getElem?_getD, hz]
    exact (u8_back (h4 z (List.mem_of_getElem? hz))).symm
  have hc := h6 j (by omega)
  rw [hp] at hc
  match i, hu with
  | 0, hu =>
    obtain rfl : Value.int .u8 p = u := by simpa using hu
    show w.cell? (((⟨g, 0, none⟩ : Addr).add (j * 1)).add 0) = _
    rw [Nat.mul_one]
    rcases j with _ | j <;> simpa [Addr.add] using hc
theorem u8_zeros (z : Nat) : u8ok (List.replicate z 0) := fun x hx => by obtain ⟨_, rfl⟩ := List.mem_replicate.1 hx; exact ⟨by omega, by omega⟩
theorem Join_two (b k : Nat) (A A' : Option Addr) (l l' : List Int) (c c' : Nat) (w : World) (h0 : w.cell? ⟨b, 0, none⟩ = some (.slice A l.length c)) (h1 : w.cell? ⟨b, 1, none⟩ = some (.slice A' l'.length c')) (hC : Kd.C (Kd.int .u8) w A l.length l) (hC' : Kd.C (Kd.int .u8) w A' l'.length l') (hu : u8ok l) (hu' : u8ok l') (hk : 2 ≤ k) (hl : l.length + l'.length ≤ 4294967296) :
    Calls Tryz.prog 136 #[.slice (some ⟨b, 0, none⟩) 2 k, .slice none 0 0] w fun e w' => ∃ B d, e = .returned (.slice B (l ++ l').length d) ∧ Kd.C (Kd.int .u8) w' B (l ++ l').length (l ++ l') ∧ Below w.heap.size w w' := by
  have hP : Lib.PartsAt w ⟨b, 0, none⟩ [.slice A l.length c, .slice A' l'.length c'] [u8L l, u8L l'] := by
    refine ⟨rfl, fun i v hv => ?_, fun i v x hv hx => ?_⟩
    · match i, hv with
      | 0, hv => obtain rfl := Option.some.inj hv; simpa [Addr.add] using h0
      | 1, hv => obtain rfl := Option.some.inj hv; simpa [Addr.add] using h1
    · match i, hv, hx with
      | 0, hv, hx => obtain rfl := Option.some.inj hv; obtain rfl := Option.some.inj hx; exact holds_of_C c hC hu
      | 1, hv, hx => obtain rfl := Option.some.inj hv; obtain rfl := Option.some.inj hx; exact holds_of_C c' hC' hu'
  refine (Tryz.bytes_Join_many b 0 2 k _ _ (.slice none 0 0) [] w rfl (by omega) hP hk ⟨none, 0, rfl, fun _ => rfl, fun a ha => by cases ha⟩ (by omega) ?_).mono ?_
  · simp [Lib.lens, u8L_length]
    omega
  · rintro e w' ⟨v', rfl, hf, hb⟩
    obtain ⟨B, d, rfl, hC2⟩ := C_fresh hf
    have e1 : Lib.numsL (Lib.join [u8L l, u8L l'] []) = l ++ l' := by
      rw [Lib.join_cons]
      unfold Lib.joinTail
      simp only [List.map_cons, List.map_nil, List.nil_append, List.flatten_cons, List.flatten_nil, List.append_nil]
      have := nums_u8L hu
      have h2 := nums_u8L hu'
      unfold Lib.numsL at this h2 ⊢
      rw [List.map_append, this, h2]
    have e2 : (Lib.join [u8L l, u8L l'] []).length = (l ++ l').length := by rw [← e1, Lib.numsL_length]
    rw [e1] at hC2
    exact ⟨B, d, by rw [e2], hC2, hb⟩
abbrev parts (A : Option Addr) (n c : Nat) (A' : Option Addr) (n' c' : Nat) : Obj := .cells #[.slice A n c, .slice A' n' c'] 29
section
variable {w0 w w' : World} {g : Nat} {xs : List Int} {rows : List (Nat × Obj)}
theorem Sw.raw2 (h : Sw w0 g xs rows w) (bz b' z n k c : Nat) (A : Option Addr) (l : List Int) (hr : (b', parts (some ⟨bz, 0, none⟩) z z A n c) ∈ rows) (hz : (bz, zobj z) ∈ rows) (hn : l.length = n) (hC : Kd.C (Kd.int .u8) w A l.length l) (hu : u8ok l) (hk : 2 ≤ k) (hl : z ≤ 1000000) (hl2 : n ≤ 10000) (hx : xs.length ≤ 2147483648) :
    Calls Tryz.prog 47 #[.pointer (some ⟨g, 0, none⟩), .slice (some ⟨b', 0, none⟩) 2 k] w fun e w' => e = .returned (.pointer (some ⟨g, 0, none⟩)) ∧ Sw w0 g (xs ++ (List.replicate z 0 ++ l)) rows w' := by
  subst hn
  have hh := h.blk hr
  have hzC := C_zer (h.blk hz) (show z ≤ 1048576 by omega)
  have hd := drewB w
  refine (Raw_gen b' 2 (List.replicate z 0 ++ l) k g _ xs w h.2.1 (Join_two b' k (some ⟨bz, 0, none⟩) A (List.replicate z 0) l z c w.drew ?_ ?_ (Kd.C_below hzC hd) (Kd.C_below hC hd) (u8_zeros z) hu hk ?_) ?_ hx).mono ?_
  · rw [List.length_replicate]; exact cell_at (kept_at hd hh) 0 rfl
  · exact cell_at (kept_at hd hh) 1 rfl
  · simp; omega
  · simp; omega
  · rintro e w' ⟨rfl, hw', he⟩
    exact ⟨rfl, h.ef hw' he⟩
end
end Go.Proofs.YtmbnomlkhmcmaaaGreat.A
end
