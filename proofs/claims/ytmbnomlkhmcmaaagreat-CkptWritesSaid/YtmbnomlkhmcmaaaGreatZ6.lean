/- Part of the proof of LawCkptWrites. -/
import Derived.Test.YtmbnomlkhmcmaaaGreatZ5
section
namespace Go.Proofs.YtmbnomlkhmcmaaaGreat.A
open Go.RowKit Go.Shelf Go.Proofs.YtmbnomlkhmcmaaaGreatW.PrintWords Go.Proofs.YtmbnomlkhmcmaaaGreatW.PrintLast Go.Proofs.YtmbnomlkhmcmaaaGreat.B Go.Proofs.YtmbnomlkhmcmaaaGreat.C Go.Proofs.YtmbnomlkhmcmaaaGreat.Z
set_option linter.unusedVariables false
set_option linter.unusedSimpArgs false
abbrev Pl := S39
abbrev Et := S107
structure Fu where
 (s e : Int)
 (P : List Pl) (E : List Et) (V : List Int) (K : List Bk)
 (PA EA VA KA : Option Addr) (Pc Ec Vc Kc : Nat)
abbrev Fu.v (f : Fu) : Value := .agg #[.int .i64 f.s, .int .i64 f.e, .slice f.PA f.P.length f.Pc, .slice f.EA f.E.length f.Ec, .slice f.VA f.V.length f.Vc, .slice f.KA f.K.length f.Kc]
abbrev Fu.obj (f : Fu) : Obj := .cells #[.int .i64 f.s, .int .i64 f.e, .slice f.PA f.P.length f.Pc, .slice f.EA f.E.length f.Ec, .slice f.VA f.V.length f.Vc, .slice f.KA f.K.length f.Kc] 32
structure Fu.R (f : Fu) (w : World) : Prop where
 rp : Kd.C k39 w f.PA f.P.length f.P
 re : Kd.C k107 w f.EA f.E.length f.E
 rv : Kd.C (Kd.int .u8) w f.VA f.V.length f.V
 ru : u8ok f.V
 rk : Kd.C k170 w f.KA f.K.length f.K
def plBy (p : Pl) : List Int := bes 1 [p.f0] ++ bes 4 [p.f1]
def etB (x : Et) : List Int := bes 1 [x.f1] ++ strL x.f0
structure Fu.Ok (y : Ly) (f : Fu) : Prop where
 hc : ∀ n ∈ [f.s, f.e], okN 5 n
 hp : (f.P.length : Int) = y.c2 ∧ ∀ x ∈ f.P, (∀ n ∈ [x.f0], okN 1 n) ∧ ∀ n ∈ [x.f1], okN 4 n
 he : (f.E.length : Int) ≤ y.c2 ∧ ∀ x ∈ f.E, x.f0.size = 10 ∧ okN 1 x.f1
 hv : (f.V.length : Int) = y.vl
 hk : (f.K.length : Int) ≤ y.c6 ∧ ∀ b ∈ f.K, b.f1.length = 37 ∧ okN 1 b.f0
def fB1 (f : Fu) : List Int := bes 1 [2] ++ bes 5 [f.s, f.e]
def fB2 (f : Fu) : List Int := fB1 f ++ f.P.flatMap plBy
def fB3 (f : Fu) : List Int := fB2 f ++ bes 1 [(f.E.length : Int)]
def fB4 (f : Fu) : List Int := fB3 f ++ f.E.flatMap etB
def fB5 (y : Ly) (f : Fu) : List Int := fB4 f ++ zs (11 * (y.c2 - f.E.length)) ++ f.V
def fB6 (y : Ly) (f : Fu) : List Int := fB5 y f ++ stashB y f.K
theorem flatP (l : List Pl) : (l.flatMap plBy).length = 5 * l.length := by
 induction l with
 | nil => rfl
 | cons b l ih => rw [List.flatMap_cons, List.length_append, ih]; simp [plBy, bes_length]; omega
theorem flatE : ∀ l : List Et, (∀ x ∈ l, x.f0.size = 10) → (l.flatMap etB).length = 11 * l.length
 | [], _ => rfl
 | b :: l, h => by
  have h1 := h b List.mem_cons_self
  have h2 := flatE l (fun x hx => h x (List.mem_cons_of_mem _ hx))
  rw [List.flatMap_cons, List.length_append, h2]
  simp [etB, bes_length, strL_length, h1]
  omega
section
variable {y : Ly} {f : Fu}
theorem fB1_len : (fB1 f).length = 11 := by simp [fB1, bes_length]
theorem fB2_len (ok : y.Ok) (h : f.Ok y) : ((fB2 f).length : Int) = 11 + 5 * y.c2 := by
 have h2 := h.hp.1
 unfold fB2
 rw [List.length_append, fB1_len, flatP]
 omega
theorem fB3_len (ok : y.Ok) (h : f.Ok y) : ((fB3 f).length : Int) = 12 + 5 * y.c2 := by
 have h1 := fB2_len ok h
 unfold fB3
 rw [List.length_append, bes_length]
 simp
 omega
theorem fB4_len (ok : y.Ok) (h : f.Ok y) : ((fB4 f).length : Int) = 12 + 5 * y.c2 + 11 * f.E.length := by
 have h1 := fB3_len ok h
 unfold fB4
 rw [List.length_append, flatE _ (fun x hx => (h.he.2 x hx).1)]
 omega
theorem fB5_len (ok : y.Ok) (h : f.Ok y) : ((fB5 y f).length : Int) = 12 + 16 * y.c2 + y.vl := by
 have h1 := fB4_len ok h
 have h2 := h.he.1
 have h3 := h.hv
 unfold fB5
 rw [List.length_append, List.length_append]
 simp [zs]
 omega
theorem fB6_len (ok : y.Ok) (h : f.Ok y) : ((fB6 y f).length : Int) = y.fullLen := by
 have h1 := fB5_len ok h
 have h2 := h.hk.1
 unfold fB6 stashB Ly.fullLen
 rw [List.length_append, List.length_append, List.length_append, bes_length, flat_len _ (fun x hx => (h.hk.2 x hx).1)]
 simp
 unfold Ly.Ok at ok
 omega
end
abbrev oEnR0 (d : Fu) (PA : Option Addr) (nP : Nat) (EA : Option Addr) (nE : Nat) (nV : Nat) (nK : Nat) : Obj := Obj.cells #[.int .i64 d.s, .int .i64 d.e, .slice PA nP d.Pc, .slice EA nE d.Ec, .slice d.VA nV d.Vc, .slice d.KA nK d.Kc] 32
abbrev oEnR1 (d : Fu) (PA : Option Addr) (nP : Nat) (ad : Addr) (nE : Nat) (nV : Nat) (nK : Nat) : Obj := Obj.cells #[.int .i64 d.s, .int .i64 d.e, .slice PA nP d.Pc, .slice (some ad) nE d.Ec, .slice d.VA nV d.Vc, .slice d.KA nK d.Kc] 32
abbrev oEnR2 (d : Fu) (ad : Addr) (nP : Nat) (EA : Option Addr) (nE : Nat) (nV : Nat) (nK : Nat) : Obj := Obj.cells #[.int .i64 d.s, .int .i64 d.e, .slice (some ad) nP d.Pc, .slice EA nE d.Ec, .slice d.VA nV d.Vc, .slice d.KA nK d.Kc] 32
abbrev oEnR3 (key : ByteArray) (id : Int) : Obj := Obj.cells #[.string key, .int .i64 id] 107
abbrev oEnR4 (lf : Int) (tg : Int) : Obj := Obj.cells #[.int .i64 lf, .int .i64 tg] 39
set_option maxHeartbeats 16000000 in
set_option maxRecDepth 100000 in
theorem EncodeFull_ok {y : Ly} {w : World} (hy : y.R w) (ok : y.Ok) (d : Fu) (hd : d.R w) (hok : d.Ok y) (may : ∀ W, Below w.heap.size w W → Calls Tryz.prog 45 #[d.v, y.v] W fun e w' => e = .returned (.bool true) ∧ Below W.heap.size W w') :
  Calls Tryz.prog 12 #[y.v, d.v] w fun e w' => ∃ v, e = .returned (.tuple #[v, .int .i64 0]) ∧ Kd.R (Kd.int .u8) 5 w' w.heap.size (fun _ => True) v (fill (fB6 y d) (y.whole y.fullLen).toNat) ∧ Below w.heap.size w w' := by
 have HY := Lib.hid hy
 have HK := Lib.hid ok
 have HD := Lib.hid hd
 have HO := Lib.hid hok
 have HM := Lib.hid may
 have H64 := Lib.hid (show 1 ≤ y.c2 ∧ y.c2 ≤ 64 by unfold Ly.Ok at ok; omega)
 obtain ⟨nP, hnP⟩ : ∃ n, d.P.length = n := ⟨_, rfl⟩
 obtain ⟨nE, hnE⟩ : ∃ n, d.E.length = n := ⟨_, rfl⟩
 obtain ⟨nV, hnV⟩ : ∃ n, d.V.length = n := ⟨_, rfl⟩
 obtain ⟨nK, hnK⟩ : ∃ n, d.K.length = n := ⟨_, rfl⟩
 obtain ⟨PA, hPA⟩ : ∃ p, d.PA = p := ⟨_, rfl⟩
 obtain ⟨EA, hEA⟩ : ∃ p, d.EA = p := ⟨_, rfl⟩
 have EP := Lib.hid hPA
 have EE := Lib.hid hEA
 have HRP := Lib.hid (show Kd.C k39 w PA d.P.length d.P from hPA ▸ hd.rp)
 have HRE := Lib.hid (show Kd.C k107 w EA d.E.length d.E from hEA ▸ hd.re)
 have NP := Lib.hid hnP
 have NE := Lib.hid hnE
 have NV := Lib.hid hnV
 have NK := Lib.hid hnK
 show Calls _ _ #[y.v, .agg #[.int .i64 d.s, .int .i64 d.e, .slice d.PA d.P.length d.Pc, .slice d.EA d.E.length d.Ec, .slice d.VA d.V.length d.Vc, .slice d.KA d.K.length d.Kc]] _ _
 rw [hnP, hnE, hnV, hnK, hPA, hEA]
 clear hy ok hd hok may hnP hnE hnV hnK hPA hEA
 go_enter Tryz.func12, Tryz.ntmps12
 go_wp2_with (first
  | ((with_reducible refine gate_dst (N := 2) rfl ?_); refine box_event ?hg (N := 2) ?hd (cs := #[.int .i64 y.c0, .int .i64 y.c1, .int .i64 y.c2, .int .i64 y.c3, .int .i64 y.c4, .int .i64 y.c5, .int .i64 y.c6, .int .i64 y.c7, .int .i64 y.c8, .int .i64 y.c9, .slice y.A y.l.length y.cap]) (t := 46) ?hr ?_; (case hd => rfl); (case hg => rfl); (case hr => first | (go_simp; done) | (go_simp; rfl)); intro gl hg_ wgl hbox_ hb_; have HX1 := Lib.hid (Sr.box (Sr.nil w) hg_ hbox_ hb_); clear hbox_ hb_ hg_)
  | ((with_reducible refine gate_dst (N := 3) rfl ?_); refine box_event ?hg (N := 3) ?hd (cs := #[.int .i64 d.s, .int .i64 d.e, .slice PA nP d.Pc, .slice EA nE d.Ec, .slice d.VA nV d.Vc, .slice d.KA nK d.Kc]) (t := 32) ?hr ?_; (case hd => rfl); (case hg => rfl); (case hr => first | (go_simp; done) | (go_simp; rfl)); intro gd hg_ wgd hbox_ hb_; have HX2 := Lib.hid (Sr.box HX1.out hg_ hbox_ hb_); have qd0 := HX2.out.cell mh 0 rfl; have qd1 := HX2.out.cell mh 1 rfl; have qd2 := HX2.out.cell mh 2 rfl; have qd3 := HX2.out.cell mh 3 rfl; have qd4 := HX2.out.cell mh 4 rfl; have qd5 := HX2.out.cell mh 5 rfl; have ql0 := HX2.out.cell (mt mh) 0 rfl; have ql1 := HX2.out.cell (mt mh) 1 rfl; have ql2 := HX2.out.cell (mt mh) 2 rfl; have ql3 := HX2.out.cell (mt mh) 3 rfl; have ql4 := HX2.out.cell (mt mh) 4 rfl; have ql5 := HX2.out.cell (mt mh) 5 rfl; have ql6 := HX2.out.cell (mt mh) 6 rfl; have ql7 := HX2.out.cell (mt mh) 7 rfl; have ql8 := HX2.out.cell (mt mh) 8 rfl; have ql9 := HX2.out.cell (mt mh) 9 rfl; have ql10 := HX2.out.cell (mt mh) 10 rfl; clear hbox_ hb_ hg_)
  | fail)
 clear qd0 qd1 qd2 qd3 qd4 qd5 ql0 ql1 ql2 ql3 ql4 ql5 ql6 ql7 ql8 ql9 ql10
 have hm := HM.out _ HX2.out.bel
 rw [show d.v = .agg #[.int .i64 d.s, .int .i64 d.e, .slice PA nP d.Pc, .slice EA nE d.Ec, .slice d.VA nV d.Vc, .slice d.KA nK d.Kc] by rw [← NP.out, ← NE.out, ← NV.out, ← NK.out, ← EP.out, ← EE.out]] at hm
 refine hm.mono ?_
 clear hm
 rintro e w3 ⟨rfl, hb_⟩
 have HX3 := Lib.hid (HX2.out.below hb_)
 clear hb_ HX1 HX2
 go_upto_region 3 with fail
 have HO2 := Lib.hid (show ∀ n ∈ [(2 : Int)], okN 1 n from fun n hn => by rw [List.mem_singleton.1 hn]; exact ⟨by omega, by omega⟩)
 have HnE := Lib.hid (show ∀ n ∈ [(nE : Int)], okN 1 n from fun n hn => by rw [List.mem_singleton.1 hn]; have h1 := H64.out; have h2 := HO.out.he.1; have h3 := NE.out; exact ⟨by omega, by omega⟩)
 have HS : ∀ w', Sr w [(gd, (oEnR0 d PA nP EA nE nV nK)), (gl, y.obj)] w' → w'.cell? ⟨gd, 0, none⟩ = some (.int .i64 d.s) ∧ w'.cell? ⟨gd, 1, none⟩ = some (.int .i64 d.e) := fun w' h => ⟨h.cell mh 0 rfl, h.cell mh 1 rfl⟩
 refine stq 12 0 (fun w' => w'.cell? ⟨gd, 0, none⟩ = some (.int .i64 d.s) ∧ w'.cell? ⟨gd, 1, none⟩ = some (.int .i64 d.e)) (HS _ (HX3.out.below (drewB _))) (fun hHeld => ?_)
 refine pq 3 18 12 8 ?_
 refine pq 4 19 12 24 ?_
 refine pq 6 21 12 88 ?_
 refine pq 7 22 12 216 ?_
 refine tq 5 20 12 248 hHeld ?_
 refine tq 8 23 12 504 hHeld ?_
 refine join_ (σ := Nat × Nat × Nat) 2 (bm 12 1023) (fun s => [(15, .pointer (some ⟨s.1, 0, none⟩)), (16, .slice (some ⟨s.2.1, 0, none⟩) 1 1), (17, .pointer (some ⟨s.1, 0, none⟩)), (24, .slice (some ⟨s.2.2, 0, none⟩) 2 2)]) (fun s w' => Sw w s.1 ([] ++ bes 1 [2]) ((s.2.1, rowo [2]) :: (s.2.2, rowo [d.s, d.e]) :: [(gd, (oEnR0 d PA nP EA nE nV nK)), (gl, y.obj)]) w') ?_ ?_
 rotate_left
 ·intro hJ0_1_2_9
  refine join_ (σ := Nat × Nat) 3 (bm 12 511) (fun s => [(15, .pointer (some ⟨s.1, 0, none⟩)), (16, .slice (some ⟨s.2, 0, none⟩) 1 1), (17, .pointer (some ⟨s.1, 0, none⟩))]) (fun s w' => Sw w s.1 ([] ++ bes 1 [2]) ((s.2, rowo [2]) :: [(gd, (oEnR0 d PA nP EA nE nV nK)), (gl, y.obj)]) w') ?_ ?_
  rotate_left
  ·intro hJ0_1_2
   refine join_ (σ := Nat × Nat × Nat) 3 (bm 12 1019) (fun s => [(15, .pointer (some ⟨s.1, 0, none⟩)), (16, .slice (some ⟨s.2.1, 0, none⟩) 1 1), (24, .slice (some ⟨s.2.2, 0, none⟩) 2 2)]) (fun s w' => Sw w s.1 [] ((s.2.1, rowo [2]) :: (s.2.2, rowo [d.s, d.e]) :: [(gd, (oEnR0 d PA nP EA nE nV nK)), (gl, y.obj)]) w') ?_ ?_
   rotate_left
   ·intro hJ0_1_9
    refine join_ (σ := Nat × Nat) 4 (bm 12 507) (fun s => [(15, .pointer (some ⟨s.1, 0, none⟩)), (16, .slice (some ⟨s.2, 0, none⟩) 1 1)]) (fun s w' => Sw w s.1 [] ((s.2, rowo [2]) :: [(gd, (oEnR0 d PA nP EA nE nV nK)), (gl, y.obj)]) w') ?_ ?_
    rotate_left
    ·intro hJ0_1
     refine join_ (σ := Nat × Nat) 4 (bm 12 1017) (fun s => [(15, .pointer (some ⟨s.1, 0, none⟩)), (24, .slice (some ⟨s.2, 0, none⟩) 2 2)]) (fun s w' => Sw w s.1 [] ((s.2, rowo [d.s, d.e]) :: [(gd, (oEnR0 d PA nP EA nE nV nK)), (gl, y.obj)]) w') ?_ ?_
     rotate_left
     ·intro hJ0_9
      refine join_ (σ := Nat × Nat) 4 (bm 12 1018) (fun s => [(16, .slice (some ⟨s.1, 0, none⟩) 1 1), (24, .slice (some ⟨s.2, 0, none⟩) 2 2)]) (fun s w' => Sr w ((s.1, rowo [2]) :: (s.2, rowo [d.s, d.e]) :: [(gd, (oEnR0 d PA nP EA nE nV nK)), (gl, y.obj)]) w') ?_ ?_
      rotate_left
      ·intro hJ1_9
       refine join_ (σ := Nat) 5 (bm 12 505) (fun s => [(15, .pointer (some ⟨s, 0, none⟩))]) (fun s w' => Sw w s [] ([(gd, (oEnR0 d PA nP EA nE nV nK)), (gl, y.obj)]) w') ?_ ?_
       rotate_left
       ·intro hJ0
        refine join_ (σ := Nat) 5 (bm 12 506) (fun s => [(16, .slice (some ⟨s, 0, none⟩) 1 1)]) (fun s w' => Sr w ((s, rowo [2]) :: [(gd, (oEnR0 d PA nP EA nE nV nK)), (gl, y.obj)]) w') ?_ ?_
        rotate_left
        ·intro hJ1
         refine join_ (σ := Nat) 5 (bm 12 1016) (fun s => [(24, .slice (some ⟨s, 0, none⟩) 2 2)]) (fun s w' => Sr w ((s, rowo [d.s, d.e]) :: [(gd, (oEnR0 d PA nP EA nE nV nK)), (gl, y.obj)]) w') ?_ ?_
         rotate_left
         ·intro hJ9
          refine thq 0 1 9 15 16 24 12 505 506 1016 (fun K hK => ?_) (fun K hK => ?_) (fun K hK => ?_)
          ·refine vq ?_
           refine hK.out _ _ (HS _ ((HX3.out.below (drewB _)).wr.sr.less (fun _ hr => hr))) (fun hHeld => ?_)
           clear hK K
           refine nx 15 ?_
           exact nz (hJ0 w3.drew.heap.size _ ((HX3.out.below (drewB _)).wr))
          ·refine vq ?_
           refine hK.out _ _ (HS _ (((HX3.out.below (drewB _)).row _).less (fun _ hr => (mt hr)))) (fun hHeld => ?_)
           clear hK K
           refine nx 16 ?_
           exact nz (hJ1 w3.drew.heap.size _ (((HX3.out.below (drewB _)).row _).less (mc mh (fun _ hr => (mt hr)))))
          ·refine vq ?_
           refine hK.out _ _ (HS _ (((HX3.out.below (drewB _)).row _).less (fun _ hr => (mt hr)))) (fun hHeld => ?_)
           clear hK K
           refine nx 24 ?_
           exact nz (hJ9 w3.drew.heap.size _ (((HX3.out.below (drewB _)).row _).less (mc mh (fun _ hr => (mt hr)))))
         ·rintro b9 wn hh
          have HH := Lib.hid hh
          clear hh
          have hHeld := HS _ (HH.out.less (fun _ hr => (mt hr)))
          refine ny ?_
          refine twq 0 1 15 16 12 1017 1018 (fun K hK => ?_) (fun K hK => ?_)
          ·refine vq ?_
           refine hK.out _ _ (HS _ (HH.out.wr.sr.less (fun _ hr => (mt hr)))) (fun hHeld => ?_)
           clear hK K
           refine nx 15 ?_
           exact nz (hJ0_9 (wn.heap.size, b9) _ (HH.out.wr))
          ·refine vq ?_
           refine hK.out _ _ (HS _ ((HH.out.row _).less (fun _ hr => (mt (mt hr))))) (fun hHeld => ?_)
           clear hK K
           refine nx 16 ?_
           exact nz (hJ1_9 (wn.heap.size, b9) _ ((HH.out.row _).less (mc mh (mc (mt mh) (fun _ hr => (mt (mt hr)))))))
        ·rintro b1 wn hh
         have HH := Lib.hid hh
         clear hh
         have hHeld := HS _ (HH.out.less (fun _ hr => (mt hr)))
         refine ny ?_
         refine twq 0 9 15 24 12 507 1018 (fun K hK => ?_) (fun K hK => ?_)
         ·refine vq ?_
          refine hK.out _ _ (HS _ (HH.out.wr.sr.less (fun _ hr => (mt hr)))) (fun hHeld => ?_)
          clear hK K
          refine nx 15 ?_
          exact nz (hJ0_1 (wn.heap.size, b1) _ (HH.out.wr))
         ·refine vq ?_
          refine hK.out _ _ (HS _ ((HH.out.row _).less (fun _ hr => (mt (mt hr))))) (fun hHeld => ?_)
          clear hK K
          refine nx 24 ?_
          exact nz (hJ1_9 (b1, wn.heap.size) _ ((HH.out.row _).less (mc (mt mh) (mc mh (fun _ hr => (mt (mt hr)))))))
       ·rintro gw wn hh
        have HH := Lib.hid hh
        clear hh
        have hHeld := HS _ (HH.out.sr.less (fun _ hr => hr))
        refine ny ?_
        refine twq 1 9 16 24 12 507 1017 (fun K hK => ?_) (fun K hK => ?_)
        ·refine vq ?_
         refine hK.out _ _ (HS _ ((HH.out.row _).sr.less (fun _ hr => (mt hr)))) (fun hHeld => ?_)
         clear hK K
         refine nx 16 ?_
         exact nz (hJ0_1 (gw, wn.heap.size) _ ((HH.out.row _).less (mc mh (fun _ hr => (mt hr)))))
        ·refine vq ?_
         refine hK.out _ _ (HS _ ((HH.out.row _).sr.less (fun _ hr => (mt hr)))) (fun hHeld => ?_)
         clear hK K
         refine nx 24 ?_
         exact nz (hJ0_9 (gw, wn.heap.size) _ ((HH.out.row _).less (mc mh (fun _ hr => (mt hr)))))
      ·rintro ⟨b1, b9⟩ wn hh
       have HH := Lib.hid hh
       clear hh
       have hHeld := HS _ (HH.out.less (fun _ hr => (mt (mt hr))))
       refine ny ?_
       refine oq 0 15 12 1019 (fun K hK => ?_)
       refine vq ?_
       refine hK.out _ _ (HS _ (HH.out.wr.sr.less (fun _ hr => (mt (mt hr))))) (fun hHeld => ?_)
       clear hK K
       refine nx 15 ?_
       exact nz (hJ0_1_9 (wn.heap.size, b1, b9) _ (HH.out.wr))
     ·rintro ⟨gw, b9⟩ wn hh
      have HH := Lib.hid hh
      clear hh
      have hHeld := HS _ (HH.out.sr.less (fun _ hr => (mt hr)))
      refine ny ?_
      refine oq 1 16 12 1019 (fun K hK => ?_)
      refine vq ?_
      refine hK.out _ _ (HS _ ((HH.out.row _).sr.less (fun _ hr => (mt (mt hr))))) (fun hHeld => ?_)
      clear hK K
      refine nx 16 ?_
      exact nz (hJ0_1_9 (gw, wn.heap.size, b9) _ ((HH.out.row _).less (mc mh (mc (mt mh) (fun _ hr => (mt (mt hr)))))))
    ·rintro ⟨gw, b1⟩ wn hh
     have HH := Lib.hid hh
     clear hh
     have hHeld := HS _ (HH.out.sr.less (fun _ hr => (mt hr)))
     refine ny ?_
     refine twq 2 9 17 24 12 511 1019 (fun K hK => ?_) (fun K hK => ?_)
     ·refine gq Tryz.func46 #[.pointer (some ⟨gw, 0, none⟩), .int .i64 1, .slice (some ⟨b1, 0, none⟩) 1 1] ?_
      with_reducible refine ((Sw.num 1 1 [2] b1 1 1 HH.out rfl rfl mh (by decide) (by decide) (by simp) HO2.out (by simp [bes_length]))).mono ?_
      rintro e wn' ⟨rfl, hn⟩
      refine ⟨_, rfl, ?_⟩
      have HN := Lib.hid hn
      clear hn
      refine hK.out _ _ (HS _ (HN.out.sr.less (fun _ hr => (mt hr)))) (fun hHeld => ?_)
      clear hK K
      refine nx 17 ?_
      exact nz (hJ0_1_2 (gw, b1) _ HN.out)
     ·refine vq ?_
      refine hK.out _ _ (HS _ ((HH.out.row _).sr.less (fun _ hr => (mt (mt hr))))) (fun hHeld => ?_)
      clear hK K
      refine nx 24 ?_
      exact nz (hJ0_1_9 (gw, b1, wn.heap.size) _ ((HH.out.row _).less (mc (mt mh) (mc mh (fun _ hr => (mt (mt hr)))))))
   ·rintro ⟨gw, b1, b9⟩ wn hh
    have HH := Lib.hid hh
    clear hh
    have hHeld := HS _ (HH.out.sr.less (fun _ hr => (mt (mt hr))))
    refine ny ?_
    refine oq 2 17 12 1023 (fun K hK => ?_)
    refine gq Tryz.func46 #[.pointer (some ⟨gw, 0, none⟩), .int .i64 1, .slice (some ⟨b1, 0, none⟩) 1 1] ?_
    with_reducible refine ((Sw.num 1 1 [2] b1 1 1 HH.out rfl rfl mh (by decide) (by decide) (by simp) HO2.out (by simp [bes_length]))).mono ?_
    rintro e wn' ⟨rfl, hn⟩
    refine ⟨_, rfl, ?_⟩
    have HN := Lib.hid hn
    clear hn
    refine hK.out _ _ (HS _ (HN.out.sr.less (fun _ hr => (mt (mt hr))))) (fun hHeld => ?_)
    clear hK K
    refine nx 17 ?_
    exact nz (hJ0_1_2_9 (gw, b1, b9) _ HN.out)
  ·rintro ⟨gw, b1⟩ wn hh
   have HH := Lib.hid hh
   clear hh
   have hHeld := HS _ (HH.out.sr.less (fun _ hr => (mt hr)))
   refine ny ?_
   refine oq 9 24 12 1023 (fun K hK => ?_)
   refine vq ?_
   refine hK.out _ _ (HS _ ((HH.out.row _).sr.less (fun _ hr => (mt (mt hr))))) (fun hHeld => ?_)
   clear hK K
   refine nx 24 ?_
   exact nz (hJ0_1_2_9 (gw, b1, wn.heap.size) _ ((HH.out.row _).less (mc (mt mh) (mc mh (fun _ hr => (mt (mt hr)))))))
 rintro ⟨gw, b1, b9⟩ wn hh
 have HH := Lib.hid hh
 clear hh
 have hHeld := HS _ (HH.out.sr.less (fun _ hr => (mt (mt hr))))
 refine ny ?_
 refine oq 10 25 12 2047 (fun K hK => ?_)
 refine gq Tryz.func46 #[.pointer (some ⟨gw, 0, none⟩), .int .i64 5, .slice (some ⟨b9, 0, none⟩) 2 2] ?_
 with_reducible refine ((Sw.num 5 5 [d.s, d.e] b9 2 2 HH.out rfl rfl (mt mh) (by decide) (by decide) (by simp) HO.out.hc (by simp [bes_length]))).mono ?_
 rintro e wa ⟨rfl, hn⟩
 refine ⟨_, rfl, ?_⟩
 have HQ := Lib.hid hn
 clear hn
 refine hK.out _ _ (HS _ (HQ.out.sr.less (fun _ hr => mt (mt hr)))) (fun hHeld => ?_)
 clear hK K
 refine nx 25 ?_
 refine pq 11 6 12 4095 ?_
 refine done_ (by kernel_rfl) ?_
 have HA := Lib.hid (show Sw w gw (fB1 d) [(gd, (oEnR0 d PA nP EA nE nV nK)), (gl, y.obj)] wa from HQ.out.less (fun _ hr => mt (mt hr)))
 clear HQ HH HS HX3 hHeld
 have qn := HA.out.sr.cell mh 2 rfl
 go_wp2_with fail
 clear qn
 go_loopw [29] (fun i wr => ∃ k : Nat, k ≤ nP ∧ i = .int .i64 k ∧ Hid (Sw w gw (fB1 d ++ (d.P.take k).flatMap plBy) [(gd, (oEnR0 d PA nP EA nE nV nK)), (gl, y.obj)] wr)) (fun i _ => nP - (intOf i).toNat)
 case atStart =>
  exact ⟨0, Nat.zero_le _, rfl, by simpa using HA⟩
 case round =>
  obtain ⟨k, hk, rfl, HS0⟩ := hrel
  by_cases hlt : k < nP
  ·obtain ⟨⟨lf, tg⟩, hb⟩ : ∃ b, rd_T39 d.P (k : Int) = b := ⟨_, rfl⟩
   have hks : k < d.P.length := by have := NP.out; omega
   have hd : d.P.take (k + 1) = d.P.take k ++ [⟨lf, tg⟩] := by
    rw [List.take_succ_eq_append_getElem hks, ← hb]
    congr 2
    unfold rd_T39
    rw [Int.toNat_natCast, List.getD_eq_getElem?_getD, List.getElem?_eq_getElem hks]
    rfl
   have hmem : (⟨lf, tg⟩ : Pl) ∈ d.P := by
    have : (⟨lf, tg⟩ : Pl) ∈ d.P.take (k + 1) := by rw [hd]; simp
    exact List.mem_of_mem_take this
   obtain ⟨hy1, hy2⟩ := HO.out.hp.2 _ hmem
   have HI1 := Lib.hid (show ∀ n ∈ [lf], okN 1 n from hy1)
   have HI4 := Lib.hid (show ∀ n ∈ [tg], okN 4 n from hy2)
   clear hy1 hy2
   obtain ⟨ad, rfl, q0, q1⟩ := at_T39 HRP.out (k : Int) (by omega) (by omega)
   rw [hb] at q0 q1
   simp only [Int.toNat_natCast] at q0 q1
   replace q0 := (HS0.out.bel.cell (World.block_lt_of_cell? w _ q0)).trans q0
   replace q1 := (HS0.out.bel.cell (World.block_lt_of_cell? w _ q1)).trans q1
   have HDr := Lib.hid hd
   have HLX := Lib.hid (show (fB1 d ++ (d.P.take k).flatMap plBy).length ≤ 1100 by
    have h1 := flatP (d.P.take k)
    have h2 := fB1_len (f := d)
    have h3 := H64.out
    have h4 := HO.out.hp.1
    have h5 := NP.out
    rw [List.length_append, h1, List.length_take]
    omega)
   obtain ⟨X, hX⟩ : ∃ X, fB1 d ++ (d.P.take k).flatMap plBy = X := ⟨_, rfl⟩
   rw [hX] at HS0 HLX
   have HXe := Lib.hid hX
   clear hb hd hmem hks hX
   go_upto_region 7 with fail
   have HR0 := Lib.hid (HS0.out.row ((oEnR4 lf tg)))
   generalize wr.alloc ((oEnR4 lf tg)) = W1 at HR0 ⊢
   have HS : ∀ w', Sr w ((wr.heap.size, (oEnR4 lf tg)) :: [(gd, (oEnR2 d ad nP EA nE nV nK)), (gl, y.obj)]) w' → w'.cell? ⟨wr.heap.size, 0, none⟩ = some (.int .i64 lf) ∧ w'.cell? ⟨wr.heap.size, 1, none⟩ = some (.int .i64 tg) := fun w' h => ⟨h.cell mh 0 rfl, h.cell mh 1 rfl⟩
   refine stq 9 0 (fun w' => w'.cell? ⟨wr.heap.size, 0, none⟩ = some (.int .i64 lf) ∧ w'.cell? ⟨wr.heap.size, 1, none⟩ = some (.int .i64 tg)) (HS _ (HR0.out.below (drewB _)).sr) (fun hHeld => ?_)
   have HR1 := Lib.hid (HR0.out.below (drewB _))
   generalize W1.drew = W2 at HR1 hHeld ⊢
   refine pq 0 33 9 1 ?_
   refine pq 1 34 9 3 ?_
   refine pq 5 38 9 35 ?_
   refine tq 2 35 9 39 hHeld ?_
   refine tq 6 39 9 103 hHeld ?_
   refine join_ (σ := Nat × Nat) 1 (bm 9 255) (fun s => [(36, .slice (some ⟨s.1, 0, none⟩) 1 1), (37, .pointer (some ⟨gw, 0, none⟩)), (40, .slice (some ⟨s.2, 0, none⟩) 1 1)]) (fun s w' => Sw w gw (X ++ bes 1 [lf]) ((s.1, rowo [lf]) :: (s.2, rowo [tg]) :: (wr.heap.size, (oEnR4 lf tg)) :: [(gd, (oEnR2 d ad nP EA nE nV nK)), (gl, y.obj)]) w') ?_ ?_
   rotate_left
   ·intro hJ3_4_7
    refine join_ (σ := Nat) 2 (bm 9 127) (fun s => [(36, .slice (some ⟨s, 0, none⟩) 1 1), (37, .pointer (some ⟨gw, 0, none⟩))]) (fun s w' => Sw w gw (X ++ bes 1 [lf]) ((s, rowo [lf]) :: (wr.heap.size, (oEnR4 lf tg)) :: [(gd, (oEnR2 d ad nP EA nE nV nK)), (gl, y.obj)]) w') ?_ ?_
    rotate_left
    ·intro hJ3_4
     refine join_ (σ := Nat × Nat) 2 (bm 9 239) (fun s => [(36, .slice (some ⟨s.1, 0, none⟩) 1 1), (40, .slice (some ⟨s.2, 0, none⟩) 1 1)]) (fun s w' => Sw w gw X ((s.1, rowo [lf]) :: (s.2, rowo [tg]) :: (wr.heap.size, (oEnR4 lf tg)) :: [(gd, (oEnR2 d ad nP EA nE nV nK)), (gl, y.obj)]) w') ?_ ?_
     rotate_left
     ·intro hJ3_7
      refine join_ (σ := Nat) 3 (bm 9 111) (fun s => [(36, .slice (some ⟨s, 0, none⟩) 1 1)]) (fun s w' => Sw w gw X ((s, rowo [lf]) :: (wr.heap.size, (oEnR4 lf tg)) :: [(gd, (oEnR2 d ad nP EA nE nV nK)), (gl, y.obj)]) w') ?_ ?_
      rotate_left
      ·intro hJ3
       refine join_ (σ := Nat) 3 (bm 9 231) (fun s => [(40, .slice (some ⟨s, 0, none⟩) 1 1)]) (fun s w' => Sw w gw X ((s, rowo [tg]) :: (wr.heap.size, (oEnR4 lf tg)) :: [(gd, (oEnR2 d ad nP EA nE nV nK)), (gl, y.obj)]) w') ?_ ?_
       rotate_left
       ·intro hJ7
        refine twq 3 7 36 40 9 111 231 (fun K hK => ?_) (fun K hK => ?_)
        ·refine vq ?_
         refine hK.out _ _ (HS _ ((HR1.out.row _).sr.less (fun _ hr => (mt hr)))) (fun hHeld => ?_)
         clear hK K
         refine nx 36 ?_
         exact nz (hJ3 W2.heap.size _ ((HR1.out.row _).less (mc mh (fun _ hr => (mt hr)))))
        ·refine vq ?_
         refine hK.out _ _ (HS _ ((HR1.out.row _).sr.less (fun _ hr => (mt hr)))) (fun hHeld => ?_)
         clear hK K
         refine nx 40 ?_
         exact nz (hJ7 W2.heap.size _ ((HR1.out.row _).less (mc mh (fun _ hr => (mt hr)))))
       ·rintro b7 wn hh
        have HH := Lib.hid hh
        clear hh
        have hHeld := HS _ (HH.out.sr.less (fun _ hr => (mt hr)))
        refine ny ?_
        refine oq 3 36 9 239 (fun K hK => ?_)
        refine vq ?_
        refine hK.out _ _ (HS _ ((HH.out.row _).sr.less (fun _ hr => (mt (mt hr))))) (fun hHeld => ?_)
        clear hK K
        refine nx 36 ?_
        exact nz (hJ3_7 (wn.heap.size, b7) _ ((HH.out.row _).less (mc mh (mc (mt mh) (fun _ hr => (mt (mt hr)))))))
      ·rintro b3 wn hh
       have HH := Lib.hid hh
       clear hh
       have hHeld := HS _ (HH.out.sr.less (fun _ hr => (mt hr)))
       refine ny ?_
       refine twq 4 7 37 40 9 127 239 (fun K hK => ?_) (fun K hK => ?_)
       ·refine gq Tryz.func46 #[.pointer (some ⟨gw, 0, none⟩), .int .i64 1, .slice (some ⟨b3, 0, none⟩) 1 1] ?_
        with_reducible refine ((Sw.num 1 1 [lf] b3 1 1 HH.out rfl rfl mh (by decide) (by decide) (by simp) HI1.out (by have := HLX.out; omega))).mono ?_
        rintro e wn' ⟨rfl, hn⟩
        refine ⟨_, rfl, ?_⟩
        have HN := Lib.hid hn
        clear hn
        refine hK.out _ _ (HS _ (HN.out.sr.less (fun _ hr => (mt hr)))) (fun hHeld => ?_)
        clear hK K
        refine nx 37 ?_
        exact nz (hJ3_4 b3 _ HN.out)
       ·refine vq ?_
        refine hK.out _ _ (HS _ ((HH.out.row _).sr.less (fun _ hr => (mt (mt hr))))) (fun hHeld => ?_)
        clear hK K
        refine nx 40 ?_
        exact nz (hJ3_7 (b3, wn.heap.size) _ ((HH.out.row _).less (mc (mt mh) (mc mh (fun _ hr => (mt (mt hr)))))))
     ·rintro ⟨b3, b7⟩ wn hh
      have HH := Lib.hid hh
      clear hh
      have hHeld := HS _ (HH.out.sr.less (fun _ hr => (mt (mt hr))))
      refine ny ?_
      refine oq 4 37 9 255 (fun K hK => ?_)
      refine gq Tryz.func46 #[.pointer (some ⟨gw, 0, none⟩), .int .i64 1, .slice (some ⟨b3, 0, none⟩) 1 1] ?_
      with_reducible refine ((Sw.num 1 1 [lf] b3 1 1 HH.out rfl rfl mh (by decide) (by decide) (by simp) HI1.out (by have := HLX.out; omega))).mono ?_
      rintro e wn' ⟨rfl, hn⟩
      refine ⟨_, rfl, ?_⟩
      have HN := Lib.hid hn
      clear hn
      refine hK.out _ _ (HS _ (HN.out.sr.less (fun _ hr => (mt (mt hr))))) (fun hHeld => ?_)
      clear hK K
      refine nx 37 ?_
      exact nz (hJ3_4_7 (b3, b7) _ HN.out)
    ·rintro b3 wn hh
     have HH := Lib.hid hh
     clear hh
     have hHeld := HS _ (HH.out.sr.less (fun _ hr => (mt hr)))
     refine ny ?_
     refine oq 7 40 9 255 (fun K hK => ?_)
     refine vq ?_
     refine hK.out _ _ (HS _ ((HH.out.row _).sr.less (fun _ hr => (mt (mt hr))))) (fun hHeld => ?_)
     clear hK K
     refine nx 40 ?_
     exact nz (hJ3_4_7 (b3, wn.heap.size) _ ((HH.out.row _).less (mc (mt mh) (mc mh (fun _ hr => (mt (mt hr)))))))
   rintro ⟨b3, b7⟩ wn hh
   have HH := Lib.hid hh
   clear hh
   have hHeld := HS _ (HH.out.sr.less (fun _ hr => (mt (mt hr))))
   refine ny ?_
   refine oq 8 41 9 511 (fun K hK => ?_)
   refine gq Tryz.func46 #[.pointer (some ⟨gw, 0, none⟩), .int .i64 4, .slice (some ⟨b7, 0, none⟩) 1 1] ?_
   with_reducible refine ((Sw.num 4 4 [tg] b7 1 1 HH.out rfl rfl (mt mh) (by decide) (by decide) (by simp) HI4.out (by simp [bes_length]; have := HLX.out; omega))).mono ?_
   rintro e wq ⟨rfl, hn⟩
   refine ⟨_, rfl, ?_⟩
   have HQ := Lib.hid hn
   clear hn
   refine hK.out _ _ (HS _ (HQ.out.sr.less (fun _ hr => mt (mt hr)))) (fun hHeld => ?_)
   clear hK K
   refine nx 41 ?_
   refine done_ (by kernel_rfl) ?_
   go_wp2_with fail
   have ek : wrap64 ((k : Int) + 1) = ((k + 1 : Nat) : Int) := by have h1 := H64.out; have h2 := HO.out.hp.1; have h3 := NP.out; rw [wr64 (by omega) (by omega)]; omega
   rw [ek]
   refine ⟨⟨k + 1, by omega, rfl, ?_⟩, ?_⟩
   ·have hq := HQ.out.less (rows' := [(gd, (oEnR2 d ad nP EA nE nV nK)), (gl, y.obj)]) (fun _ hr => mt (mt (mt hr)))
    rw [← HXe.out] at hq
    have e : fB1 d ++ (d.P.take k).flatMap plBy ++ bes 1 [lf] ++ bes 4 [tg] = fB1 d ++ (d.P.take (k + 1)).flatMap plBy := by
     rw [HDr.out, List.flatMap_append]
     simp [plBy]
    rw [e] at hq
    exact hq
   ·simp only [intOf]
    omega
  ·obtain rfl : nP = k := by omega
   have HE := Lib.hid (show Sw w gw (fB1 d ++ d.P.flatMap plBy) [(gd, (oEnR0 d PA nP EA nE nV nK)), (gl, y.obj)] wr from by have h := HS0.out; rw [show d.P.take nP = d.P from by rw [← NP.out, List.take_length]] at h; exact h)
   clear HS0 HA
   have HB := Lib.hid (show Sw w gw (fB2 d) [(gd, (oEnR0 d PA nP EA nE nV nK)), (gl, y.obj)] wr from HE.out)
   clear HE
   have q3 := HB.out.sr.cell mh 3 rfl
   go_wp2_with fail
   refine (Sw.num 1 1 [(nE : Int)] _ 1 1 (HB.out.row (rowo [(nE : Int)])) rfl rfl mh (by decide) (by decide) (by simp) HnE.out (by have h1 := fB2_len HK.out HO.out; have h2 := H64.out; omega)).mono ?_
   rintro e wg ⟨rfl, hn⟩
   have HC := Lib.hid (show Sw w gw (fB3 d) [(gd, (oEnR0 d PA nP EA nE nV nK)), (gl, y.obj)] wg from by unfold fB3; rw [NE.out]; exact hn.less (fun _ hr => mt hr))
   clear hn HB q3
   have qn := HC.out.sr.cell mh 3 rfl
   go_wp2_with fail
   clear qn
   go_loopw [52] (fun i wr => ∃ k : Nat, k ≤ nE ∧ i = .int .i64 k ∧ Hid (Sw w gw (fB3 d ++ (d.E.take k).flatMap etB) [(gd, (oEnR0 d PA nP EA nE nV nK)), (gl, y.obj)] wr)) (fun i _ => nE - (intOf i).toNat)
   case atStart =>
    exact ⟨0, Nat.zero_le _, rfl, by simpa using HC⟩
   case round =>
    obtain ⟨k, hk, rfl, HS0⟩ := hrel
    by_cases hlt : k < nE
    ·obtain ⟨⟨key, id⟩, hb⟩ : ∃ b, rd_T107 d.E (k : Int) = b := ⟨_, rfl⟩
     have hks : k < d.E.length := by have := NE.out; omega
     have hd : d.E.take (k + 1) = d.E.take k ++ [⟨key, id⟩] := by
      rw [List.take_succ_eq_append_getElem hks, ← hb]
      congr 2
      unfold rd_T107
      rw [Int.toNat_natCast, List.getD_eq_getElem?_getD, List.getElem?_eq_getElem hks]
      rfl
     have hmem : (⟨key, id⟩ : Et) ∈ d.E := by
      have : (⟨key, id⟩ : Et) ∈ d.E.take (k + 1) := by rw [hd]; simp
      exact List.mem_of_mem_take this
     obtain ⟨hy1, hy2⟩ := HO.out.he.2 _ hmem
     have HKy := Lib.hid (show key.size = 10 from hy1)
     have HI1 := Lib.hid (show ∀ n ∈ [id], okN 1 n from fun n hn => by rw [List.mem_singleton.1 hn]; exact hy2)
     clear hy1 hy2
     obtain ⟨ad, rfl, q0, q1⟩ := at_T107 HRE.out (k : Int) (by omega) (by omega)
     rw [hb] at q0 q1
     simp only [Int.toNat_natCast] at q0 q1
     replace q0 := (HS0.out.bel.cell (World.block_lt_of_cell? w _ q0)).trans q0
     replace q1 := (HS0.out.bel.cell (World.block_lt_of_cell? w _ q1)).trans q1
     have HDr := Lib.hid hd
     have HLX := Lib.hid (show (fB3 d ++ (d.E.take k).flatMap etB).length ≤ 1100 by
      have h1 := flatE (d.E.take k) (fun x hx => (HO.out.he.2 x (List.mem_of_mem_take hx)).1)
      have h2 := fB3_len HK.out HO.out
      have h3 := H64.out
      have h4 := HO.out.he.1
      have h5 := NE.out
      rw [List.length_append, h1, List.length_take]
      omega)
     obtain ⟨X, hX⟩ : ∃ X, fB3 d ++ (d.E.take k).flatMap etB = X := ⟨_, rfl⟩
     rw [hX] at HS0 HLX
     have HXe := Lib.hid hX
     clear hb hd hmem hks hX
     have kc := fun (W : World) => Lib.run_convert_string_bytes (P := Tryz.prog) W 9 29 5 key Tryz.underlying9 Tryz.underlying29 Tryz.underlying5
     have HR0 := Lib.hid (HS0.out.row ((oEnR3 key id)))
     go_upto_region 13 with fail
     generalize wr.alloc ((oEnR3 key id)) = W1 at HR0 ⊢
     have HS : ∀ w', Sr w ((wr.heap.size, (oEnR3 key id)) :: [(gd, (oEnR1 d PA nP ad nE nV nK)), (gl, y.obj)]) w' → w'.cell? ⟨wr.heap.size, 0, none⟩ = some (.string key) ∧ w'.cell? ⟨wr.heap.size, 1, none⟩ = some (.int .i64 id) := fun w' h => ⟨h.cell mh 0 rfl, h.cell mh 1 rfl⟩
     refine stq 10 0 (fun w' => w'.cell? ⟨wr.heap.size, 0, none⟩ = some (.string key) ∧ w'.cell? ⟨wr.heap.size, 1, none⟩ = some (.int .i64 id)) (HS _ (HR0.out.below (drewB _)).sr) (fun hHeld => ?_)
     have HR1 := Lib.hid (HR0.out.below (drewB _))
     generalize W1.drew = W2 at HR1 hHeld ⊢
     refine pq 0 56 10 1 ?_
     refine pq 1 57 10 3 ?_
     refine pq 5 61 10 35 ?_
     refine tq 2 58 10 39 hHeld ?_
     refine tq 6 62 10 103 hHeld ?_
     refine join_ (σ := Nat × Nat × {p : Nat × Obj // StrO key p} × Nat) 1 (bm 10 511) (fun s => [(59, .slice (some ⟨s.1, 0, none⟩) 1 1), (60, .pointer (some ⟨gw, 0, none⟩)), (63, .slice (some ⟨s.2.1, 0, none⟩) key.size s.2.2.1.1.1), (64, .slice (some ⟨s.2.2.2, 0, none⟩) 1 1)]) (fun s w' => Sw w gw (X ++ bes 1 [id]) ((s.1, rowo [id]) :: (s.2.1, s.2.2.1.1.2) :: (s.2.2.2, part (some ⟨s.2.1, 0, none⟩) key.size s.2.2.1.1.1) :: (wr.heap.size, (oEnR3 key id)) :: [(gd, (oEnR1 d PA nP ad nE nV nK)), (gl, y.obj)]) w') ?_ ?_
     rotate_left
     ·intro hJ3_4_7_8
      refine join_ (σ := Nat × Nat × {p : Nat × Obj // StrO key p}) 2 (bm 10 255) (fun s => [(59, .slice (some ⟨s.1, 0, none⟩) 1 1), (60, .pointer (some ⟨gw, 0, none⟩)), (63, .slice (some ⟨s.2.1, 0, none⟩) key.size s.2.2.1.1)]) (fun s w' => Sw w gw (X ++ bes 1 [id]) ((s.1, rowo [id]) :: (s.2.1, s.2.2.1.2) :: (wr.heap.size, (oEnR3 key id)) :: [(gd, (oEnR1 d PA nP ad nE nV nK)), (gl, y.obj)]) w') ?_ ?_
      rotate_left
      ·intro hJ3_4_7
       refine join_ (σ := Nat × Nat × {p : Nat × Obj // StrO key p} × Nat) 2 (bm 10 495) (fun s => [(59, .slice (some ⟨s.1, 0, none⟩) 1 1), (63, .slice (some ⟨s.2.1, 0, none⟩) key.size s.2.2.1.1.1), (64, .slice (some ⟨s.2.2.2, 0, none⟩) 1 1)]) (fun s w' => Sw w gw X ((s.1, rowo [id]) :: (s.2.1, s.2.2.1.1.2) :: (s.2.2.2, part (some ⟨s.2.1, 0, none⟩) key.size s.2.2.1.1.1) :: (wr.heap.size, (oEnR3 key id)) :: [(gd, (oEnR1 d PA nP ad nE nV nK)), (gl, y.obj)]) w') ?_ ?_
       rotate_left
       ·intro hJ3_7_8
        refine join_ (σ := Nat) 3 (bm 10 127) (fun s => [(59, .slice (some ⟨s, 0, none⟩) 1 1), (60, .pointer (some ⟨gw, 0, none⟩))]) (fun s w' => Sw w gw (X ++ bes 1 [id]) ((s, rowo [id]) :: (wr.heap.size, (oEnR3 key id)) :: [(gd, (oEnR1 d PA nP ad nE nV nK)), (gl, y.obj)]) w') ?_ ?_
        rotate_left
        ·intro hJ3_4
         refine join_ (σ := Nat × Nat × {p : Nat × Obj // StrO key p}) 3 (bm 10 239) (fun s => [(59, .slice (some ⟨s.1, 0, none⟩) 1 1), (63, .slice (some ⟨s.2.1, 0, none⟩) key.size s.2.2.1.1)]) (fun s w' => Sw w gw X ((s.1, rowo [id]) :: (s.2.1, s.2.2.1.2) :: (wr.heap.size, (oEnR3 key id)) :: [(gd, (oEnR1 d PA nP ad nE nV nK)), (gl, y.obj)]) w') ?_ ?_
         rotate_left
         ·intro hJ3_7
          refine join_ (σ := Nat × {p : Nat × Obj // StrO key p} × Nat) 3 (bm 10 487) (fun s => [(63, .slice (some ⟨s.1, 0, none⟩) key.size s.2.1.1.1), (64, .slice (some ⟨s.2.2, 0, none⟩) 1 1)]) (fun s w' => Sw w gw X ((s.1, s.2.1.1.2) :: (s.2.2, part (some ⟨s.1, 0, none⟩) key.size s.2.1.1.1) :: (wr.heap.size, (oEnR3 key id)) :: [(gd, (oEnR1 d PA nP ad nE nV nK)), (gl, y.obj)]) w') ?_ ?_
          rotate_left
          ·intro hJ7_8
           refine join_ (σ := Nat) 4 (bm 10 111) (fun s => [(59, .slice (some ⟨s, 0, none⟩) 1 1)]) (fun s w' => Sw w gw X ((s, rowo [id]) :: (wr.heap.size, (oEnR3 key id)) :: [(gd, (oEnR1 d PA nP ad nE nV nK)), (gl, y.obj)]) w') ?_ ?_
           rotate_left
           ·intro hJ3
            refine join_ (σ := Nat × {p : Nat × Obj // StrO key p}) 4 (bm 10 231) (fun s => [(63, .slice (some ⟨s.1, 0, none⟩) key.size s.2.1.1)]) (fun s w' => Sw w gw X ((s.1, s.2.1.2) :: (wr.heap.size, (oEnR3 key id)) :: [(gd, (oEnR1 d PA nP ad nE nV nK)), (gl, y.obj)]) w') ?_ ?_
            rotate_left
            ·intro hJ7
             refine twq 3 7 59 63 10 111 231 (fun K hK => ?_) (fun K hK => ?_)
             ·refine vq ?_
              refine hK.out _ _ (HS _ ((HR1.out.row _).sr.less (fun _ hr => (mt hr)))) (fun hHeld => ?_)
              clear hK K
              refine nx 59 ?_
              exact nz (hJ3 W2.heap.size _ ((HR1.out.row _).less (mc mh (fun _ hr => (mt hr)))))
             ·refine vq ?_
              refine hK.out _ _ (HS _ ((HR1.out.conv 5 key).sr.less (fun _ hr => (mt hr)))) (fun hHeld => ?_)
              clear hK K
              refine nx 63 ?_
              exact nz (hJ7 (W2.heap.size, ⟨convP W2 5 key, conv_O _ _ _⟩) _ ((HR1.out.conv 5 key).less (mc mh (fun _ hr => (mt hr)))))
            ·rintro ⟨b7, p7⟩ wn hh
             have HH := Lib.hid hh
             clear hh
             have hHeld := HS _ (HH.out.sr.less (fun _ hr => (mt hr)))
             refine ny ?_
             refine twq 3 8 59 64 10 239 487 (fun K hK => ?_) (fun K hK => ?_)
             ·refine vq ?_
              refine hK.out _ _ (HS _ ((HH.out.row _).sr.less (fun _ hr => (mt (mt hr))))) (fun hHeld => ?_)
              clear hK K
              refine nx 59 ?_
              exact nz (hJ3_7 (wn.heap.size, b7, p7) _ ((HH.out.row _).less (mc mh (mc (mt mh) (fun _ hr => (mt (mt hr)))))))
             ·refine vq ?_
              refine hK.out _ _ (HS _ ((HH.out.row _).sr.less (fun _ hr => (mt (mt hr))))) (fun hHeld => ?_)
              clear hK K
              refine nx 64 ?_
              exact nz (hJ7_8 (b7, p7, wn.heap.size) _ ((HH.out.row _).less (mc (mt mh) (mc mh (fun _ hr => (mt (mt hr)))))))
           ·rintro b3 wn hh
            have HH := Lib.hid hh
            clear hh
            have hHeld := HS _ (HH.out.sr.less (fun _ hr => (mt hr)))
            refine ny ?_
            refine twq 4 7 60 63 10 127 239 (fun K hK => ?_) (fun K hK => ?_)
            ·refine gq Tryz.func46 #[.pointer (some ⟨gw, 0, none⟩), .int .i64 1, .slice (some ⟨b3, 0, none⟩) 1 1] ?_
             with_reducible refine ((Sw.num 1 1 [id] b3 1 1 HH.out rfl rfl mh (by decide) (by decide) (by simp) HI1.out (by have := HLX.out; omega))).mono ?_
             rintro e wn' ⟨rfl, hn⟩
             refine ⟨_, rfl, ?_⟩
             have HN := Lib.hid hn
             clear hn
             refine hK.out _ _ (HS _ (HN.out.sr.less (fun _ hr => (mt hr)))) (fun hHeld => ?_)
             clear hK K
             refine nx 60 ?_
             exact nz (hJ3_4 b3 _ HN.out)
            ·refine vq ?_
             refine hK.out _ _ (HS _ ((HH.out.conv 5 key).sr.less (fun _ hr => (mt (mt hr))))) (fun hHeld => ?_)
             clear hK K
             refine nx 63 ?_
             exact nz (hJ3_7 (b3, wn.heap.size, ⟨convP wn 5 key, conv_O _ _ _⟩) _ ((HH.out.conv 5 key).less (mc (mt mh) (mc mh (fun _ hr => (mt (mt hr)))))))
          ·rintro ⟨b7, p7, b8⟩ wn hh
           have HH := Lib.hid hh
           clear hh
           have hHeld := HS _ (HH.out.sr.less (fun _ hr => (mt (mt hr))))
           refine ny ?_
           refine oq 3 59 10 495 (fun K hK => ?_)
           refine vq ?_
           refine hK.out _ _ (HS _ ((HH.out.row _).sr.less (fun _ hr => (mt (mt (mt hr)))))) (fun hHeld => ?_)
           clear hK K
           refine nx 59 ?_
           exact nz (hJ3_7_8 (wn.heap.size, b7, p7, b8) _ ((HH.out.row _).less (mc mh (mc (mt mh) (mc (mt (mt mh)) (fun _ hr => (mt (mt (mt hr)))))))))
         ·rintro ⟨b3, b7, p7⟩ wn hh
          have HH := Lib.hid hh
          clear hh
          have hHeld := HS _ (HH.out.sr.less (fun _ hr => (mt (mt hr))))
          refine ny ?_
          refine twq 4 8 60 64 10 255 495 (fun K hK => ?_) (fun K hK => ?_)
          ·refine gq Tryz.func46 #[.pointer (some ⟨gw, 0, none⟩), .int .i64 1, .slice (some ⟨b3, 0, none⟩) 1 1] ?_
           with_reducible refine ((Sw.num 1 1 [id] b3 1 1 HH.out rfl rfl mh (by decide) (by decide) (by simp) HI1.out (by have := HLX.out; omega))).mono ?_
           rintro e wn' ⟨rfl, hn⟩
           refine ⟨_, rfl, ?_⟩
           have HN := Lib.hid hn
           clear hn
           refine hK.out _ _ (HS _ (HN.out.sr.less (fun _ hr => (mt (mt hr))))) (fun hHeld => ?_)
           clear hK K
           refine nx 60 ?_
           exact nz (hJ3_4_7 (b3, b7, p7) _ HN.out)
          ·refine vq ?_
           refine hK.out _ _ (HS _ ((HH.out.row _).sr.less (fun _ hr => (mt (mt (mt hr)))))) (fun hHeld => ?_)
           clear hK K
           refine nx 64 ?_
           exact nz (hJ3_7_8 (b3, b7, p7, wn.heap.size) _ ((HH.out.row _).less (mc (mt mh) (mc (mt (mt mh)) (mc mh (fun _ hr => (mt (mt (mt hr)))))))))
        ·rintro b3 wn hh
         have HH := Lib.hid hh
         clear hh
         have hHeld := HS _ (HH.out.sr.less (fun _ hr => (mt hr)))
         refine ny ?_
         refine oq 7 63 10 255 (fun K hK => ?_)
         refine vq ?_
         refine hK.out _ _ (HS _ ((HH.out.conv 5 key).sr.less (fun _ hr => (mt (mt hr))))) (fun hHeld => ?_)
         clear hK K
         refine nx 63 ?_
         exact nz (hJ3_4_7 (b3, wn.heap.size, ⟨convP wn 5 key, conv_O _ _ _⟩) _ ((HH.out.conv 5 key).less (mc (mt mh) (mc mh (fun _ hr => (mt (mt hr)))))))
       ·rintro ⟨b3, b7, p7, b8⟩ wn hh
        have HH := Lib.hid hh
        clear hh
        have hHeld := HS _ (HH.out.sr.less (fun _ hr => (mt (mt (mt hr)))))
        refine ny ?_
        refine oq 4 60 10 511 (fun K hK => ?_)
        refine gq Tryz.func46 #[.pointer (some ⟨gw, 0, none⟩), .int .i64 1, .slice (some ⟨b3, 0, none⟩) 1 1] ?_
        with_reducible refine ((Sw.num 1 1 [id] b3 1 1 HH.out rfl rfl mh (by decide) (by decide) (by simp) HI1.out (by have := HLX.out; omega))).mono ?_
        rintro e wn' ⟨rfl, hn⟩
        refine ⟨_, rfl, ?_⟩
        have HN := Lib.hid hn
        clear hn
        refine hK.out _ _ (HS _ (HN.out.sr.less (fun _ hr => (mt (mt (mt hr)))))) (fun hHeld => ?_)
        clear hK K
        refine nx 60 ?_
        exact nz (hJ3_4_7_8 (b3, b7, p7, b8) _ HN.out)
      ·rintro ⟨b3, b7, p7⟩ wn hh
       have HH := Lib.hid hh
       clear hh
       have hHeld := HS _ (HH.out.sr.less (fun _ hr => (mt (mt hr))))
       refine ny ?_
       refine oq 8 64 10 511 (fun K hK => ?_)
       refine vq ?_
       refine hK.out _ _ (HS _ ((HH.out.row _).sr.less (fun _ hr => (mt (mt (mt hr)))))) (fun hHeld => ?_)
       clear hK K
       refine nx 64 ?_
       exact nz (hJ3_4_7_8 (b3, b7, p7, wn.heap.size) _ ((HH.out.row _).less (mc (mt mh) (mc (mt (mt mh)) (mc mh (fun _ hr => (mt (mt (mt hr)))))))))
     rintro ⟨b3, b7, p7, b8⟩ wn hh
     have HH := Lib.hid hh
     clear hh
     have hHeld := HS _ (HH.out.sr.less (fun _ hr => (mt (mt (mt hr)))))
     refine ny ?_
     refine oq 9 65 10 1023 (fun K hK => ?_)
     refine gq Tryz.func47 #[.pointer (some ⟨gw, 0, none⟩), .slice (some ⟨b8, 0, none⟩) 1 1] ?_
     with_reducible refine ((Sw.raws key p7.1 b7 b8 key.size 1 HH.out p7.2 rfl (mt (mt mh)) (mt mh) (by rw [HKy.out]; decide) (by simp [bes_length]; have := HLX.out; omega))).mono ?_
     rintro e wq ⟨rfl, hn⟩
     refine ⟨_, rfl, ?_⟩
     have HQ := Lib.hid hn
     clear hn
     refine hK.out _ _ (HS _ (HQ.out.sr.less (fun _ hr => mt (mt (mt hr))))) (fun hHeld => ?_)
     clear hK K
     refine nx 65 ?_
     refine done_ (by kernel_rfl) ?_
     go_wp2_with fail
     have ek : wrap64 ((k : Int) + 1) = ((k + 1 : Nat) : Int) := by have h1 := H64.out; have h2 := HO.out.he.1; have h3 := NE.out; rw [wr64 (by omega) (by omega)]; omega
     rw [ek]
     refine ⟨⟨k + 1, by omega, rfl, ?_⟩, ?_⟩
     ·have hq := HQ.out.less (rows' := [(gd, (oEnR1 d PA nP ad nE nV nK)), (gl, y.obj)]) (fun _ hr => mt (mt (mt (mt hr))))
      rw [← HXe.out] at hq
      have e : fB3 d ++ (d.E.take k).flatMap etB ++ bes 1 [id] ++ strL key = fB3 d ++ (d.E.take (k + 1)).flatMap etB := by
       rw [HDr.out, List.flatMap_append]
       simp [etB]
      rw [e] at hq
      exact hq
     ·simp only [intOf]
      omega
    ·obtain rfl : nE = k := by omega
     have HE := Lib.hid (show Sw w gw (fB3 d ++ d.E.flatMap etB) [(gd, (oEnR0 d PA nP EA nE nV nK)), (gl, y.obj)] wr from by have h := HS0.out; rw [show d.E.take nE = d.E from by rw [← NE.out, List.take_length]] at h; exact h)
     clear HS0 HC
     go_upto_region 15 with fail
     have HS : ∀ w', Sr w [(gd, (oEnR0 d PA nP EA nE nV nK)), (gl, y.obj)] w' → w'.cell? ⟨gd, 3, none⟩ = some (.slice EA nE d.Ec) ∧ w'.cell? ⟨gd, 4, none⟩ = some (.slice d.VA nV d.Vc) ∧ w'.cell? ⟨gl, 0, none⟩ = some (.int .i64 y.c0) ∧ w'.cell? ⟨gl, 1, none⟩ = some (.int .i64 y.c1) ∧ w'.cell? ⟨gl, 2, none⟩ = some (.int .i64 y.c2) ∧ w'.cell? ⟨gl, 3, none⟩ = some (.int .i64 y.c3) ∧ w'.cell? ⟨gl, 4, none⟩ = some (.int .i64 y.c4) ∧ w'.cell? ⟨gl, 5, none⟩ = some (.int .i64 y.c5) ∧ w'.cell? ⟨gl, 6, none⟩ = some (.int .i64 y.c6) ∧ w'.cell? ⟨gl, 7, none⟩ = some (.int .i64 y.c7) ∧ w'.cell? ⟨gl, 8, none⟩ = some (.int .i64 y.c8) ∧ w'.cell? ⟨gl, 9, none⟩ = some (.int .i64 y.c9) ∧ w'.cell? ⟨gl, 10, none⟩ = some (.slice y.A y.l.length y.cap) := fun w' h => ⟨h.cell mh 3 rfl, h.cell mh 4 rfl, h.cell (mt mh) 0 rfl, h.cell (mt mh) 1 rfl, h.cell (mt mh) 2 rfl, h.cell (mt mh) 3 rfl, h.cell (mt mh) 4 rfl, h.cell (mt mh) 5 rfl, h.cell (mt mh) 6 rfl, h.cell (mt mh) 7 rfl, h.cell (mt mh) 8 rfl, h.cell (mt mh) 9 rfl, h.cell (mt mh) 10 rfl⟩
     have HZ1 := Lib.hid (show wrap64 (11 * (wrap64 (y.c2 - (nE : Int)))) = ((11 * (y.c2 - (nE : Int))).toNat : Int) by
      have h1 := H64.out
      have h2 := HO.out.he.1
      have h3 := NE.out
      rw [wr64 (z := y.c2 - (nE : Int)) (by omega) (by omega), wr64 (by omega) (by omega)]
      omega)
     have HZ2 := Lib.hid (show (11 * (y.c2 - (nE : Int))).toNat ≤ 704 by have h1 := H64.out; omega)
     have HE4 := Lib.hid (show Sw w gw (fB4 d) [(gd, (oEnR0 d PA nP EA nE nV nK)), (gl, y.obj)] wr from HE.out)
     clear HE
     have HLX := Lib.hid (show (fB4 d).length ≤ 1100 by
      have h1 := fB4_len HK.out HO.out
      have h3 := H64.out
      have h4 := HO.out.he.1
      omega)
     have HVL := Lib.hid (show nV ≤ 16 by
      have h1 := HO.out.hv
      have h2 := Ly.vl_le HK.out
      have h3 := NV.out
      omega)
     obtain ⟨zE, hzE⟩ : ∃ z, (11 * (y.c2 - (nE : Int))).toNat = z := ⟨_, rfl⟩
     rw [hzE] at HZ1 HZ2
     have HZ0 := Lib.hid hzE
     clear hzE
     refine stq 14 0 (fun w' => w'.cell? ⟨gd, 3, none⟩ = some (.slice EA nE d.Ec) ∧ w'.cell? ⟨gd, 4, none⟩ = some (.slice d.VA nV d.Vc) ∧ w'.cell? ⟨gl, 0, none⟩ = some (.int .i64 y.c0) ∧ w'.cell? ⟨gl, 1, none⟩ = some (.int .i64 y.c1) ∧ w'.cell? ⟨gl, 2, none⟩ = some (.int .i64 y.c2) ∧ w'.cell? ⟨gl, 3, none⟩ = some (.int .i64 y.c3) ∧ w'.cell? ⟨gl, 4, none⟩ = some (.int .i64 y.c4) ∧ w'.cell? ⟨gl, 5, none⟩ = some (.int .i64 y.c5) ∧ w'.cell? ⟨gl, 6, none⟩ = some (.int .i64 y.c6) ∧ w'.cell? ⟨gl, 7, none⟩ = some (.int .i64 y.c7) ∧ w'.cell? ⟨gl, 8, none⟩ = some (.int .i64 y.c8) ∧ w'.cell? ⟨gl, 9, none⟩ = some (.int .i64 y.c9) ∧ w'.cell? ⟨gl, 10, none⟩ = some (.slice y.A y.l.length y.cap)) (HS _ (HE4.out.below (drewB _)).sr) (fun hHeld => ?_)
     have HT0 := Lib.hid (HE4.out.below (drewB _))
     generalize wr.drew = wr1 at HT0 hHeld ⊢
     refine pq 0 67 14 1 ?_
     refine pq 1 68 14 3 ?_
     refine pq 2 69 14 7 ?_
     refine pq 4 71 14 23 ?_
     refine pq 10 77 14 1047 ?_
     refine tq 3 70 14 1055 hHeld ?_
     refine tq 5 72 14 1087 hHeld ?_
     refine pq 6 73 14 1151 ?_
     refine pq 7 74 14 1279 ?_
     refine pq 8 75 14 1535 ?_
     refine tq 11 78 14 3583 hHeld ?_
     refine oq 9 76 14 4095 (fun K hK => ?_)
     refine gq Tryz.func48 #[.int .i64 (wrap64 (11 * (wrap64 (y.c2 - (nE : Int)))))] ?_
     with_reducible refine ((Sw.zeros HT0.out _ zE HZ1.out (by rw [HZ1.out]; have := HZ2.out; omega))).mono ?_
     rintro e we ⟨bz, rfl, hn⟩
     refine ⟨_, rfl, ?_⟩
     have HQ5 := Lib.hid hn
     clear hn
     refine hK.out _ _ (HS _ (HQ5.out.sr.less (fun _ hr => (mt hr)))) (fun hHeld => ?_)
     clear hK K
     refine nx 76 ?_
     refine oq 12 79 14 8191 (fun K hK => ?_)
     refine vq ?_
     have HQ6 := Lib.hid (HQ5.out.row (parts (some ⟨bz, 0, none⟩) zE zE d.VA nV d.Vc))
     replace HQ6 : RowKit.Hid (Sw w gw (fB4 d) ((we.heap.size, parts (some ⟨bz, 0, none⟩) zE zE d.VA nV d.Vc) :: (bz, zobj zE) :: [(gd, (oEnR0 d PA nP EA nE nV nK)), (gl, y.obj)]) (we.alloc (Obj.cells #[.slice (some ⟨bz, 0, none⟩) zE zE, .slice d.VA nV d.Vc] 29))) := HQ6
     generalize we.alloc (Obj.cells #[.slice (some ⟨bz, 0, none⟩) zE zE, .slice d.VA nV d.Vc] 29) = we1 at HQ6 ⊢
     refine hK.out _ _ (HS _ (HQ6.out.sr.less (fun _ hr => (mt (mt hr))))) (fun hHeld => ?_)
     clear hK K
     refine nx 79 ?_
     refine oq 13 80 14 16383 (fun K hK => ?_)
     refine gq Tryz.func47 #[.pointer (some ⟨gw, 0, none⟩), .slice (some ⟨we.heap.size, 0, none⟩) 2 2] ?_
     with_reducible refine ((Sw.raw2 HQ6.out bz _ zE nV 2 d.Vc d.VA d.V mh (mt mh) NV.out (Kd.C_below HD.out.rv HQ6.out.bel) HD.out.ru (by decide) (by have := HZ2.out; omega) (by have := HVL.out; omega) (by have := HLX.out; omega))).mono ?_
     rintro e wf ⟨rfl, hn⟩
     refine ⟨_, rfl, ?_⟩
     have HQ7 := Lib.hid hn
     clear hn HQ5 HQ6
     refine hK.out _ _ (HS _ (HQ7.out.sr.less (fun _ hr => (mt (mt hr))))) (fun hHeld => ?_)
     clear hK K
     refine nx 80 ?_
     refine done_ (by kernel_rfl) ?_
     have HP := Lib.hid (show Sw w gw (fB5 y d) [(gd, (oEnR0 d PA nP EA nE nV nK)), (gl, y.obj)] wf from by
      have h := HQ7.out.less (rows' := [(gd, (oEnR0 d PA nP EA nE nV nK)), (gl, y.obj)]) (fun _ hr => mt (mt hr))
      unfold fB5 zs
      rw [NE.out, HZ0.out, List.append_assoc]
      exact h)
     clear HQ7 HS HT0 HE4 hHeld HZ1 HZ2
     have q0 := HP.out.sr.cell (mt mh) 0 rfl
     have q1 := HP.out.sr.cell (mt mh) 1 rfl
     have q2 := HP.out.sr.cell (mt mh) 2 rfl
     have q3 := HP.out.sr.cell (mt mh) 3 rfl
     have q4 := HP.out.sr.cell (mt mh) 4 rfl
     have q5 := HP.out.sr.cell (mt mh) 5 rfl
     have q6 := HP.out.sr.cell (mt mh) 6 rfl
     have q7 := HP.out.sr.cell (mt mh) 7 rfl
     have q8 := HP.out.sr.cell (mt mh) 8 rfl
     have q9 := HP.out.sr.cell (mt mh) 9 rfl
     have q10 := HP.out.sr.cell (mt mh) 10 rfl
     have qk := HP.out.sr.cell mh 5 rfl
     go_wp2_with fail
     clear q0 q1 q2 q3 q4 q5 q6 q7 q8 q9 q10 qk
     with_reducible refine (Sw.blocksN HP.out HY.out HK.out d.KA nK d.Kc d.K NK.out HD.out.rk HO.out.hk.1 HO.out.hk.2 (by have h1 := fB5_len HK.out HO.out; have h2 := H64.out; have h3 := Ly.vl_le HK.out; omega)).mono ?_
     rintro e wl ⟨rfl, hn⟩
     have HT := Lib.hid (show Sw w gw (fB6 y d) [(gd, (oEnR0 d PA nP EA nE nV nK)), (gl, y.obj)] wl from hn)
     have HDL := Lib.hid (fullLen_le HK.out)
     have HDx := Lib.hid (fB6_len HK.out HO.out)
     clear hn HP
     go_upto_region 17 with fail
     have HS : ∀ w', Sr w [(gd, (oEnR0 d PA nP EA nE nV nK)), (gl, y.obj)] w' → w'.cell? ⟨gl, 0, none⟩ = some (.int .i64 y.c0) ∧ w'.cell? ⟨gl, 1, none⟩ = some (.int .i64 y.c1) ∧ w'.cell? ⟨gl, 2, none⟩ = some (.int .i64 y.c2) ∧ w'.cell? ⟨gl, 3, none⟩ = some (.int .i64 y.c3) ∧ w'.cell? ⟨gl, 4, none⟩ = some (.int .i64 y.c4) ∧ w'.cell? ⟨gl, 5, none⟩ = some (.int .i64 y.c5) ∧ w'.cell? ⟨gl, 6, none⟩ = some (.int .i64 y.c6) ∧ w'.cell? ⟨gl, 7, none⟩ = some (.int .i64 y.c7) ∧ w'.cell? ⟨gl, 8, none⟩ = some (.int .i64 y.c8) ∧ w'.cell? ⟨gl, 9, none⟩ = some (.int .i64 y.c9) ∧ w'.cell? ⟨gl, 10, none⟩ = some (.slice y.A y.l.length y.cap) := fun w' h => ⟨h.cell (mt mh) 0 rfl, h.cell (mt mh) 1 rfl, h.cell (mt mh) 2 rfl, h.cell (mt mh) 3 rfl, h.cell (mt mh) 4 rfl, h.cell (mt mh) 5 rfl, h.cell (mt mh) 6 rfl, h.cell (mt mh) 7 rfl, h.cell (mt mh) 8 rfl, h.cell (mt mh) 9 rfl, h.cell (mt mh) 10 rfl⟩
     refine start_ (n := 9) (S := fun w' => w'.cell? ⟨gl, 0, none⟩ = some (.int .i64 y.c0) ∧ w'.cell? ⟨gl, 1, none⟩ = some (.int .i64 y.c1) ∧ w'.cell? ⟨gl, 2, none⟩ = some (.int .i64 y.c2) ∧ w'.cell? ⟨gl, 3, none⟩ = some (.int .i64 y.c3) ∧ w'.cell? ⟨gl, 4, none⟩ = some (.int .i64 y.c4) ∧ w'.cell? ⟨gl, 5, none⟩ = some (.int .i64 y.c5) ∧ w'.cell? ⟨gl, 6, none⟩ = some (.int .i64 y.c6) ∧ w'.cell? ⟨gl, 7, none⟩ = some (.int .i64 y.c7) ∧ w'.cell? ⟨gl, 8, none⟩ = some (.int .i64 y.c8) ∧ w'.cell? ⟨gl, 9, none⟩ = some (.int .i64 y.c9) ∧ w'.cell? ⟨gl, 10, none⟩ = some (.slice y.A y.l.length y.cap)) (ds := [4]) (bm 9 0) (by kernel_rfl) rfl rfl (HS _ (HT.out.below (drewB _)).sr) (fun hHeld => ?_)
     have HT0 := Lib.hid (HT.out.below (drewB _))
     generalize wl.drew = wl0 at HT0 hHeld ⊢
     refine pq 1 87 9 2 ?_
     refine tq 0 86 9 3 hHeld ?_
     refine tq 2 88 9 7 hHeld ?_
     refine oq 3 89 9 15 (fun K hK => ?_)
     refine gq Tryz.func51 #[y.v] ?_
     with_reducible refine ((FullLen_call (HY.out.below HT0.out.bel) HK.out)).mono ?_
     rintro e wm ⟨rfl, hn⟩
     refine ⟨_, rfl, ?_⟩
     have HT1 := Lib.hid (HT0.out.below hn)
     clear hn
     refine hK.out _ _ (HS _ HT1.out.sr) (fun hHeld => ?_)
     clear hK K
     refine nx 89 ?_
     refine last_ (i := 4) (N := some 90) (bm 9 31) rfl rfl (by kernel_rfl) (by decide) (fun K hK => ?_)
     refine gq Tryz.func50 #[y.v, .pointer (some ⟨gw, 0, none⟩), .int .i64 y.fullLen] ?_
     with_reducible refine ((Sw.sealed HT1.out HY.out HK.out y.fullLen (by have := HDL.out; omega) (by have := HDL.out; omega) (by have := HDx.out; omega))).mono ?_
     rintro e wo ⟨v7, rfl, hv7, hb7⟩
     refine ⟨_, rfl, ?_⟩
     have HV7 := Lib.hid hv7
     have HB7 := Lib.hid hb7
     clear hv7 hb7
     refine hK.out _ _ ?_
     clear hK K
     refine nx 90 ?_
     refine pq 5 91 9 63 ?_
     refine pq 6 92 9 127 ?_
     refine pq 7 4 9 255 ?_
     refine pq 8 5 9 511 ?_
     refine done_ (by kernel_rfl) ?_
     go_wp2_with fail
     refine bodyPost_ret (v := .tuple #[v7, .int .i64 0]) ?_ rfl ?_
     ·simp [results, Tryz.results12, go_sem]
     ·exact ⟨_, rfl, HV7.out, HB7.out⟩
end Go.Proofs.YtmbnomlkhmcmaaaGreat.A
end
section
namespace Go.Proofs.YtmbnomlkhmcmaaaGreat.A
open Go.RowKit Go.Shelf Go.Proofs.YtmbnomlkhmcmaaaGreatW.PrintWords Go.Proofs.YtmbnomlkhmcmaaaGreatW.PrintLast Go.Proofs.YtmbnomlkhmcmaaaGreatW.PrintMore Go.Proofs.YtmbnomlkhmcmaaaGreat.B Go.Proofs.YtmbnomlkhmcmaaaGreat.C Go.Proofs.YtmbnomlkhmcmaaaGreat.Z
set_option linter.unusedVariables false
set_option linter.unusedSimpArgs false
def orb (xs : List Int) (i : Nat) (b : Int) : List Int := xs.set (i / 8) (Go.bits .or .u8 (xs.getD (i / 8) 0) (wrap64 (b * 2 ^ (i % 8)) % 256))
def packK (L : List Int) : Nat → List Int
 | 0 => List.replicate ((L.length + 7) / 8) 0
 | k + 1 => orb (packK L k) k (L.getD k 0)
def pack (L : List Int) : List Int := packK L L.length
theorem packK_length (L : List Int) : ∀ k, (packK L k).length = (L.length + 7) / 8
 | 0 => by simp [packK]
 | k + 1 => by unfold packK orb; rw [List.length_set, packK_length L k]
abbrev u8o (xs : List Int) : Obj := .cells (xs.map (Value.int .u8)).toArray 5
theorem C_u8o {W : World} {b : Nat} {l : List Int} (hh : W.heap[b]? = some (u8o l)) (hl : l.length ≤ 1048576) : Kd.C (Kd.int .u8) W (some ⟨b, 0, none⟩) l.length l := by
 refine ⟨rfl, by omega, fun _ => ⟨_, rfl, fun j p hj => ⟨_, rfl, rfl, fun i u hu => ?_⟩⟩⟩
 have hc := cell_at hh j (v := .int .u8 p) (by simp [hj])
 match i, hu with
 | 0, hu =>
  obtain rfl : Value.int .u8 p = u := by simpa using hu
  show W.cell? (((⟨b, 0, none⟩ : Addr).add (j * 1)).add 0) = _
  rw [Nat.mul_one]
  rcases j with _ | j <;> simpa [Addr.add] using hc
theorem set_u8o {W : World} {b : Nat} {l : List Int} (hh : W.heap[b]? = some (u8o l)) (j : Nat) (x : Int) : (W.setCell ⟨b, j, none⟩ (.int .u8 x)).heap[b]? = some (u8o (l.set j x)) := by
 simp [World.setCell, Array.getElem?_modify, hh, u8o, List.map_set]
theorem zer_u8o (n : Nat) : (Obj.cells (zer n) 5) = u8o (List.replicate n 0) := by simp [u8o, zer]
theorem w16 {n : Nat} (h : n ≤ 1000000) : wrap64 (n : Int) = (n : Int) := wr64 (by omega) (by omega)
set_option maxHeartbeats 4000000 in
set_option maxRecDepth 100000 in
theorem Bytes_call (g : Nat) (A : Option Addr) (L : List Int) (n c : Nat) (w : World) (hn : L.length = n) (hg : w.heap[g]? = some (.cells #[.slice A n c] 245 (0, 0))) (hL : Kd.C (Kd.int .i64) w A L.length L) (h1 : 1 ≤ n) (h2 : n ≤ 127) :
  Calls Tryz.prog 166 #[.pointer (some ⟨g, 0, none⟩)] w fun e w' => ∃ b, e = .returned (.slice (some ⟨b, 0, none⟩) ((n + 7) / 8) ((n + 7) / 8)) ∧ w'.heap[b]? = some (u8o (pack L)) ∧ Below w.heap.size w w' := by
 have HL := Lib.hid hL
 have HN := Lib.hid hn
 have HG := Lib.hid hg
 obtain ⟨m, hm⟩ : ∃ m, (n + 7) / 8 = m := ⟨_, rfl⟩
 have q0 := cell_at hg 0 rfl
 have e1 : wrap64 ((n : Int) + 7) = (n : Int) + 7 := wr64 (by omega) (by omega)
 have e2 : Int.tdiv ((n : Int) + 7) 8 = (m : Int) := by rw [Int.tdiv_eq_ediv_of_nonneg (by omega)]; omega
 have e3 : wrap64 (m : Int) = (m : Int) := wr64 (by omega) (by omega)
 have e4 : (0 : Int) ≤ (m : Int) := by omega
 have hmk := make_zer m (by omega)
 have y0 := pw_cell_below (allocB w (.cells (zer m) 5)) q0
 rw [hm]
 have HM := Lib.hid hm
 have hm16 : m ≤ 16 := by omega
 clear hL hn hg hm
 go_enter Tryz.func166, Tryz.ntmps166
 go_wp2_with fail
 go_loopw [19] (fun i wr => ∃ k : Nat, k ≤ n ∧ i = .int .i64 k ∧ Hid (wr.heap[w.heap.size]? = some (u8o (packK L k))) ∧ Hid (Below w.heap.size w wr)) (fun i _ => n - (intOf i).toNat)
 case atStart =>
  exact ⟨0, Nat.zero_le _, rfl, (by rw [heap_top, zer_u8o]; unfold packK; rw [HN.out, HM.out] : _ = _), allocB w _⟩
 case round =>
  clear e1 e2 e3 e4 hmk
  obtain ⟨k, hk, rfl, HW, HB⟩ := hrel
  by_cases hlt : k < n
  ·obtain ⟨ad, rfl, hcell⟩ := (Kd.reads_of_C (d := (0 : Int)) (Kd.C_below HL.out HB.out)).2.2 (by have := HN.out; omega)
   have q := hcell k (by have := HN.out; omega)
   obtain ⟨x, hx⟩ : ∃ x, L.getD k 0 = x := ⟨_, rfl⟩
   obtain ⟨v, hv⟩ : ∃ v, (packK L k).getD (k / 8) 0 = v := ⟨_, rfl⟩
   rw [hx] at q
   have hlen : (packK L k).length = m := by rw [packK_length, HN.out, HM.out]
   obtain ⟨k8, hk8⟩ : ∃ k8, k / 8 = k8 := ⟨_, rfl⟩
   obtain ⟨km, hkm⟩ : ∃ km, k % 8 = km := ⟨_, rfl⟩
   have h8 : k8 < m := by have := HM.out; omega
   rw [hk8] at hv
   have q5 : wr.cell? ⟨w.heap.size, k8, none⟩ = some (.int .u8 v) := cell_at HW.out k8 (by
    rw [List.getElem?_toArray, List.getElem?_map, ← hv, List.getD_eq_getElem?_getD, List.getElem?_eq_getElem (by omega)]
    rfl)
   have f5 := frozen_at HW.out k8
   have HP := Lib.hid (show packK L (k + 1) = (packK L k).set k8 (Go.bits .or .u8 v (wrap64 (x * 2 ^ km) % 256)) by
    show orb _ _ _ = _
    unfold orb
    rw [hk8, hkm, hv, hx])
   have hb8 : k8 ≤ 16 ∧ km ≤ 7 := by omega
   have d1 : (k : Int) / 8 = (k8 : Int) := by omega
   have d2 : Int.tmod (k : Int) 8 = (km : Int) := by rw [Int.tmod_eq_emod_of_nonneg (by omega)]; omega
   have d8 : (km : Int) ≤ 64 := by omega
   have d5 : (0 : Int) ≤ (k8 : Int) := by omega
   have d6 : (0 : Int) ≤ (km : Int) := by omega
   have d7 : (k8 : Int) < (m : Int) := by omega
   clear hcell hx hv hlen hk8 hkm
   have d3 : wrap64 (k8 : Int) = (k8 : Int) := w16 (by omega)
   have d4 : wrap64 (km : Int) = (km : Int) := w16 (by omega)
   go_upto_region 5 with fail
   refine start_ (n := 13) (S := fun w' => w'.cell? ⟨w.heap.size, k8, none⟩ = some (.int .u8 v)) (ds := [12]) (bm 13 0) (by kernel_rfl) rfl rfl (pw_cell_below (drewB wr) q5) (fun hHeld => ?_)
   refine pq 0 24 13 1 ?_
   refine pq 1 25 13 3 ?_
   refine pq 2 26 13 7 ?_
   refine pq 3 27 13 15 ?_
   refine pq 5 29 13 47 ?_
   refine pq 6 30 13 111 ?_
   refine pq 7 31 13 239 ?_
   refine pq 8 32 13 495 ?_
   refine pq 9 33 13 1007 ?_
   refine tq 4 28 13 1023 hHeld ?_
   refine pq 10 34 13 2047 ?_
   refine pq 11 35 13 4095 ?_
   refine last_ (i := 12) (N := none) (bm 13 8191) rfl rfl (by kernel_rfl) (by decide) (fun K hK => ?_)
   refine skip_ (w1 := ?_) (by rfl) rfl ?_ ?_
   rotate_left
   ·go_simp
    rfl
   refine hK.out _ _ ?_
   clear hK K
   refine done_ (by kernel_rfl) ?_
   go_wp2_with fail
   have hs := set_u8o (W := wr) HW.out k8 (Go.bits .or .u8 v (wrap64 (x * 2 ^ km) % 256))
   rw [← HP.out] at hs
   refine ⟨⟨k + 1, by omega, rfl, ?_, (HB.out.setCell (p := ⟨w.heap.size, k8, none⟩) (Nat.le_refl _) _).drew⟩, ?_⟩
   ·show _ = _
    exact hs
   ·simp only [intOf]
    omega
  ·obtain rfl : n = k := by omega
   go_wp2_with fail
   go_ret
   exact ⟨_, rfl, (by have h := HW.out; unfold pack; rw [HN.out]; exact h), HB.out⟩
end Go.Proofs.YtmbnomlkhmcmaaaGreat.A
end
section
namespace Go.Proofs.YtmbnomlkhmcmaaaGreat.A
open Go.RowKit Go.Shelf Go.Proofs.YtmbnomlkhmcmaaaGreatW.PrintWords Go.Proofs.YtmbnomlkhmcmaaaGreatW.PrintLast Go.Proofs.YtmbnomlkhmcmaaaGreatW.PrintMore Go.Proofs.YtmbnomlkhmcmaaaGreat.B Go.Proofs.YtmbnomlkhmcmaaaGreat.C Go.Proofs.YtmbnomlkhmcmaaaGreat.Z
set_option linter.unusedVariables false
set_option linter.unusedSimpArgs false
theorem infoi64 : (Tryz.prog.info? 3).map (fun i => (i.zero, i.size, i.bytes)) = some (some (.int .i64 0), 1, 8) := by kernel_rfl
theorem make_rowo (L : Nat) (hL : L ≤ 1048576) (w : World) : (Instr.makeSlice 33 (.int .i64 (L : Int)) (.int .i64 (L : Int))).run Tryz.prog w = .ok (.slice (some ⟨w.heap.size, 0, none⟩) L L) (w.alloc (rowo (List.replicate L 0))) := by
 obtain ⟨i, hi, hzz⟩ := Option.map_eq_some_iff.1 infoi64
 simp only [Prod.mk.injEq] at hzz
 obtain ⟨h0, h1, h2⟩ := hzz
 have h := run_make (P := Tryz.prog) (w := w) 33 3 i _ Tryz.underlying33 hi h0 .i64 .i64 (L : Int) (L : Int) (by omega) (Int.le_refl _) (by rw [h2]; omega) (by omega)
 have e : madeCells (Value.int .i64 0).cells L = ((List.replicate L (0 : Int)).map (Value.int .i64)).toArray := by
  apply Array.ext'
  simp [madeCells, Value.cells]
  apply List.ext_getElem
  ·simp
  ·intro i h1 h2
   simp [Nat.mod_one]
 rw [Int.toNat_natCast, h1, Nat.mul_one, e] at h
 exact h
theorem New_run (n : Nat) (h1 : 1 ≤ n) (h2 : n ≤ 127) (w : World) : Calls Tryz.prog 180 #[.int .i64 n] w fun e w' => e = .returned (.pointer (some ⟨w.heap.size + 1, 0, none⟩)) ∧ w' = (w.alloc (rowo (List.replicate n 0))).alloc (.cells #[.slice (some ⟨w.heap.size, 0, none⟩) n n] 245) := by
 have hmk := make_rowo n (by omega)
 have t1 : decide ((n : Int) < 1) = false := decide_eq_false (by omega)
 have t2 : decide (127 < (n : Int)) = false := decide_eq_false (by omega)
 have hb0 : (0 : Int) ≤ (n : Int) := by omega
 clear h1 h2
 go_enter Tryz.func180, Tryz.ntmps180
 go_wp2
 go_ret
 exact ⟨by simp, rfl⟩
def bitOf (b : List Int) (i : Nat) : Int := if i / 8 < b.length then wrap64 (Go.bits .and .u8 (b.getD (i / 8) 0 / 2 ^ (i % 8)) 1) else 0
def bitsK (b : List Int) (n k : Nat) : List Int := (List.range n).map fun i => if i < k then bitOf b i else 0
theorem bitsK_length (b : List Int) (n k : Nat) : (bitsK b n k).length = n := by simp [bitsK]
theorem bitsK_zero (b : List Int) (n : Nat) : bitsK b n 0 = List.replicate n 0 := by
 apply List.ext_getElem
 ·simp [bitsK]
 ·intro i h1 h2; simp [bitsK]
theorem bitsK_set (b : List Int) (n k : Nat) : (bitsK b n k).set k (bitOf b k) = bitsK b n (k + 1) := by
 apply List.ext_getElem
 ·simp [bitsK]
 ·intro i h1 h2
  rw [List.getElem_set]
  by_cases e : k = i
  ·subst e; simp [bitsK]
  ·rw [if_neg e]
   simp only [bitsK, List.getElem_map, List.getElem_range]
   by_cases h : i < k
   ·rw [if_pos h, if_pos (by omega)]
   ·rw [if_neg h, if_neg (by omega)]
theorem bitsK_skip {b : List Int} {n k : Nat} (h : ¬ k / 8 < b.length) : bitsK b n (k + 1) = bitsK b n k := by
 rw [← bitsK_set]
 apply List.ext_getElem
 ·simp
 ·intro i h1 h2
  rw [List.getElem_set]
  split
  ·rename_i e
   subst e
   simp [bitsK, bitOf, h]
  ·rfl
def eqB (a b : List Int) : Bool := (strOfNums a).toList == (strOfNums b).toList
def parB (n : Nat) (b : List Int) : Bool := eqB (pack (bitsK b n n)) b
theorem pack_bits_length (b : List Int) (n : Nat) : (pack (bitsK b n n)).length = (n + 7) / 8 := by
 unfold pack
 rw [packK_length, bitsK_length]
theorem set_rowo {W : World} {b : Nat} {l : List Int} (hh : W.heap[b]? = some (rowo l)) (j : Nat) (x : Int) : (W.setCell ⟨b, j, none⟩ (.int .i64 x)).heap[b]? = some (rowo (l.set j x)) := by
 simp [World.setCell, Array.getElem?_modify, hh, List.map_set]
theorem set_other {W : World} {b g : Nat} {o : Obj} (hh : W.heap[g]? = some o) (hne : b ≠ g) (j : Nat) (x : Value) : (W.setCell ⟨b, j, none⟩ x).heap[g]? = some o := by
 rw [Below.heap_setCell _ _ _ g (show g ≠ b from hne.symm)]
 exact hh
def ParPost (n : Nat) (b : List Int) (w : World) (e : Ending) (w' : World) : Prop := ∃ p, e = .returned (.tuple #[p, .int .i64 (if parB n b = true then 0 else 2)]) ∧ Below w.heap.size w w'
set_option maxHeartbeats 4000000 in
set_option maxRecDepth 100000 in
theorem Parse_call (A : Option Addr) (c n : Nat) (b : List Int) (w : World) (hC : Kd.C (Kd.int .u8) w A b.length b) (hc : b.length ≤ c) (h1 : 1 ≤ n) (h2 : n ≤ 127) (hb : b.length ≤ 1000000) :
  Calls Tryz.prog 130 #[.int .i64 n, .slice A b.length c] w (ParPost n b w) := by
 have HC := Lib.hid hC
 have HCc := Lib.hid hc
 obtain ⟨m, hm⟩ : ∃ m, b.length = m := ⟨_, rfl⟩
 have HM := Lib.hid hm
 have hb' : m ≤ 1000000 := by omega
 rw [hm]
 clear hC hm hb hc
 have HNew := Lib.hid (New_run n h1 h2 w)
 go_enter Tryz.func130, Tryz.ntmps130
 go_wp2_with fail
 refine HNew.out.mono ?_
 clear HNew
 rintro e w1 ⟨rfl, rfl⟩
 have HB0 := Lib.hid ((allocB w (rowo (List.replicate n 0))).trans ((allocB (w.alloc (rowo (List.replicate n 0))) (.cells #[.slice (some ⟨w.heap.size, 0, none⟩) n n] 245)).mono (by rw [size_alloc]; omega)))
 have HL0 := Lib.hid (show ((w.alloc (rowo (List.replicate n 0))).alloc (.cells #[.slice (some ⟨w.heap.size, 0, none⟩) n n] 245)).heap[w.heap.size]? = some (rowo (bitsK b n 0)) by
  rw [bitsK_zero]
  exact kept_at (allocB _ _) (heap_top w _))
 have HG0 := Lib.hid (show ((w.alloc (rowo (List.replicate n 0))).alloc (.cells #[.slice (some ⟨w.heap.size, 0, none⟩) n n] 245)).heap[w.heap.size + 1]? = some (.cells #[.slice (some ⟨w.heap.size, 0, none⟩) n n] 245 (0, 0)) by
  have h := heap_top (w.alloc (rowo (List.replicate n 0))) (.cells #[.slice (some ⟨w.heap.size, 0, none⟩) n n] 245)
  rwa [size_alloc] at h)
 generalize (w.alloc (rowo (List.replicate n 0))).alloc (.cells #[.slice (some ⟨w.heap.size, 0, none⟩) n n] 245) = w1 at HB0 HL0 HG0 ⊢
 have q0 := cell_at HG0.out 0 rfl
 go_wp2_with fail
 clear q0
 go_loopw [17] (fun i wr => ∃ k : Nat, k ≤ n ∧ i = .int .i64 k ∧ Hid (wr.heap[w.heap.size]? = some (rowo (bitsK b n k))) ∧ Hid (wr.heap[w.heap.size + 1]? = some (.cells #[.slice (some ⟨w.heap.size, 0, none⟩) n n] 245 (0, 0))) ∧ Hid (Below w.heap.size w wr)) (fun i _ => n - (intOf i).toNat)
 case atStart =>
  exact ⟨0, Nat.zero_le _, rfl, HL0, HG0, HB0⟩
 case round =>
  clear HL0 HG0 HB0
  obtain ⟨k, hk, rfl, HL, HG, HB⟩ := hrel
  have q0 := cell_at HG.out 0 rfl
  by_cases hlt : k < n
  ·obtain ⟨k8, hk8⟩ : ∃ k8, k / 8 = k8 := ⟨_, rfl⟩
   obtain ⟨km, hkm⟩ : ∃ km, k % 8 = km := ⟨_, rfl⟩
   have hb8 : k8 ≤ 16 ∧ km ≤ 7 := by omega
   have d1 : (k : Int) / 8 = (k8 : Int) := by omega
   have d2 : Int.tmod (k : Int) 8 = (km : Int) := by rw [Int.tmod_eq_emod_of_nonneg (by omega)]; omega
   have d8 : (km : Int) ≤ 8 := by omega
   have d5 : (0 : Int) ≤ (k8 : Int) := by omega
   have d6 : (0 : Int) ≤ (km : Int) := by omega
   have d3 : wrap64 (k8 : Int) = (k8 : Int) := w16 (by omega)
   have d4 : wrap64 (km : Int) = (km : Int) := w16 (by omega)
   by_cases hin : k8 < m
   ·obtain ⟨ad, rfl, hcell⟩ := (Kd.reads_of_C (d := (0 : Int)) (Kd.C_below HC.out HB.out)).2.2 (by have := HM.out; omega)
    have q1 := hcell k8 (by have := HM.out; omega)
    obtain ⟨x, hx⟩ : ∃ x, b.getD k8 0 = x := ⟨_, rfl⟩
    rw [hx] at q1
    have HBit := Lib.hid (show bitOf b k = wrap64 (Go.bits .and .u8 (x / 2 ^ km) 1) by
     unfold bitOf
     rw [if_pos (by rw [hk8, HM.out]; exact hin), hk8, hkm, hx])
    have f1 := frozen_at HL.out k
    have d7 : (k8 : Int) < (m : Int) := by omega
    obtain ⟨z, hz⟩ : ∃ z, (bitsK b n k).getD k 0 = z := ⟨_, rfl⟩
    have q2 : wr.cell? ⟨w.heap.size, k, none⟩ = some (.int .i64 z) := cell_at HL.out k (by
     rw [List.getElem?_toArray, List.getElem?_map, ← hz, List.getD_eq_getElem?_getD, List.getElem?_eq_getElem (by rw [bitsK_length]; omega)]
     rfl)
    clear hcell hx hk8 hkm hz
    go_upto_region 8 with fail
    refine start_ (n := 17) (S := fun w' => w'.cell? ⟨w.heap.size + 1, 0, none⟩ = some (.slice (some ⟨w.heap.size, 0, none⟩) n n) ∧ w'.cell? (ad.add k8) = some (.int .u8 x)) (ds := [16]) (bm 17 0) (by kernel_rfl) rfl rfl ⟨pw_cell_below (drewB wr) q0, pw_cell_below (drewB wr) q1⟩ (fun hHeld => ?_)
    refine pq 0 25 17 1 ?_
    refine pq 1 26 17 3 ?_
    refine pq 2 27 17 7 ?_
    refine pq 4 29 17 23 ?_
    refine pq 5 30 17 55 ?_
    refine pq 6 31 17 119 ?_
    refine pq 7 32 17 247 ?_
    refine pq 8 33 17 503 ?_
    refine pq 10 35 17 1527 ?_
    refine pq 11 36 17 3575 ?_
    refine tq 3 28 17 3583 hHeld ?_
    refine tq 9 34 17 4095 hHeld ?_
    refine pq 12 37 17 8191 ?_
    refine pq 13 38 17 16383 ?_
    refine pq 14 39 17 32767 ?_
    refine pq 15 40 17 65535 ?_
    refine last_ (i := 16) (N := none) (bm 17 131071) rfl rfl (by kernel_rfl) (by decide) (fun K hK => ?_)
    refine skip_ (w1 := ?_) (by rfl) rfl ?_ ?_
    rotate_left
    ·go_simp
     rfl
    refine hK.out _ _ ?_
    clear hK K
    refine done_ (by kernel_rfl) ?_
    go_wp2_with fail
    have hs := set_rowo (W := wr) HL.out k (wrap64 (Go.bits .and .u8 (x / 2 ^ km) 1))
    rw [← HBit.out, bitsK_set] at hs
    rw [← HBit.out]
    refine ⟨⟨k + 1, by omega, rfl, hs, set_other (W := wr) HG.out (by omega) k _, (HB.out.setCell (p := ⟨w.heap.size, k, none⟩) (Nat.le_refl _) _).drew⟩, ?_⟩
    simp only [intOf]
    omega
   ·have HSk := Lib.hid (bitsK_skip (b := b) (n := n) (k := k) (by rw [hk8, HM.out]; exact hin))
    have d7 : ¬ (k8 : Int) < (m : Int) := by omega
    clear hk8 hkm
    go_wp2_with fail
    refine ⟨⟨k + 1, by omega, rfl, HSk.out ▸ HL.out, HG, HB⟩, ?_⟩
    simp only [intOf]
    omega
  ·obtain rfl : n = k := by omega
   go_wp2_with fail
   have hCB := C_ints HL.out (by rw [bitsK_length]; omega)
   refine (Bytes_call (w.heap.size + 1) (some ⟨w.heap.size, 0, none⟩) (bitsK b n n) n n wr (bitsK_length _ _ _) HG.out hCB h1 h2).mono ?_
   clear hCB
   rintro e w2 ⟨bb, rfl, hbb, hb2⟩
   have HB2 := Lib.hid (HB.out.trans (hb2.mono HB.out.size))
   have HCB := Lib.hid (C_u8o hbb (by rw [pack_bits_length]; omega))
   have HPL := Lib.hid (pack_bits_length b n)
   clear hbb hb2
   obtain ⟨pl, hpl⟩ : ∃ pl, (n + 7) / 8 = pl := ⟨_, rfl⟩
   rw [hpl] at HPL ⊢
   have HPl := Lib.hid hpl
   clear hpl
   go_wp2_with fail
   have hE := bytes_Equal.calls (some ⟨bb, 0, none⟩) pl (pack (bitsK b n n)) A c b (eqB (pack (bitsK b n n)) b) w2 HCB.out (by rw [HPL.out]; exact Nat.le_refl _) (Kd.C_below HC.out HB2.out) HCc.out rfl
   rw [HPL.out, HM.out] at hE
   refine hE.mono ?_
   clear hE
   rintro e w3 ⟨rfl, hd3⟩
   have HB3 := Lib.hid (below_step HB2.out hd3.below)
   clear hd3
   obtain ⟨r, hr⟩ : ∃ r, eqB (pack (bitsK b n n)) b = r := ⟨_, rfl⟩
   have HR := Lib.hid (show parB n b = r from hr)
   rw [hr]
   clear hr
   cases r with
   | true =>
    go_wp2_with fail
    refine bodyPost_ret (v := .tuple #[.pointer (some ⟨w.heap.size + 1, 0, none⟩), .int .i64 0]) ?_ rfl ?_
    ·simp [results, Tryz.results130, go_sem]
    ·exact ⟨_, by rw [HR.out]; rfl, HB3.out⟩
   | false =>
    go_wp2_with fail
    refine bodyPost_ret (v := .tuple #[.pointer none, .int .i64 2]) ?_ rfl ?_
    ·simp [results, Tryz.results130, go_sem]
    ·exact ⟨_, by rw [HR.out]; rfl, HB3.out⟩
end Go.Proofs.YtmbnomlkhmcmaaaGreat.A
end
