/- Part of the proof of LawCkptWrites. -/
import Derived.Test.YtmbnomlkhmcmaaaGreatZ10
import Derived.Test.YtmbnomlkhmcmaaaGreatZ11
section
namespace Go.Proofs.YtmbnomlkhmcmaaaGreat.A
open Go.RowKit Go.Shelf Go.Proofs.YtmbnomlkhmcmaaaGreatW.PrintWords Go.Proofs.YtmbnomlkhmcmaaaGreatW.PrintLast Go.Proofs.YtmbnomlkhmcmaaaGreatW.PrintMore Go.Proofs.YtmbnomlkhmcmaaaGreat.C Go.Proofs.YtmbnomlkhmcmaaaGreat.Z
set_option linter.unusedVariables false
set_option linter.unusedSimpArgs false
abbrev Pq := S72
abbrev Xq := S131
structure Fq where
 (s e : Int)
 (P : List Pq) (E : List Xq) (V : List Int) (K : List Bq)
 (PA EA VA KA : Option Addr) (Pc Ec Vc Kc : Nat)
abbrev Fq.v (d : Fq) : Value := .agg #[.int .i64 d.s, .int .i64 d.e, .slice d.PA d.P.length d.Pc, .slice d.EA d.E.length d.Ec, .slice d.VA d.V.length d.Vc, .slice d.KA d.K.length d.Kc]
structure Fq.R (d : Fq) (w : World) : Prop where
 rp : Kd.C k72 w d.PA d.P.length d.P
 re : Kd.C k131 w d.EA d.E.length d.E
 rv : Kd.C (Kd.int .u8) w d.VA d.V.length d.V
 ru : u8ok d.V
 rk : Kd.C k214 w d.KA d.K.length d.K
theorem Fq.R.below {d : Fq} {w W : World} (hd : d.R w) (hb : Below w.heap.size w W) : d.R W := ⟨Kd.C_below hd.rp hb, Kd.C_below hd.re hb, Kd.C_below hd.rv hb, hd.ru, Kd.C_below hd.rk hb⟩
def pqOk (y : Ly) (p : Pq) : Bool := plB y p.f0 p.f1
def okEsQ (y : Ly) : List Int → List Xq → Bool
 | _, [] => true
 | ids, x :: r => if enB y x.f0 x.f1 = true then if ids.contains x.f1 = true then false else okEsQ y (ids ++ [x.f1]) r else false
def okFQ (y : Ly) (d : Fq) : Bool := okEsQ y [] d.E && (d.P.all (pqOk y) && (parB y.nb d.V && (decide ((d.P.length : Int) = y.c2) && (okC d.s d.e && (risS (d.E.map (·.f0)) && stQ y d.K)))))
theorem okFQ_iff {y : Ly} {d : Fq} : okFQ y d = true ↔ okEsQ y [] d.E = true ∧ d.P.all (pqOk y) = true ∧ parB y.nb d.V = true ∧ (d.P.length : Int) = y.c2 ∧ okC d.s d.e = true ∧ risS (d.E.map (·.f0)) = true ∧ stQ y d.K = true := by
 unfold okFQ
 simp only [Bool.and_eq_true, decide_eq_true_eq]
theorem okEsQ_cons {y : Ly} {ids : List Int} {x : Xq} {r : List Xq} (h : enB y x.f0 x.f1 = true) (hn : x.f1 ∉ ids) : okEsQ y ids (x :: r) = okEsQ y (ids ++ [x.f1]) r := by
 have h1 : ¬ ids.contains x.f1 = true := fun hc => hn (by simpa using hc)
 show (if enB y x.f0 x.f1 = true then if ids.contains x.f1 = true then false else okEsQ y (ids ++ [x.f1]) r else false) = _
 rw [if_pos h, if_neg h1]
theorem okEsQ_no {y : Ly} {ids : List Int} {x : Xq} {r : List Xq} (h : enB y x.f0 x.f1 = false) : okEsQ y ids (x :: r) = false := by
 show (if enB y x.f0 x.f1 = true then if ids.contains x.f1 = true then false else okEsQ y (ids ++ [x.f1]) r else false) = _
 rw [if_neg (by rw [h]; decide)]
theorem okEsQ_in {y : Ly} {ids : List Int} {x : Xq} {r : List Xq} (hn : x.f1 ∈ ids) : okEsQ y ids (x :: r) = false := by
 have h1 : ids.contains x.f1 = true := by simpa using hn
 show (if enB y x.f0 x.f1 = true then if ids.contains x.f1 = true then false else okEsQ y (ids ++ [x.f1]) r else false) = _
 rw [h1]
 split <;> rfl
abbrev oRfI0 (q : Fq) (PA : Option Addr) (nP : Nat) (ad : Addr) (nE : Nat) (nV : Nat) (nK : Nat) : Obj := Obj.cells #[.int .i64 q.s, .int .i64 q.e, .slice PA nP q.Pc, .slice (some ad) nE q.Ec, .slice q.VA nV q.Vc, .slice q.KA nK q.Kc] 60
abbrev oRfI1 (q : Fq) (PA : Option Addr) (nP : Nat) (EA : Option Addr) (nE : Nat) (nV : Nat) (nK : Nat) : Obj := Obj.cells #[.int .i64 q.s, .int .i64 q.e, .slice PA nP q.Pc, .slice EA nE q.Ec, .slice q.VA nV q.Vc, .slice q.KA nK q.Kc] 60
abbrev sRfI2 (gd : Nat) (ad : Addr) (nP : Nat) (q : Fq) (gl : Nat) (y : Ly) (k : Nat) (lf : Int) (tg : Int) : World → Prop := fun w' => w'.cell? ⟨gd, 2, none⟩ = some (.slice (some ad) nP q.Pc) ∧ w'.cell? ⟨gl, 0, none⟩ = some (.int .i64 y.c0) ∧ w'.cell? ⟨gl, 1, none⟩ = some (.int .i64 y.c1) ∧ w'.cell? ⟨gl, 2, none⟩ = some (.int .i64 y.c2) ∧ w'.cell? ⟨gl, 3, none⟩ = some (.int .i64 y.c3) ∧ w'.cell? ⟨gl, 4, none⟩ = some (.int .i64 y.c4) ∧ w'.cell? ⟨gl, 5, none⟩ = some (.int .i64 y.c5) ∧ w'.cell? ⟨gl, 6, none⟩ = some (.int .i64 y.c6) ∧ w'.cell? ⟨gl, 7, none⟩ = some (.int .i64 y.c7) ∧ w'.cell? ⟨gl, 8, none⟩ = some (.int .i64 y.c8) ∧ w'.cell? ⟨gl, 9, none⟩ = some (.int .i64 y.c9) ∧ w'.cell? ⟨gl, 10, none⟩ = some (.slice y.A y.l.length y.cap) ∧ w'.cell? (ad.add (k * 2)) = some (.int .i64 lf) ∧ w'.cell? ⟨(ad.add (k * 2)).block, (ad.add (k * 2)).off + 1, none⟩ = some (.int .i64 tg)
abbrev sRfI3 (bx : Nat) (key : ByteArray) (id : Int) (gl : Nat) (y : Ly) (gd : Nat) (ad : Addr) (nE : Nat) (q : Fq) : World → Prop := fun w' => w'.cell? ⟨bx, 0, none⟩ = some (.string key) ∧ w'.cell? ⟨bx, 1, none⟩ = some (.int .i64 id) ∧ w'.cell? ⟨gl, 2, none⟩ = some (.int .i64 y.c2) ∧ w'.cell? ⟨gd, 3, none⟩ = some (.slice (some ad) nE q.Ec)
set_option maxHeartbeats 16000000 in
set_option maxRecDepth 100000 in
theorem MayFullQ_call {y : Ly} {w : World} (hy : y.R w) (ok : y.Ok) (q : Fq) (hd : q.R w) (hE : q.E.length ≤ 300) (hP : q.P.length ≤ 300) (hV : q.V.length ≤ 300) (hVc : q.V.length ≤ q.Vc) (hK : q.K.length ≤ 300) (hKc : q.K.length ≤ q.Kc) :
  Calls Tryz.prog 52 #[y.v, q.v] w fun e w' => e = .returned (.bool (okFQ y q)) ∧ Below w.heap.size w w' := by
 have HY := Lib.hid hy
 have HK := Lib.hid ok
 have HD := Lib.hid hd
 have H3 := Lib.hid (And.intro hE (And.intro hP (And.intro hV (And.intro hVc (And.intro hK hKc)))))
 have HNb := Lib.hid (show 1 ≤ y.nb ∧ y.nb ≤ 127 by have := Ly.lv_le ok; unfold Ly.nb; omega)
 obtain ⟨nP, hnP⟩ : ∃ n, q.P.length = n := ⟨_, rfl⟩
 obtain ⟨nE, hnE⟩ : ∃ n, q.E.length = n := ⟨_, rfl⟩
 obtain ⟨nV, hnV⟩ : ∃ n, q.V.length = n := ⟨_, rfl⟩
 obtain ⟨nK, hnK⟩ : ∃ n, q.K.length = n := ⟨_, rfl⟩
 obtain ⟨PA, hPA⟩ : ∃ p, q.PA = p := ⟨_, rfl⟩
 obtain ⟨EA, hEA⟩ : ∃ p, q.EA = p := ⟨_, rfl⟩
 have HRP := Lib.hid (show Kd.C k72 w PA q.P.length q.P from hPA ▸ hd.rp)
 have HRE := Lib.hid (show Kd.C k131 w EA q.E.length q.E from hEA ▸ hd.re)
 have NP := Lib.hid hnP
 have NE := Lib.hid hnE
 have NV := Lib.hid hnV
 have NK := Lib.hid hnK
 show Calls _ _ #[y.v, .agg #[.int .i64 q.s, .int .i64 q.e, .slice q.PA q.P.length q.Pc, .slice q.EA q.E.length q.Ec, .slice q.VA q.V.length q.Vc, .slice q.KA q.K.length q.Kc]] _ _
 rw [hnP, hnE, hnV, hnK, hPA, hEA]
 clear hy ok hd hE hP hV hVc hK hKc hnP hnE hnV hnK hPA hEA
 go_enter Tryz.func52, Tryz.ntmps52
 go_upto_region 1 with (first
  | ((with_reducible refine gate_dst (N := 2) rfl ?_); refine box_event ?hg (N := 2) ?hd (cs := #[.int .i64 y.c0, .int .i64 y.c1, .int .i64 y.c2, .int .i64 y.c3, .int .i64 y.c4, .int .i64 y.c5, .int .i64 y.c6, .int .i64 y.c7, .int .i64 y.c8, .int .i64 y.c9, .slice y.A y.l.length y.cap]) (t := 24) ?hr ?_; (case hd => rfl); (case hg => rfl); (case hr => first | (go_simp; done) | (go_simp; rfl)); intro gl hg_ w1 hbox_ hb_; have HX1 := Lib.hid (Sr.box (Sr.nil w) hg_ hbox_ hb_); clear hbox_ hb_ hg_)
  | ((with_reducible refine gate_dst (N := 3) rfl ?_); refine box_event ?hg (N := 3) ?hd (cs := #[.int .i64 q.s, .int .i64 q.e, .slice PA nP q.Pc, .slice EA nE q.Ec, .slice q.VA nV q.Vc, .slice q.KA nK q.Kc]) (t := 60) ?hr ?_; (case hd => rfl); (case hg => rfl); (case hr => first | (go_simp; done) | (go_simp; rfl)); intro gd hg_ w2 hbox_ hb_; have HX2 := Lib.hid (Sr.box HX1.out hg_ hbox_ hb_); clear hbox_ hb_ hg_)
  | fail)
 have HS : ∀ w', Sr w [(gd, (oRfI1 q PA nP EA nE nV nK)), (gl, y.cobj)] w' → w'.cell? ⟨gd, 4, none⟩ = some (.slice q.VA nV q.Vc) ∧ w'.cell? ⟨gl, 0, none⟩ = some (.int .i64 y.c0) := fun w' h => ⟨h.cell mh 4 rfl, h.cell (mt mh) 0 rfl⟩
 obtain ⟨bp, hbp⟩ : ∃ b, parB y.nb q.V = b := ⟨_, rfl⟩
 have BP := Lib.hid hbp
 clear hbp
 cases bp with
 | false =>
  refine stq 11 0 (fun w' => w'.cell? ⟨gd, 4, none⟩ = some (.slice q.VA nV q.Vc) ∧ w'.cell? ⟨gl, 0, none⟩ = some (.int .i64 y.c0)) (HS _ (HX2.out.below (drewB _))) (fun hHeld => ?_)
  refine pq 0 12 11 1 ?_
  refine pq 3 15 11 9 ?_
  refine tq 1 13 11 11 hHeld ?_
  refine tq 4 16 11 27 hHeld ?_
  refine oq 2 14 11 31 (fun K hK => ?_)
  refine gq Tryz.func107 #[.int .i64 y.c0] ?_
  with_reducible refine ((BucketsQ_call HK.out _)).mono ?_
  rintro e wa ⟨rfl, hb_⟩
  refine ⟨_, rfl, ?_⟩
  have HA1 := Lib.hid (Sr.below (HX2.out.below (drewB _)) hb_)
  clear hb_
  refine hK.out _ _ (HS _ HA1.out) (fun hHeld => ?_)
  clear hK K
  refine nx 14 ?_
  refine oq 5 17 11 63 (fun K hK => ?_)
  refine gq Tryz.func115 #[.int .i64 (y.nb : Int), .slice q.VA nV q.Vc] ?_
  with_reducible refine ((ParseBitsQ_call _ BP.out NV.out (Kd.C_below HD.out.rv HA1.out.bel) H3.out.2.2.2.1 HNb.out.1 HNb.out.2 H3.out.2.2.1 HD.out.ru)).mono ?_
  rintro e wb ⟨pp, rfl, hb_⟩
  refine ⟨_, rfl, ?_⟩
  have HA2 := Lib.hid (HA1.out.below hb_)
  clear hb_
  refine hK.out _ _ (HS _ HA2.out) (fun hHeld => ?_)
  clear hK K
  refine nx 17 ?_
  refine pq 6 11 11 127 ?_
  refine pq 7 18 11 255 ?_
  refine pq 8 19 11 511 ?_
  refine pq 9 5 11 1023 ?_
  refine pq 10 6 11 2047 ?_
  refine done_ (by kernel_rfl) ?_
  have qd0 := HA2.out.cell mh 0 rfl
  have qd1 := HA2.out.cell mh 1 rfl
  have qd2 := HA2.out.cell mh 2 rfl
  have qd3 := HA2.out.cell mh 3 rfl
  have qd4 := HA2.out.cell mh 4 rfl
  have qd5 := HA2.out.cell mh 5 rfl
  have ql0 := HA2.out.cell (mt mh) 0 rfl
  have ql1 := HA2.out.cell (mt mh) 1 rfl
  have ql2 := HA2.out.cell (mt mh) 2 rfl
  have ql3 := HA2.out.cell (mt mh) 3 rfl
  have ql4 := HA2.out.cell (mt mh) 4 rfl
  have ql5 := HA2.out.cell (mt mh) 5 rfl
  have ql6 := HA2.out.cell (mt mh) 6 rfl
  have ql7 := HA2.out.cell (mt mh) 7 rfl
  have ql8 := HA2.out.cell (mt mh) 8 rfl
  have ql9 := HA2.out.cell (mt mh) 9 rfl
  have ql10 := HA2.out.cell (mt mh) 10 rfl
  obtain ⟨b1, hb1⟩ : ∃ b, okC q.s q.e = b := ⟨_, rfl⟩
  have B1 := Lib.hid hb1
  go_wp2_with fail
  refine (MayCommitQ_r q.s q.e b1 hb1 _).mono ?_
  clear hb1
  rintro e wc ⟨rfl, hb_⟩
  have HA3 := Lib.hid (HA2.out.below hb_)
  clear hb_ qd0 qd1 qd2 qd3 qd4 qd5 ql0 ql1 ql2 ql3 ql4 ql5 ql6 ql7 ql8 ql9 ql10
  have qd0 := HA3.out.cell mh 0 rfl
  have qd1 := HA3.out.cell mh 1 rfl
  have qd2 := HA3.out.cell mh 2 rfl
  have qd3 := HA3.out.cell mh 3 rfl
  have qd4 := HA3.out.cell mh 4 rfl
  have qd5 := HA3.out.cell mh 5 rfl
  have ql0 := HA3.out.cell (mt mh) 0 rfl
  have ql1 := HA3.out.cell (mt mh) 1 rfl
  have ql2 := HA3.out.cell (mt mh) 2 rfl
  have ql3 := HA3.out.cell (mt mh) 3 rfl
  have ql4 := HA3.out.cell (mt mh) 4 rfl
  have ql5 := HA3.out.cell (mt mh) 5 rfl
  have ql6 := HA3.out.cell (mt mh) 6 rfl
  have ql7 := HA3.out.cell (mt mh) 7 rfl
  have ql8 := HA3.out.cell (mt mh) 8 rfl
  have ql9 := HA3.out.cell (mt mh) 9 rfl
  have ql10 := HA3.out.cell (mt mh) 10 rfl
  cases b1 with
  | false =>
   as_aux_lemma =>
    have HV := Lib.hid (show okFQ y q = false from no_of fun h => by
     obtain ⟨h1, h2, h3, h4, h5, h6, h7⟩ := okFQ_iff.1 h
     rw [B1.out] at h5; cases h5)
    go_wp2_with fail
    go_ret
    exact ⟨by rw [HV.out]; rfl, HA3.out.bel⟩
  | true =>
   by_cases c1 : (nP : Int) = y.c2
   ·have e1 : ((nP : Int) != y.c2) = false := by rw [c1]; simp
    have HV := Lib.hid (show okFQ y q = false from no_of fun h => by
     obtain ⟨h1, h2, h3, h4, h5, h6, h7⟩ := okFQ_iff.1 h
     rw [BP.out] at h3; cases h3)
    go_wp2_with fail
    go_ret
    exact ⟨by rw [HV.out]; rfl, HA3.out.bel⟩
   ·have e1 : ((nP : Int) != y.c2) = true := by rw [bne_iff_ne]; exact c1
    as_aux_lemma =>
     have HV := Lib.hid (show okFQ y q = false from no_of fun h => by
      obtain ⟨h1, h2, h3, h4, h5, h6, h7⟩ := okFQ_iff.1 h
      rw [NP.out] at h4; exact c1 h4)
     go_wp2_with fail
     go_ret
     exact ⟨by rw [HV.out]; rfl, HA3.out.bel⟩
 | true =>
  refine stq 11 0 (fun w' => w'.cell? ⟨gd, 4, none⟩ = some (.slice q.VA nV q.Vc) ∧ w'.cell? ⟨gl, 0, none⟩ = some (.int .i64 y.c0)) (HS _ (HX2.out.below (drewB _))) (fun hHeld => ?_)
  refine pq 0 12 11 1 ?_
  refine pq 3 15 11 9 ?_
  refine tq 1 13 11 11 hHeld ?_
  refine tq 4 16 11 27 hHeld ?_
  refine oq 2 14 11 31 (fun K hK => ?_)
  refine gq Tryz.func107 #[.int .i64 y.c0] ?_
  with_reducible refine ((BucketsQ_call HK.out _)).mono ?_
  rintro e wa ⟨rfl, hb_⟩
  refine ⟨_, rfl, ?_⟩
  have HA1 := Lib.hid (Sr.below (HX2.out.below (drewB _)) hb_)
  clear hb_
  refine hK.out _ _ (HS _ HA1.out) (fun hHeld => ?_)
  clear hK K
  refine nx 14 ?_
  refine oq 5 17 11 63 (fun K hK => ?_)
  refine gq Tryz.func115 #[.int .i64 (y.nb : Int), .slice q.VA nV q.Vc] ?_
  with_reducible refine ((ParseBitsQ_call _ BP.out NV.out (Kd.C_below HD.out.rv HA1.out.bel) H3.out.2.2.2.1 HNb.out.1 HNb.out.2 H3.out.2.2.1 HD.out.ru)).mono ?_
  rintro e wb ⟨pp, rfl, hb_⟩
  refine ⟨_, rfl, ?_⟩
  have HA2 := Lib.hid (HA1.out.below hb_)
  clear hb_
  refine hK.out _ _ (HS _ HA2.out) (fun hHeld => ?_)
  clear hK K
  refine nx 17 ?_
  refine pq 6 11 11 127 ?_
  refine pq 7 18 11 255 ?_
  refine pq 8 19 11 511 ?_
  refine pq 9 5 11 1023 ?_
  refine pq 10 6 11 2047 ?_
  refine done_ (by kernel_rfl) ?_
  have qd0 := HA2.out.cell mh 0 rfl
  have qd1 := HA2.out.cell mh 1 rfl
  have qd2 := HA2.out.cell mh 2 rfl
  have qd3 := HA2.out.cell mh 3 rfl
  have qd4 := HA2.out.cell mh 4 rfl
  have qd5 := HA2.out.cell mh 5 rfl
  have ql0 := HA2.out.cell (mt mh) 0 rfl
  have ql1 := HA2.out.cell (mt mh) 1 rfl
  have ql2 := HA2.out.cell (mt mh) 2 rfl
  have ql3 := HA2.out.cell (mt mh) 3 rfl
  have ql4 := HA2.out.cell (mt mh) 4 rfl
  have ql5 := HA2.out.cell (mt mh) 5 rfl
  have ql6 := HA2.out.cell (mt mh) 6 rfl
  have ql7 := HA2.out.cell (mt mh) 7 rfl
  have ql8 := HA2.out.cell (mt mh) 8 rfl
  have ql9 := HA2.out.cell (mt mh) 9 rfl
  have ql10 := HA2.out.cell (mt mh) 10 rfl
  obtain ⟨b1, hb1⟩ : ∃ b, okC q.s q.e = b := ⟨_, rfl⟩
  have B1 := Lib.hid hb1
  go_wp2_with fail
  refine (MayCommitQ_r q.s q.e b1 hb1 _).mono ?_
  clear hb1
  rintro e wc ⟨rfl, hb_⟩
  have HA3 := Lib.hid (HA2.out.below hb_)
  clear hb_ qd0 qd1 qd2 qd3 qd4 qd5 ql0 ql1 ql2 ql3 ql4 ql5 ql6 ql7 ql8 ql9 ql10
  have qd0 := HA3.out.cell mh 0 rfl
  have qd1 := HA3.out.cell mh 1 rfl
  have qd2 := HA3.out.cell mh 2 rfl
  have qd3 := HA3.out.cell mh 3 rfl
  have qd4 := HA3.out.cell mh 4 rfl
  have qd5 := HA3.out.cell mh 5 rfl
  have ql0 := HA3.out.cell (mt mh) 0 rfl
  have ql1 := HA3.out.cell (mt mh) 1 rfl
  have ql2 := HA3.out.cell (mt mh) 2 rfl
  have ql3 := HA3.out.cell (mt mh) 3 rfl
  have ql4 := HA3.out.cell (mt mh) 4 rfl
  have ql5 := HA3.out.cell (mt mh) 5 rfl
  have ql6 := HA3.out.cell (mt mh) 6 rfl
  have ql7 := HA3.out.cell (mt mh) 7 rfl
  have ql8 := HA3.out.cell (mt mh) 8 rfl
  have ql9 := HA3.out.cell (mt mh) 9 rfl
  have ql10 := HA3.out.cell (mt mh) 10 rfl
  cases b1 with
  | false =>
   as_aux_lemma =>
    have HV := Lib.hid (show okFQ y q = false from no_of fun h => by
     obtain ⟨h1, h2, h3, h4, h5, h6, h7⟩ := okFQ_iff.1 h
     rw [B1.out] at h5; cases h5)
    go_wp2_with fail
    go_ret
    exact ⟨by rw [HV.out]; rfl, HA3.out.bel⟩
  | true =>
   by_cases c1 : (nP : Int) = y.c2
   ·have e1 : ((nP : Int) != y.c2) = false := by rw [c1]; simp
    go_wp2_with fail
    obtain ⟨b5, hb5⟩ : ∃ b, stQ y q.K = b := ⟨_, rfl⟩
    have B5 := Lib.hid hb5
    refine (mayStashQ_call (HY.out.below HA3.out.bel) q.KA nK q.Kc q.K NK.out (Kd.C_below HD.out.rk HA3.out.bel) H3.out.2.2.2.2.2 H3.out.2.2.2.2.1 b5 hb5).mono ?_
    clear hb5
    rintro e wd ⟨rfl, hb_⟩
    have HA4 := Lib.hid (HA3.out.below hb_)
    clear hb_ qd0 qd1 qd2 qd3 qd4 qd5 ql0 ql1 ql2 ql3 ql4 ql5 ql6 ql7 ql8 ql9 ql10
    cases b5 with
    | false =>
     as_aux_lemma =>
      have HV := Lib.hid (show okFQ y q = false from no_of fun h => by
       obtain ⟨h1, h2, h3, h4, h5, h6, h7⟩ := okFQ_iff.1 h
       rw [B5.out] at h7; cases h7)
      go_wp2_with fail
      go_ret
      exact ⟨by rw [HV.out]; rfl, HA4.out.bel⟩
    | true =>
     have HL0 := Lib.hid (show Sr w [(gd, (oRfI1 q PA nP EA nE nV nK)), (gl, y.cobj)] wd from HA4.out)
     have E1 := Lib.hid (show (q.P.length : Int) = y.c2 by rw [NP.out]; exact c1)
     clear HS HX2 HX1 e1 c1
     go_wp2_with fail
     go_loopw [7] (fun i wr => ∃ k : Nat, k ≤ nP ∧ i = .int .i64 k ∧ Hid ((q.P.take k).all (pqOk y) = true) ∧ Hid (Sr w [(gd, (oRfI1 q PA nP EA nE nV nK)), (gl, y.cobj)] wr)) (fun i _ => nP - (intOf i).toNat)
     case atStart =>
      exact ⟨0, Nat.zero_le _, rfl, (by simp : _ = true), HL0⟩
     case round =>
      clear HL0
      obtain ⟨k, hk, rfl, HR, HS0⟩ := hrel
      have qd2 := HS0.out.cell mh 2 rfl
      by_cases hlt : k < nP
      ·obtain ⟨⟨lf, tg⟩, hb⟩ : ∃ b, rd_T72 q.P (k : Int) = b := ⟨_, rfl⟩
       have hks : k < q.P.length := by have := NP.out; omega
       have hel : q.P[k] = ⟨lf, tg⟩ := by
        rw [← hb]
        unfold rd_T72
        rw [Int.toNat_natCast, List.getD_eq_getElem?_getD, List.getElem?_eq_getElem hks]
        rfl
       have HEl := Lib.hid (show q.P[k]? = some ⟨lf, tg⟩ by rw [List.getElem?_eq_getElem hks, hel])
       have HDr := Lib.hid (show q.P.take (k + 1) = q.P.take k ++ [⟨lf, tg⟩] by rw [List.take_succ_eq_append_getElem hks, hel])
       have HDd := Lib.hid (show q.P.drop k = ⟨lf, tg⟩ :: q.P.drop (k + 1) by rw [List.drop_eq_getElem_cons hks, hel])
       have HMm := Lib.hid (show (⟨lf, tg⟩ : Pq) ∈ q.P from hel ▸ List.getElem_mem hks)
       obtain ⟨ad, rfl, q0, q1⟩ := at_T72 HRP.out (k : Int) (by omega) (by omega)
       rw [hb] at q0 q1
       simp only [Int.toNat_natCast] at q0 q1
       have HQ0 := Lib.hid q0
       have HQ1 := Lib.hid q1
       have HS7 : ∀ w', Sr w [(gd, Obj.cells #[.int .i64 q.s, .int .i64 q.e, .slice (some ad) nP q.Pc, .slice EA nE q.Ec, .slice q.VA nV q.Vc, .slice q.KA nK q.Kc] 60), (gl, y.cobj)] w' → w'.cell? ⟨gd, 2, none⟩ = some (.slice (some ad) nP q.Pc) ∧ w'.cell? ⟨gl, 0, none⟩ = some (.int .i64 y.c0) ∧ w'.cell? ⟨gl, 1, none⟩ = some (.int .i64 y.c1) ∧ w'.cell? ⟨gl, 2, none⟩ = some (.int .i64 y.c2) ∧ w'.cell? ⟨gl, 3, none⟩ = some (.int .i64 y.c3) ∧ w'.cell? ⟨gl, 4, none⟩ = some (.int .i64 y.c4) ∧ w'.cell? ⟨gl, 5, none⟩ = some (.int .i64 y.c5) ∧ w'.cell? ⟨gl, 6, none⟩ = some (.int .i64 y.c6) ∧ w'.cell? ⟨gl, 7, none⟩ = some (.int .i64 y.c7) ∧ w'.cell? ⟨gl, 8, none⟩ = some (.int .i64 y.c8) ∧ w'.cell? ⟨gl, 9, none⟩ = some (.int .i64 y.c9) ∧ w'.cell? ⟨gl, 10, none⟩ = some (.slice y.A y.l.length y.cap) ∧ w'.cell? (ad.add (k * 2)) = some (.int .i64 lf) ∧ w'.cell? ⟨(ad.add (k * 2)).block, (ad.add (k * 2)).off + 1, none⟩ = some (.int .i64 tg) := fun w' h => ⟨h.cell mh 2 rfl, h.cell (mt mh) 0 rfl, h.cell (mt mh) 1 rfl, h.cell (mt mh) 2 rfl, h.cell (mt mh) 3 rfl, h.cell (mt mh) 4 rfl, h.cell (mt mh) 5 rfl, h.cell (mt mh) 6 rfl, h.cell (mt mh) 7 rfl, h.cell (mt mh) 8 rfl, h.cell (mt mh) 9 rfl, h.cell (mt mh) 10 rfl, (h.bel.cell (World.block_lt_of_cell? w _ HQ0.out)).trans HQ0.out, (h.bel.cell (World.block_lt_of_cell? w _ HQ1.out)).trans HQ1.out⟩
       obtain ⟨b1, hb1⟩ : ∃ b, plB y lf tg = b := ⟨_, rfl⟩
       have B1' := Lib.hid hb1
       have c0 : (0 : Int) ≤ (k : Int) := by omega
       clear hb1 hb hks hel q0 q1
       go_upto_region 7 with fail
       clear qd2
       cases b1 with
       | true =>
        refine stq 8 0 (sRfI2 gd ad nP q gl y k lf tg) (HS7 _ (HS0.out.below (drewB _))) (fun hHeld => ?_)
        refine pq 1 51 8 2 ?_
        refine pq 3 53 8 10 ?_
        refine tq 0 50 8 11 hHeld ?_
        refine tq 2 52 8 15 hHeld ?_
        refine pq 4 54 8 31 ?_
        refine tq 5 55 8 63 hHeld ?_
        refine oq 6 56 8 127 (fun K hK => ?_)
        refine gq Tryz.func139 #[y.v, .agg #[.int .i64 lf, .int .i64 tg]] ?_
        with_reducible refine ((placeQ_call _ HK.out lf tg _ B1'.out)).mono ?_
        rintro e wl ⟨rfl, hb_⟩
        refine ⟨_, rfl, ?_⟩
        have HS4 := Lib.hid (Sr.below (HS0.out.below (drewB _)) hb_)
        clear hb_
        refine hK.out _ _ (HS7 _ HS4.out) (fun hHeld => ?_)
        clear hK K
        refine nx 56 ?_
        refine pq 7 57 8 255 ?_
        refine done_ (by kernel_rfl) ?_
        go_wp2_with fail
        have ek : wrap64 ((k : Int) + 1) = ((k + 1 : Nat) : Int) := by have h1 := H3.out; have h2 := NP.out; rw [wr64 (by omega) (by omega)]; omega
        rw [ek]
        refine ⟨⟨k + 1, by omega, rfl, all_take _ HDr.out HR.out B1'.out, HS4⟩, ?_⟩
        simp only [intOf]
        omega
       | false =>
        refine stq 8 0 (sRfI2 gd ad nP q gl y k lf tg) (HS7 _ (HS0.out.below (drewB _))) (fun hHeld => ?_)
        refine pq 1 51 8 2 ?_
        refine pq 3 53 8 10 ?_
        refine tq 0 50 8 11 hHeld ?_
        refine tq 2 52 8 15 hHeld ?_
        refine pq 4 54 8 31 ?_
        refine tq 5 55 8 63 hHeld ?_
        refine oq 6 56 8 127 (fun K hK => ?_)
        refine gq Tryz.func139 #[y.v, .agg #[.int .i64 lf, .int .i64 tg]] ?_
        with_reducible refine ((placeQ_call _ HK.out lf tg _ B1'.out)).mono ?_
        rintro e wl ⟨rfl, hb_⟩
        refine ⟨_, rfl, ?_⟩
        have HS4 := Lib.hid (Sr.below (HS0.out.below (drewB _)) hb_)
        clear hb_
        refine hK.out _ _ (HS7 _ HS4.out) (fun hHeld => ?_)
        clear hK K
        refine nx 56 ?_
        refine pq 7 57 8 255 ?_
        refine done_ (by kernel_rfl) ?_
        have HV := Lib.hid (show okFQ y q = false from no_of fun h => by
         obtain ⟨h1, h2, h3, h4, h5, h6, h7⟩ := okFQ_iff.1 h
         rw [all_no (pqOk y) HMm.out B1'.out] at h2; cases h2)
        go_wp2_with fail
        go_ret
        exact ⟨by rw [HV.out]; rfl, HS4.out.bel⟩
      ·obtain rfl : nP = k := by omega
       have HPf := Lib.hid (show q.P.all (pqOk y) = true by have h := HR.out; rwa [← NP.out, List.take_length] at h)
       clear HR
       go_wp2_with fail
       clear qd2
       have HL1 := Lib.hid (show Sr w [(gd, (oRfI1 q PA nP EA nE nV nK)), (gl, y.cobj)] wr from HS0.out)
       clear HS0
       go_loopw [8] (fun i wr => ∃ k : Nat, k ≤ nE ∧ i = .int .i64 k ∧ Hid (okEsQ y [] q.E = okEsQ y ((q.E.take k).map (·.f1)) (q.E.drop k)) ∧ Hid (∀ j, j + 1 < k → ltS ((q.E.map (·.f0)).getD j ByteArray.empty) ((q.E.map (·.f0)).getD (j + 1) ByteArray.empty) = true) ∧ Hid (Sr w [(gd, (oRfI1 q PA nP EA nE nV nK)), (gl, y.cobj)] wr)) (fun i _ => nE - (intOf i).toNat)
       case atStart =>
        exact ⟨0, Nat.zero_le _, rfl, (by simp : _ = _), fun j hj => by omega, HL1⟩
       case round =>
        clear HL1
        obtain ⟨k, hk, rfl, HR, HI, HS0⟩ := hrel
        have qd3 := HS0.out.cell mh 3 rfl
        by_cases hlt : k < nE
        ·obtain ⟨⟨key, id⟩, hb⟩ : ∃ b, rd_T131 q.E (k : Int) = b := ⟨_, rfl⟩
         have hks : k < q.E.length := by have := NE.out; omega
         have hel : q.E[k] = ⟨key, id⟩ := by
          rw [← hb]
          unfold rd_T131
          rw [Int.toNat_natCast, List.getD_eq_getElem?_getD, List.getElem?_eq_getElem hks]
          rfl
         have HEl := Lib.hid (show q.E[k]? = some ⟨key, id⟩ by rw [List.getElem?_eq_getElem hks, hel])
         have HDr := Lib.hid (show q.E.take (k + 1) = q.E.take k ++ [⟨key, id⟩] by rw [List.take_succ_eq_append_getElem hks, hel])
         have HDd := Lib.hid (show q.E.drop k = ⟨key, id⟩ :: q.E.drop (k + 1) by rw [List.drop_eq_getElem_cons hks, hel])
         have HMm := Lib.hid (show (⟨key, id⟩ : Xq) ∈ q.E from hel ▸ List.getElem_mem hks)
         obtain ⟨ad, rfl, q0, q1⟩ := at_T131 HRE.out (k : Int) (by omega) (by omega)
         rw [hb] at q0 q1
         simp only [Int.toNat_natCast] at q0 q1
         replace q0 := (HS0.out.bel.cell (World.block_lt_of_cell? w _ q0)).trans q0
         replace q1 := (HS0.out.bel.cell (World.block_lt_of_cell? w _ q1)).trans q1
         have HS1 := Lib.hid (HS0.out.row (.cells #[.string key, .int .i64 id] 131))
         have hgk : (q.E.map (·.f0)).getD k ByteArray.empty = key := by rw [List.getD_eq_getElem?_getD, List.getElem?_map, HEl.out]; rfl
         have HGk := Lib.hid hgk
         have c0 : (0 : Int) ≤ (k : Int) := by omega
         clear hb hks hel hgk
         go_upto_region 13 with fail
         clear qd3 q0 q1
         generalize wr.alloc (.cells #[.string key, .int .i64 id] 131) = W1 at HS1 ⊢
         generalize wr.heap.size = bx at HS1 ⊢
         have HS : ∀ w', Sr w ((bx, Obj.cells #[.string key, .int .i64 id] 131) :: [(gd, (oRfI0 q PA nP ad nE nV nK)), (gl, y.cobj)]) w' → w'.cell? ⟨bx, 0, none⟩ = some (.string key) ∧ w'.cell? ⟨bx, 1, none⟩ = some (.int .i64 id) ∧ w'.cell? ⟨gl, 2, none⟩ = some (.int .i64 y.c2) ∧ w'.cell? ⟨gd, 3, none⟩ = some (.slice (some ad) nE q.Ec) := fun w' h => ⟨h.cell mh 0 rfl, h.cell mh 1 rfl, h.cell (mt (mt mh)) 2 rfl, h.cell (mt mh) 3 rfl⟩
         as_aux_lemma =>
          by_cases a1 : id < 0
          ·have e1 : decide (id < 0) = true := decide_eq_true a1
           refine stq 32 0 (sRfI3 bx key id gl y gd ad nE q) (HS _ (HS1.out.below (drewB _))) (fun hHeld => ?_)
           refine pq 0 70 32 1 ?_
           refine tq 1 71 32 3 hHeld ?_
           refine pq 2 72 32 7 ?_
           refine pq 3 73 32 15 ?_
           refine pqo 4 74 32 31 ?_
           refine pqo 5 75 32 63 ?_
           refine pqo 6 76 32 127 ?_
           refine pqo 7 77 32 255 ?_
           refine pqo 8 78 32 511 ?_
           refine pq 9 79 32 1023 ?_
           refine pq 10 80 32 2047 ?_
           refine pqo 11 81 32 4095 ?_
           refine pqo 12 82 32 8191 ?_
           refine pqo 13 83 32 16383 ?_
           refine pqo 14 84 32 32767 ?_
           refine pq 15 85 32 65535 ?_
           refine pq 16 86 32 131071 ?_
           refine pqo 17 87 32 262143 ?_
           refine pqo 18 88 32 524287 ?_
           refine pqo 19 89 32 1048575 ?_
           refine pqo 20 90 32 2097151 ?_
           refine pqo 21 91 32 4194303 ?_
           refine pqo 22 92 32 8388607 ?_
           refine pqo 23 93 32 16777215 ?_
           refine pqo 24 94 32 33554431 ?_
           refine pqo 25 95 32 67108863 ?_
           refine pqo 26 96 32 134217727 ?_
           refine pqo 27 97 32 268435455 ?_
           refine pqo 28 98 32 536870911 ?_
           refine pqo 29 99 32 1073741823 ?_
           refine pqo 30 100 32 2147483647 ?_
           refine pq 31 101 32 4294967295 ?_
           refine done_ (by kernel_rfl) ?_
           have HV := Lib.hid (show okFQ y q = false from no_of fun h => by
            obtain ⟨h1, h2, h3, h4, h5, h6, h7⟩ := okFQ_iff.1 h
            rw [HR.out, HDd.out, okEsQ_no (show enB y key id = false by unfold enB; rw [show amB id (y.c2 - 1) = false from decide_eq_false (by omega), Bool.and_false])] at h1; cases h1)
           go_wp2_with fail
           go_ret
           exact ⟨by rw [HV.out]; rfl, (HS1.out.bel).drew⟩
          ·have e1 : decide (id < 0) = false := decide_eq_false a1
           by_cases a2 : y.c2 ≤ id
           ·have e2 : decide (y.c2 ≤ id) = true := decide_eq_true a2
            refine stq 32 0 (sRfI3 bx key id gl y gd ad nE q) (HS _ (HS1.out.below (drewB _))) (fun hHeld => ?_)
            refine pq 0 70 32 1 ?_
            refine tq 1 71 32 3 hHeld ?_
            refine pq 2 72 32 7 ?_
            refine pq 3 73 32 15 ?_
            refine pq 4 74 32 31 ?_
            refine pq 6 76 32 95 ?_
            refine tq 5 75 32 127 hHeld ?_
            refine tq 7 77 32 255 hHeld ?_
            refine pq 8 78 32 511 ?_
            refine pq 9 79 32 1023 ?_
            refine pq 10 80 32 2047 ?_
            refine pqo 11 81 32 4095 ?_
            refine pqo 12 82 32 8191 ?_
            refine pqo 13 83 32 16383 ?_
            refine pqo 14 84 32 32767 ?_
            refine pq 15 85 32 65535 ?_
            refine pq 16 86 32 131071 ?_
            refine pqo 17 87 32 262143 ?_
            refine pqo 18 88 32 524287 ?_
            refine pqo 19 89 32 1048575 ?_
            refine pqo 20 90 32 2097151 ?_
            refine pqo 21 91 32 4194303 ?_
            refine pqo 22 92 32 8388607 ?_
            refine pqo 23 93 32 16777215 ?_
            refine pqo 24 94 32 33554431 ?_
            refine pqo 25 95 32 67108863 ?_
            refine pqo 26 96 32 134217727 ?_
            refine pqo 27 97 32 268435455 ?_
            refine pqo 28 98 32 536870911 ?_
            refine pqo 29 99 32 1073741823 ?_
            refine pqo 30 100 32 2147483647 ?_
            refine pq 31 101 32 4294967295 ?_
            refine done_ (by kernel_rfl) ?_
            have HV := Lib.hid (show okFQ y q = false from no_of fun h => by
             obtain ⟨h1, h2, h3, h4, h5, h6, h7⟩ := okFQ_iff.1 h
             rw [HR.out, HDd.out, okEsQ_no (show enB y key id = false by unfold enB; rw [show amB id (y.c2 - 1) = false from decide_eq_false (by omega), Bool.and_false])] at h1; cases h1)
            go_wp2_with fail
            go_ret
            exact ⟨by rw [HV.out]; rfl, (HS1.out.bel).drew⟩
           ·have e2 : decide (y.c2 ≤ id) = false := decide_eq_false a2
            by_cases a3 : (key.size : Int) = 10
            ·have e3 : ((key.size : Int) != 10) = false := by rw [a3]; rfl
             have HEn := Lib.hid (show enB y key id = true by unfold enB amB; rw [decide_eq_true a3, decide_eq_true (by omega)]; rfl)
             cases k with
             | zero =>
              have e4 : decide ((0 : Int) < ((0 : Nat) : Int)) = false := by decide
              refine stq 32 0 (sRfI3 bx key id gl y gd ad nE q) (HS _ (HS1.out.below (drewB _))) (fun hHeld => ?_)
              refine pq 0 70 32 1 ?_
              refine tq 1 71 32 3 hHeld ?_
              refine pq 2 72 32 7 ?_
              refine pq 3 73 32 15 ?_
              refine pq 4 74 32 31 ?_
              refine pq 6 76 32 95 ?_
              refine tq 5 75 32 127 hHeld ?_
              refine tq 7 77 32 255 hHeld ?_
              refine pq 8 78 32 511 ?_
              refine pq 9 79 32 1023 ?_
              refine pq 10 80 32 2047 ?_
              refine pq 11 81 32 4095 ?_
              refine tq 12 82 32 8191 hHeld ?_
              refine pq 13 83 32 16383 ?_
              refine pq 14 84 32 32767 ?_
              refine pq 15 85 32 65535 ?_
              refine pq 16 86 32 131071 ?_
              refine pq 17 87 32 262143 ?_
              refine pq 18 88 32 524287 ?_
              refine pq 19 89 32 1048575 ?_
              refine pqo 20 90 32 2097151 ?_
              refine pqo 21 91 32 4194303 ?_
              refine pqo 22 92 32 8388607 ?_
              refine pqo 23 93 32 16777215 ?_
              refine pqo 24 94 32 33554431 ?_
              refine pqo 25 95 32 67108863 ?_
              refine pqo 26 96 32 134217727 ?_
              refine pqo 27 97 32 268435455 ?_
              refine pqo 28 98 32 536870911 ?_
              refine pqo 29 99 32 1073741823 ?_
              refine pq 30 100 32 2147483647 ?_
              refine pq 31 101 32 4294967295 ?_
              refine done_ (by kernel_rfl) ?_
              have HD2 := Lib.hid (HS1.out.below (drewB _))
              generalize W1.drew = W2 at HD2 ⊢
              go_wp2_with fail
              go_loopw [10] (fun i w2 => ∃ j : Nat, j ≤ 0 ∧ i = .int .i64 j ∧ Hid (∀ z, z < j → (q.E.map (·.f1)).getD z 0 ≠ id) ∧ Hid (Sr w ((bx, Obj.cells #[.string key, .int .i64 id] 131) :: [(gd, (oRfI0 q PA nP ad nE nV nK)), (gl, y.cobj)]) w2)) (fun i _ => 0 - (intOf i).toNat)
              case atStart =>
               exact ⟨0, Nat.zero_le _, rfl, fun z hz => by omega, HD2⟩
              case round =>
               clear HD2
               obtain ⟨j, hj, rfl, HN, HJ⟩ := hrel
               obtain rfl : j = 0 := by omega
               go_wp2_with fail
               have HStep := Lib.hid (show okEsQ y [] q.E = okEsQ y ((q.E.take (0 + 1)).map (·.f1)) (q.E.drop (0 + 1)) by
                rw [HR.out, HDd.out, okEsQ_cons HEn.out (fun hm => by
                 obtain ⟨z, hz, hz2⟩ := List.mem_iff_getElem.1 hm
                 rw [List.length_map, List.length_take] at hz
                 refine HN.out z (by omega) ?_
                 have hz3 : _ = id := hz2
                 rw [← hz3, List.getElem_map, List.getElem_take, List.getD_eq_getElem?_getD, List.getElem?_map, List.getElem?_eq_getElem (by have := NE.out; omega)]
                 rfl), HDr.out, List.map_append]
                rfl)
               refine ⟨⟨0 + 1, by omega, rfl, HStep, risS_snoc HI.out (fun m hm => by omega), HJ.out.less (fun _ hr => mt hr)⟩, ?_⟩
               simp only [intOf]
               omega
             | succ m =>
              obtain ⟨pk, hpk⟩ : ∃ z, (q.E.map (·.f0)).getD m ByteArray.empty = z := ⟨_, rfl⟩
              have HPi := Lib.hid hpk
              obtain ⟨ad', e', p0, _⟩ := at_T131 HRE.out (m : Int) (by omega) (by have := NE.out; omega)
              cases e'
              simp only [Int.toNat_natCast] at p0
              rw [show (rd_T131 q.E (m : Int)).f0 = pk by
               rw [← hpk]
               unfold rd_T131
               rw [Int.toNat_natCast, List.getD_eq_getElem?_getD, List.getD_eq_getElem?_getD, List.getElem?_map, List.getElem?_eq_getElem (by have := NE.out; omega)]
               rfl] at p0
              have HP0 := Lib.hid p0
              have HSv : ∀ w', Sr w ((bx, Obj.cells #[.string key, .int .i64 id] 131) :: [(gd, (oRfI0 q PA nP ad nE nV nK)), (gl, y.cobj)]) w' → w'.cell? ⟨bx, 0, none⟩ = some (.string key) ∧ w'.cell? ⟨bx, 1, none⟩ = some (.int .i64 id) ∧ w'.cell? ⟨gl, 2, none⟩ = some (.int .i64 y.c2) ∧ w'.cell? ⟨gd, 3, none⟩ = some (.slice (some ad) nE q.Ec) ∧ w'.cell? (ad.add (m * 2)) = some (.string pk) := fun w' h => ⟨h.cell mh 0 rfl, h.cell mh 1 rfl, h.cell (mt (mt mh)) 2 rfl, h.cell (mt mh) 3 rfl, (h.bel.cell (World.block_lt_of_cell? w _ HP0.out)).trans HP0.out⟩
              have e4 : decide ((0 : Int) < ((m + 1 : Nat) : Int)) = true := decide_eq_true (by omega)
              have ew : wrap64 (m : Int) = (m : Int) := by have := H3.out; have := NE.out; exact wr64 (by omega) (by omega)
              have c1 : m < nE := by omega
              have c2 : (0 : Int) ≤ (m : Int) := by omega
              clear p0 hpk
              refine stq 32 0 (fun w' => w'.cell? ⟨bx, 0, none⟩ = some (.string key) ∧ w'.cell? ⟨bx, 1, none⟩ = some (.int .i64 id) ∧ w'.cell? ⟨gl, 2, none⟩ = some (.int .i64 y.c2) ∧ w'.cell? ⟨gd, 3, none⟩ = some (.slice (some ad) nE q.Ec) ∧ w'.cell? (ad.add (m * 2)) = some (.string pk)) (HSv _ (HS1.out.below (drewB _))) (fun hHeld => ?_)
              refine pq 0 70 32 1 ?_
              refine tq 1 71 32 3 hHeld ?_
              refine pq 2 72 32 7 ?_
              refine pq 3 73 32 15 ?_
              refine pq 4 74 32 31 ?_
              refine pq 6 76 32 95 ?_
              refine tq 5 75 32 127 hHeld ?_
              refine tq 7 77 32 255 hHeld ?_
              refine pq 8 78 32 511 ?_
              refine pq 9 79 32 1023 ?_
              refine pq 10 80 32 2047 ?_
              refine pq 11 81 32 4095 ?_
              refine tq 12 82 32 8191 hHeld ?_
              refine pq 13 83 32 16383 ?_
              refine pq 14 84 32 32767 ?_
              refine pq 15 85 32 65535 ?_
              refine pq 16 86 32 131071 ?_
              refine pq 17 87 32 262143 ?_
              refine pq 18 88 32 524287 ?_
              refine pq 19 89 32 1048575 ?_
              refine pq 20 90 32 2097151 ?_
              refine pq 22 92 32 6291455 ?_
              refine pq 24 94 32 23068671 ?_
              refine pq 25 95 32 56623103 ?_
              refine tq 21 91 32 58720255 hHeld ?_
              refine tq 23 93 32 67108863 hHeld ?_
              refine pq 26 96 32 134217727 ?_
              refine pq 27 97 32 268435455 ?_
              refine tq 28 98 32 536870911 hHeld ?_
              refine pq 29 99 32 1073741823 ?_
              refine pq 30 100 32 2147483647 ?_
              refine pq 31 101 32 4294967295 ?_
              refine done_ (by kernel_rfl) ?_
              cases hcb : (Op.bytesLess key.toList pk.toList || key.toList == pk.toList) with
              | true =>
               have HC := Lib.hid hcb
               clear hcb
               have HV := Lib.hid (show okFQ y q = false from no_of fun h => by
                obtain ⟨h1, h2, h3, h4, h5, h6, h7⟩ := okFQ_iff.1 h
                have h11 := (risS_iff _).1 h6 m (by rw [List.length_map, NE.out]; omega)
                rw [HGk.out, HPi.out] at h11
                have h12 := HC.out
                rw [less_total, Bool.not_eq_true'] at h12
                unfold ltS at h11
                rw [h12] at h11
                cases h11)
               go_wp2_with fail
               go_ret
               exact ⟨by rw [HV.out]; rfl, (HS1.out.bel).drew⟩
              | false =>
               have HC := Lib.hid (show ltS pk key = true by
                unfold ltS
                rw [less_total] at hcb
                simpa using hcb)
               clear hcb
               have HD2 := Lib.hid (HS1.out.below (drewB _))
               generalize W1.drew = W2 at HD2 ⊢
               go_wp2_with fail
               go_loopw [10] (fun i w2 => ∃ j : Nat, j ≤ m + 1 ∧ i = .int .i64 j ∧ Hid (∀ z, z < j → (q.E.map (·.f1)).getD z 0 ≠ id) ∧ Hid (Sr w ((bx, Obj.cells #[.string key, .int .i64 id] 131) :: [(gd, (oRfI0 q PA nP ad nE nV nK)), (gl, y.cobj)]) w2)) (fun i _ => m + 1 - (intOf i).toNat)
               case atStart =>
                exact ⟨0, Nat.zero_le _, rfl, fun z hz => by omega, HD2⟩
               case round =>
                clear HD2
                obtain ⟨j, hj, rfl, HN, HJ⟩ := hrel
                by_cases hlt2 : j < m + 1
                ·obtain ⟨jd, hjd⟩ : ∃ z, (q.E.map (·.f1)).getD j 0 = z := ⟨_, rfl⟩
                 have HJd := Lib.hid hjd
                 obtain ⟨ad', e', _, p1⟩ := at_T131 HRE.out (j : Int) (by omega) (by have := NE.out; omega)
                 cases e'
                 simp only [Int.toNat_natCast] at p1
                 rw [show (rd_T131 q.E (j : Int)).f1 = jd by
                  rw [← hjd]
                  unfold rd_T131
                  rw [Int.toNat_natCast, List.getD_eq_getElem?_getD, List.getD_eq_getElem?_getD, List.getElem?_map, List.getElem?_eq_getElem (by have := NE.out; omega)]
                  rfl] at p1
                 have HP1 := Lib.hid p1
                 have HSj : ∀ w', Sr w ((bx, Obj.cells #[.string key, .int .i64 id] 131) :: [(gd, (oRfI0 q PA nP ad nE nV nK)), (gl, y.cobj)]) w' → w'.cell? ⟨bx, 0, none⟩ = some (.string key) ∧ w'.cell? ⟨bx, 1, none⟩ = some (.int .i64 id) ∧ w'.cell? ⟨gl, 2, none⟩ = some (.int .i64 y.c2) ∧ w'.cell? ⟨gd, 3, none⟩ = some (.slice (some ad) nE q.Ec) ∧ w'.cell? ⟨(ad.add (j * 2)).block, (ad.add (j * 2)).off + 1, none⟩ = some (.int .i64 jd) := fun w' h => ⟨h.cell mh 0 rfl, h.cell mh 1 rfl, h.cell (mt (mt mh)) 2 rfl, h.cell (mt mh) 3 rfl, (h.bel.cell (World.block_lt_of_cell? w _ HP1.out)).trans HP1.out⟩
                 have c3 : j < nE := by omega
                 have c4 : (0 : Int) ≤ (j : Int) := by omega
                 clear p1 hjd
                 go_upto_region 18 with fail
                 refine stq 9 0 (fun w' => w'.cell? ⟨bx, 0, none⟩ = some (.string key) ∧ w'.cell? ⟨bx, 1, none⟩ = some (.int .i64 id) ∧ w'.cell? ⟨gl, 2, none⟩ = some (.int .i64 y.c2) ∧ w'.cell? ⟨gd, 3, none⟩ = some (.slice (some ad) nE q.Ec) ∧ w'.cell? ⟨(ad.add (j * 2)).block, (ad.add (j * 2)).off + 1, none⟩ = some (.int .i64 jd)) (HSj _ (HJ.out.below (drewB _))) (fun hHeld => ?_)
                 refine pq 0 107 9 1 ?_
                 refine pq 2 109 9 5 ?_
                 refine pq 6 113 9 69 ?_
                 refine tq 1 108 9 71 hHeld ?_
                 refine pq 3 110 9 79 ?_
                 refine pq 4 111 9 95 ?_
                 refine tq 5 112 9 127 hHeld ?_
                 refine tq 7 114 9 255 hHeld ?_
                 refine pq 8 115 9 511 ?_
                 refine done_ (by kernel_rfl) ?_
                 by_cases hq : jd = id
                 ·have hq2 : (jd == id) = true := by rw [beq_iff_eq]; exact hq
                  have HV := Lib.hid (show okFQ y q = false from no_of fun h => by
                   obtain ⟨h1, h2, h3, h4, h5, h6, h7⟩ := okFQ_iff.1 h
                   rw [HR.out, HDd.out, okEsQ_in (by
                    show id ∈ _
                    refine List.mem_iff_getElem.2 ⟨j, by rw [List.length_map, List.length_take]; have := NE.out; omega, ?_⟩
                    have h9 := HJd.out
                    rw [List.getD_eq_getElem?_getD, List.getElem?_map, List.getElem?_eq_getElem (by have := NE.out; omega)] at h9
                    rw [List.getElem_map, List.getElem_take, ← hq]
                    exact h9)] at h1; cases h1)
                  go_wp2_with fail
                  go_ret
                  exact ⟨by rw [HV.out]; rfl, (HJ.out.bel).drew⟩
                 ·have hq2 : (jd == id) = false := by rw [beq_eq_false_iff_ne]; exact hq
                  go_wp2_with fail
                  have ej : wrap64 ((j : Int) + 1) = ((j + 1 : Nat) : Int) := by have h1 := H3.out; have h2 := NE.out; rw [wr64 (by omega) (by omega)]; omega
                  rw [ej]
                  refine ⟨⟨j + 1, by omega, rfl, fun z hz => ?_, HJ.out.below (drewB _)⟩, ?_⟩
                  ·by_cases hz2 : z < j
                   ·exact HN.out z hz2
                   ·obtain rfl : z = j := by omega
                    rw [HJd.out]; exact hq
                  ·simp only [intOf]
                   omega
                ·obtain rfl : j = m + 1 := by omega
                 go_wp2_with fail
                 have HStep := Lib.hid (show okEsQ y [] q.E = okEsQ y ((q.E.take (m + 1 + 1)).map (·.f1)) (q.E.drop (m + 1 + 1)) by
                  rw [HR.out, HDd.out, okEsQ_cons HEn.out (fun hm => by
                   obtain ⟨z, hz, hz2⟩ := List.mem_iff_getElem.1 hm
                   rw [List.length_map, List.length_take] at hz
                   refine HN.out z (by omega) ?_
                   have hz3 : _ = id := hz2
                   rw [← hz3, List.getElem_map, List.getElem_take, List.getD_eq_getElem?_getD, List.getElem?_map, List.getElem?_eq_getElem (by have := NE.out; omega)]
                   rfl), HDr.out, List.map_append]
                  rfl)
                 have ek : wrap64 ((m : Int) + 1 + 1) = ((m + 1 + 1 : Nat) : Int) := by have h1 := H3.out; have h2 := NE.out; rw [wr64 (by omega) (by omega)]; omega
                 rw [ek]
                 refine ⟨⟨m + 1 + 1, by omega, rfl, HStep, risS_snoc HI.out (fun m' hm => by obtain rfl : m' = m := (by omega); rw [HGk.out, HPi.out]; exact HC.out), HJ.out.less (fun _ hr => mt hr)⟩, ?_⟩
                 simp only [intOf]
                 omega
            ·have e3 : ((key.size : Int) != 10) = true := by rw [bne_iff_ne]; exact a3
             refine stq 32 0 (sRfI3 bx key id gl y gd ad nE q) (HS _ (HS1.out.below (drewB _))) (fun hHeld => ?_)
             refine pq 0 70 32 1 ?_
             refine tq 1 71 32 3 hHeld ?_
             refine pq 2 72 32 7 ?_
             refine pq 3 73 32 15 ?_
             refine pq 4 74 32 31 ?_
             refine pq 6 76 32 95 ?_
             refine tq 5 75 32 127 hHeld ?_
             refine tq 7 77 32 255 hHeld ?_
             refine pq 8 78 32 511 ?_
             refine pq 9 79 32 1023 ?_
             refine pq 10 80 32 2047 ?_
             refine pq 11 81 32 4095 ?_
             refine tq 12 82 32 8191 hHeld ?_
             refine pq 13 83 32 16383 ?_
             refine pq 14 84 32 32767 ?_
             refine pq 15 85 32 65535 ?_
             refine pq 16 86 32 131071 ?_
             refine pqo 17 87 32 262143 ?_
             refine pqo 18 88 32 524287 ?_
             refine pqo 19 89 32 1048575 ?_
             refine pqo 20 90 32 2097151 ?_
             refine pqo 21 91 32 4194303 ?_
             refine pqo 22 92 32 8388607 ?_
             refine pqo 23 93 32 16777215 ?_
             refine pqo 24 94 32 33554431 ?_
             refine pqo 25 95 32 67108863 ?_
             refine pqo 26 96 32 134217727 ?_
             refine pqo 27 97 32 268435455 ?_
             refine pqo 28 98 32 536870911 ?_
             refine pqo 29 99 32 1073741823 ?_
             refine pqo 30 100 32 2147483647 ?_
             refine pq 31 101 32 4294967295 ?_
             refine done_ (by kernel_rfl) ?_
             have HV := Lib.hid (show okFQ y q = false from no_of fun h => by
              obtain ⟨h1, h2, h3, h4, h5, h6, h7⟩ := okFQ_iff.1 h
              rw [HR.out, HDd.out, okEsQ_no (show enB y key id = false by unfold enB; rw [decide_eq_false a3, Bool.false_and])] at h1; cases h1)
             go_wp2_with fail
             go_ret
             exact ⟨by rw [HV.out]; rfl, (HS1.out.bel).drew⟩
        ·obtain rfl : nE = k := by omega
         have HEf := Lib.hid (show okEsQ y [] q.E = true by rw [HR.out, ← NE.out, List.drop_length]; rfl)
         have HEs := Lib.hid (show risS (q.E.map (·.f0)) = true from (risS_iff _).2 (fun j hj => HI.out j (by rw [List.length_map, NE.out] at hj; exact hj)))
         clear HR HI
         have HV := Lib.hid (show okFQ y q = true from okFQ_iff.2 ⟨HEf.out, HPf.out, BP.out, E1.out, B1.out, HEs.out, B5.out⟩)
         go_wp2_with fail
         go_ret
         exact ⟨by rw [HV.out]; rfl, HS0.out.bel⟩
   ·have e1 : ((nP : Int) != y.c2) = true := by rw [bne_iff_ne]; exact c1
    as_aux_lemma =>
     have HV := Lib.hid (show okFQ y q = false from no_of fun h => by
      obtain ⟨h1, h2, h3, h4, h5, h6, h7⟩ := okFQ_iff.1 h
      rw [NP.out] at h4; exact c1 h4)
     go_wp2_with fail
     go_ret
     exact ⟨by rw [HV.out]; rfl, HA3.out.bel⟩
end Go.Proofs.YtmbnomlkhmcmaaaGreat.A
end
section
namespace Go.Proofs.YtmbnomlkhmcmaaaGreat.A
open Go.RowKit Go.Shelf Go.Proofs.YtmbnomlkhmcmaaaGreatW.PrintWords Go.Proofs.YtmbnomlkhmcmaaaGreatW.PrintLast Go.Proofs.YtmbnomlkhmcmaaaGreatW.PrintMore Go.Proofs.YtmbnomlkhmcmaaaGreat.C Go.Proofs.YtmbnomlkhmcmaaaGreat.Z
set_option linter.unusedVariables false
set_option linter.unusedSimpArgs false
def pqB (p : Pq) : List Int := plc p.f0 p.f1
def xqB (x : Xq) : List Int := bes 1 [x.f1] ++ strL x.f0
theorem flatPq (l : List Pq) : (l.flatMap pqB).length = 5 * l.length := by
 induction l with
 | nil => rfl
 | cons b l ih => rw [List.flatMap_cons, List.length_append, ih]; simp [pqB, plc, bes_length]; omega
theorem flatXq : ∀ l : List Xq, (∀ x ∈ l, x.f0.size = 10) → (l.flatMap xqB).length = 11 * l.length
 | [], _ => rfl
 | b :: l, h => by
  have h1 := h b List.mem_cons_self
  have h2 := flatXq l (fun x hx => h x (List.mem_cons_of_mem _ hx))
  rw [List.flatMap_cons, List.length_append, h2]
  simp [xqB, bes_length, strL_length, h1]
  omega
structure Fq.Ok (y : Ly) (d : Fq) : Prop where
 hc : ∀ n ∈ [d.s, d.e], okN 5 n
 hp : (d.P.length : Int) = y.c2 ∧ ∀ x ∈ d.P, okN 1 x.f0 ∧ okN 4 x.f1
 he : (d.E.length : Int) ≤ y.c2 ∧ ∀ x ∈ d.E, x.f0.size = 10 ∧ okN 1 x.f1
 hv : (d.V.length : Int) = y.vl
 hk : (d.K.length : Int) ≤ y.c6 ∧ ∀ b ∈ d.K, b.f1.length = 37
def gB1 (d : Fq) : List Int := [2] ++ bes 5 [d.s, d.e]
def gB2 (d : Fq) : List Int := gB1 d ++ d.P.flatMap pqB
def gB3 (d : Fq) : List Int := gB2 d ++ [(d.E.length : Int) % 256]
def gB4 (y : Ly) (d : Fq) : List Int := fill (gB3 d ++ d.E.flatMap xqB) (12 + 5 * y.c2 + 11 * y.c2).toNat ++ d.V
def gB5 (y : Ly) (d : Fq) : List Int := gB4 y d ++ stashQ y d.K
section
variable {y : Ly} {d : Fq}
theorem gB1_len : (gB1 d).length = 11 := by simp [gB1, bes_length]
theorem gB3_len (h : d.Ok y) : ((gB3 d).length : Int) = 12 + 5 * y.c2 := by
 have h2 := h.hp.1
 unfold gB3 gB2
 rw [List.length_append, List.length_append, gB1_len, flatPq]
 simp
 omega
theorem gB4_len (ok : y.Ok) (h : d.Ok y) : ((gB4 y d).length : Int) = 12 + 16 * y.c2 + y.vl := by
 have h1 := gB3_len h
 have h2 := h.he.1
 have h3 := h.hv
 unfold gB4
 rw [List.length_append]
 have := fillL (xs := gB3 d ++ d.E.flatMap xqB) (L := 12 + 5 * y.c2 + 11 * y.c2) (by rw [List.length_append, flatXq _ (fun x hx => (h.he.2 x hx).1)]; omega)
 omega
theorem gB5_len (ok : y.Ok) (h : d.Ok y) : ((gB5 y d).length : Int) = y.fullLen := by
 have h1 := gB4_len ok h
 have h2 := h.hk.1
 unfold gB5 stashQ Ly.fullLen
 rw [List.length_append, List.length_append, List.length_append, bes_length, flatQ _ (fun x hx => h.hk.2 x hx)]
 simp
 unfold Ly.Ok at ok
 omega
end
abbrev oRfJ0 (q : Fq) (PA : Option Addr) (nP : Nat) (EA : Option Addr) (nE : Nat) (nV : Nat) (nK : Nat) : Obj := Obj.cells #[.int .i64 q.s, .int .i64 q.e, .slice PA nP q.Pc, .slice EA nE q.Ec, .slice q.VA nV q.Vc, .slice q.KA nK q.Kc] 60
abbrev oRfJ1 (q : Fq) (PA : Option Addr) (nP : Nat) (ad : Addr) (nE : Nat) (nV : Nat) (nK : Nat) : Obj := Obj.cells #[.int .i64 q.s, .int .i64 q.e, .slice PA nP q.Pc, .slice (some ad) nE q.Ec, .slice q.VA nV q.Vc, .slice q.KA nK q.Kc] 60
set_option maxHeartbeats 16000000 in
set_option maxRecDepth 100000 in
theorem EncodeFullQ_ok {y : Ly} {w : World} (hy : y.R w) (ok : y.Ok) (q : Fq) (hd : q.R w) (hok : q.Ok y) (may : ∀ W, Below w.heap.size w W → Calls Tryz.prog 52 #[y.v, q.v] W fun e w' => e = .returned (.bool true) ∧ Below W.heap.size W w') :
  Calls Tryz.prog 13 #[y.v, q.v] w fun e w' => ∃ v, e = .returned (.tuple #[v, .int .i64 0]) ∧ Rb w [] w' v (fill (gB5 y q) (y.whole y.fullLen).toNat) := by
 have HY := Lib.hid hy
 have HK := Lib.hid ok
 have HD := Lib.hid hd
 have HO := Lib.hid hok
 have HM := Lib.hid may
 have HC2 := Lib.hid (show 1 ≤ y.c2 ∧ y.c2 ≤ 64 ∧ 0 ≤ y.c6 ∧ y.c6 ≤ 64 by unfold Ly.Ok at ok; omega)
 have HVl := Lib.hid (Ly.vl_le ok)
 obtain ⟨nP, hnP⟩ : ∃ n, q.P.length = n := ⟨_, rfl⟩
 obtain ⟨nE, hnE⟩ : ∃ n, q.E.length = n := ⟨_, rfl⟩
 obtain ⟨nV, hnV⟩ : ∃ n, q.V.length = n := ⟨_, rfl⟩
 obtain ⟨nK, hnK⟩ : ∃ n, q.K.length = n := ⟨_, rfl⟩
 obtain ⟨PA, hPA⟩ : ∃ p, q.PA = p := ⟨_, rfl⟩
 obtain ⟨EA, hEA⟩ : ∃ p, q.EA = p := ⟨_, rfl⟩
 have EP := Lib.hid hPA
 have EE := Lib.hid hEA
 have HRP := Lib.hid (show Kd.C k72 w PA q.P.length q.P from hPA ▸ hd.rp)
 have HRE := Lib.hid (show Kd.C k131 w EA q.E.length q.E from hEA ▸ hd.re)
 have NP := Lib.hid hnP
 have NE := Lib.hid hnE
 have NV := Lib.hid hnV
 have NK := Lib.hid hnK
 show Calls _ _ #[y.v, .agg #[.int .i64 q.s, .int .i64 q.e, .slice q.PA q.P.length q.Pc, .slice q.EA q.E.length q.Ec, .slice q.VA q.V.length q.Vc, .slice q.KA q.K.length q.Kc]] _ _
 rw [hnP, hnE, hnV, hnK, hPA, hEA]
 clear hy ok hd hok may hnP hnE hnV hnK hPA hEA
 go_enter Tryz.func13, Tryz.ntmps13
 go_wp2_with (first
  | ((with_reducible refine gate_dst (N := 2) rfl ?_); refine box_event ?hg (N := 2) ?hd (cs := #[.int .i64 y.c0, .int .i64 y.c1, .int .i64 y.c2, .int .i64 y.c3, .int .i64 y.c4, .int .i64 y.c5, .int .i64 y.c6, .int .i64 y.c7, .int .i64 y.c8, .int .i64 y.c9, .slice y.A y.l.length y.cap]) (t := 24) ?hr ?_; (case hd => rfl); (case hg => rfl); (case hr => first | (go_simp; done) | (go_simp; rfl)); intro gl hg_ w1 hbox_ hb_; have HX1 := Lib.hid (Sr.box (Sr.nil w) hg_ hbox_ hb_); clear hbox_ hb_ hg_)
  | ((with_reducible refine gate_dst (N := 3) rfl ?_); refine box_event ?hg (N := 3) ?hd (cs := #[.int .i64 q.s, .int .i64 q.e, .slice PA nP q.Pc, .slice EA nE q.Ec, .slice q.VA nV q.Vc, .slice q.KA nK q.Kc]) (t := 60) ?hr ?_; (case hd => rfl); (case hg => rfl); (case hr => first | (go_simp; done) | (go_simp; rfl)); intro gd hg_ w2 hbox_ hb_; have HX2 := Lib.hid (Sr.box HX1.out hg_ hbox_ hb_); have qd0 := HX2.out.cell mh 0 rfl; have qd1 := HX2.out.cell mh 1 rfl; have qd2 := HX2.out.cell mh 2 rfl; have qd3 := HX2.out.cell mh 3 rfl; have qd4 := HX2.out.cell mh 4 rfl; have qd5 := HX2.out.cell mh 5 rfl; have ql0 := HX2.out.cell (mt mh) 0 rfl; have ql1 := HX2.out.cell (mt mh) 1 rfl; have ql2 := HX2.out.cell (mt mh) 2 rfl; have ql3 := HX2.out.cell (mt mh) 3 rfl; have ql4 := HX2.out.cell (mt mh) 4 rfl; have ql5 := HX2.out.cell (mt mh) 5 rfl; have ql6 := HX2.out.cell (mt mh) 6 rfl; have ql7 := HX2.out.cell (mt mh) 7 rfl; have ql8 := HX2.out.cell (mt mh) 8 rfl; have ql9 := HX2.out.cell (mt mh) 9 rfl; have ql10 := HX2.out.cell (mt mh) 10 rfl; clear hbox_ hb_ hg_)
  | fail)
 have hm := HM.out _ HX2.out.bel
 rw [show q.v = .agg #[.int .i64 q.s, .int .i64 q.e, .slice PA nP q.Pc, .slice EA nE q.Ec, .slice q.VA nV q.Vc, .slice q.KA nK q.Kc] by rw [← NP.out, ← NE.out, ← NV.out, ← NK.out, ← EP.out, ← EE.out]] at hm
 refine hm.mono ?_
 clear hm
 rintro e w3 ⟨rfl, hb_⟩
 have HX3 := Lib.hid (HX2.out.below hb_)
 clear hb_ HX1 HX2 qd0 qd1 qd2 qd3 qd4 qd5 ql0 ql1 ql2 ql3 ql4 ql5 ql6 ql7 ql8 ql9 ql10
 have qd0 := HX3.out.cell mh 0 rfl
 have qd1 := HX3.out.cell mh 1 rfl
 have qx0 := (HX3.out.below (allocB w3 (.cells #[.int .u8 2] 5))).cell mh 0 rfl
 have qx1 := (HX3.out.below (allocB w3 (.cells #[.int .u8 2] 5))).cell mh 1 rfl
 have HL1 := Lib.hid (show Rb w ((w3.heap.size + 1, rowo [q.s, q.e]) :: [(gd, (oRfJ0 q PA nP EA nE nV nK)), (gl, y.cobj)]) ((w3.alloc (.cells #[.int .u8 2] 5)).alloc (.cells #[.int .i64 q.s, .int .i64 q.e] 3)) (.slice (some ⟨w3.heap.size, 0, none⟩) 1 1) [2] from by
  have h := Rb.row (Rb.lit HX3.out [2] (by decide)) (rowo [q.s, q.e])
  rw [size_alloc] at h
  exact h)
 go_wp2_with fail
 with_reducible refine (Rb.numsR 5 5 [q.s, q.e] (w3.heap.size + 1) 2 2 HL1.out rfl rfl (by simp) mh (by decide) (by decide) (by simp) HO.out.hc (by simp)).mono ?_
 rintro e w4 ⟨v4, rfl, hn⟩
 have HA := Lib.hid (show Rb w [(gd, (oRfJ0 q PA nP EA nE nV nK)), (gl, y.cobj)] w4 v4 (gB1 q) from hn.less (fun _ hr => mt hr))
 clear hn qd0 qd1 qx0 qx1 HX3 HL1
 have qd2 := HA.out.sr.cell mh 2 rfl
 go_wp2_with fail
 clear qd2
 go_loopw [6, 7] (fun u i wr => ∃ k : Nat, k ≤ nP ∧ i = .int .i64 k ∧ Hid (Rb w [(gd, (oRfJ0 q PA nP EA nE nV nK)), (gl, y.cobj)] wr u (gB1 q ++ (q.P.take k).flatMap pqB))) (fun _ i _ => nP - (intOf i).toNat)
 case atStart =>
  exact ⟨0, Nat.zero_le _, rfl, by simpa using HA⟩
 case round =>
  clear HA
  obtain ⟨k, hk, rfl, HS0⟩ := hrel
  have qd2 := HS0.out.sr.cell mh 2 rfl
  by_cases hlt : k < nP
  ·obtain ⟨⟨lf, tg⟩, hb⟩ : ∃ b, rd_T72 q.P (k : Int) = b := ⟨_, rfl⟩
   have hks : k < q.P.length := by have := NP.out; omega
   have hel : q.P[k] = ⟨lf, tg⟩ := by
    rw [← hb]
    unfold rd_T72
    rw [Int.toNat_natCast, List.getD_eq_getElem?_getD, List.getElem?_eq_getElem hks]
    rfl
   have HDr := Lib.hid (show q.P.take (k + 1) = q.P.take k ++ [⟨lf, tg⟩] by rw [List.take_succ_eq_append_getElem hks, hel])
   have HMm := Lib.hid (show (⟨lf, tg⟩ : Pq) ∈ q.P from hel ▸ List.getElem_mem hks)
   obtain ⟨ad, rfl, q0, q1⟩ := at_T72 HRP.out (k : Int) (by omega) (by omega)
   rw [hb] at q0 q1
   simp only [Int.toNat_natCast] at q0 q1
   clear hb hks hel
   have HOk := Lib.hid (HO.out.hp.2 _ HMm.out)
   have HQ0' := Lib.hid q0
   have HQ1' := Lib.hid q1
   have HLX := Lib.hid (show (gB1 q ++ (q.P.take k).flatMap pqB).length ≤ 1100 by
    have h1 := flatPq (q.P.take k)
    have h3 := HC2.out
    have h4 := HO.out.hp.1
    have h5 := NP.out
    rw [List.length_append, h1, gB1_len, List.length_take]
    omega)
   obtain ⟨X, hX⟩ : ∃ X, gB1 q ++ (q.P.take k).flatMap pqB = X := ⟨_, rfl⟩
   rw [hX] at HS0 HLX
   have HXe := Lib.hid hX
   have c0 : (0 : Int) ≤ (k : Int) := by omega
   replace q0 := (HS0.out.bel.cell (World.block_lt_of_cell? w _ q0)).trans q0
   replace q1 := (HS0.out.bel.cell (World.block_lt_of_cell? w _ q1)).trans q1
   clear hX
   go_wp2_with fail
   refine (Rb.place HS0.out lf tg HOk.out.1 HOk.out.2 (by have := HLX.out; omega)).mono ?_
   rintro e wq ⟨vq, rfl, hn⟩
   have HQ3 := Lib.hid hn
   clear hn q0 q1 qd2
   go_wp2_with fail
   have ek : wrap64 ((k : Int) + 1) = ((k + 1 : Nat) : Int) := by have h2 := HO.out.hp.1; have h3 := NP.out; have h4 := HC2.out; have h5 := HO.out.he.1; rw [wr64 (by omega) (by omega)]; omega
   rw [ek]
   refine ⟨⟨k + 1, by omega, rfl, ?_⟩, ?_⟩
   ·have hq := HQ3.out
    rw [← HXe.out] at hq
    have e : gB1 q ++ (q.P.take k).flatMap pqB ++ plc lf tg = gB1 q ++ (q.P.take (k + 1)).flatMap pqB := by
     rw [HDr.out, List.flatMap_append]
     simp [pqB]
    rw [e] at hq
    exact hq
   ·simp only [intOf]
    omega
  ·obtain rfl : nP = k := by omega
   have HB := Lib.hid (show Rb w [(gd, (oRfJ0 q PA nP EA nE nV nK)), (gl, y.cobj)] wr u6 (gB2 q) from by have h := HS0.out; rw [show q.P.take nP = q.P from by rw [← NP.out, List.take_length]] at h; exact h)
   clear HS0
   have qd3 := HB.out.sr.cell mh 3 rfl
   have HB2 := Lib.hid (show (gB2 q).length ≤ 1100 by unfold gB2; rw [List.length_append, gB1_len, flatPq]; have := HO.out.hp.1; have := HC2.out; omega)
   go_wp2_with (first
    | (at_builtin; refine Kd.R_append (Kd.int .u8) (w0 := w) w.heap.size rfl (.tmp 37) (.tmp 42) 29 5 (.int .u8 0) 1 rfl Tryz.underlying29 infou8 rfl (by decide) (by omega) _ _ ((nE : Int) % 256) [.int .u8 ((nE : Int) % 256)] _ (fun _ => False) rfl rfl ?aP (fun _ hk => hk.elim) HB.out.fresh HB.out.2 HB.out.bel HB.out.bel.size ?aL ?_; (case aP => exact rfl); (case aL => have := HB2.out; omega); intro v1 wc ho hb hg hn; have HC0 := Lib.hid (Rb.grown HB.out ho hb hg); clear ho hb hg hn; have HC1 := Lib.hid (show Rb w [(gd, (oRfJ0 q PA nP EA nE nV nK)), (gl, y.cobj)] wc _ (gB3 q) from by unfold gB3; rw [NE.out]; exact HC0.out); clear HC0; obtain ⟨A2, c2, e2, _, _⟩ := HC1.out.reads; obtain ⟨n2, hn2⟩ : ∃ n, (gB3 q).length = n := ⟨_, rfl⟩; rw [hn2] at e2; subst e2; have HN2 := Lib.hid hn2; clear hn2; have HC := HC1; have HL3 := Lib.hid (gB3_len HO.out))
    | fail)
   clear qd2 qd3
   have qd3 := HC.out.sr.cell mh 3 rfl
   go_wp2_with fail
   clear qd3
   go_loopw [6, 9] (fun u i wr => ∃ k : Nat, k ≤ nE ∧ i = .int .i64 k ∧ Hid (Rb w [(gd, (oRfJ0 q PA nP EA nE nV nK)), (gl, y.cobj)] wr u (gB3 q ++ (q.E.take k).flatMap xqB))) (fun _ i _ => nE - (intOf i).toNat)
   case atStart =>
    exact ⟨0, Nat.zero_le _, rfl, by simpa using HC⟩
   case round =>
    clear HC HB
    obtain ⟨k, hk, rfl, HS0⟩ := hrel
    have qd3 := HS0.out.sr.cell mh 3 rfl
    by_cases hlt : k < nE
    ·obtain ⟨⟨key, id⟩, hb⟩ : ∃ b, rd_T131 q.E (k : Int) = b := ⟨_, rfl⟩
     have hks : k < q.E.length := by have := NE.out; omega
     have hel : q.E[k] = ⟨key, id⟩ := by
      rw [← hb]
      unfold rd_T131
      rw [Int.toNat_natCast, List.getD_eq_getElem?_getD, List.getElem?_eq_getElem hks]
      rfl
     have HDr := Lib.hid (show q.E.take (k + 1) = q.E.take k ++ [⟨key, id⟩] by rw [List.take_succ_eq_append_getElem hks, hel])
     have HMm := Lib.hid (show (⟨key, id⟩ : Xq) ∈ q.E from hel ▸ List.getElem_mem hks)
     obtain ⟨ad, rfl, q0, q1⟩ := at_T131 HRE.out (k : Int) (by omega) (by omega)
     rw [hb] at q0 q1
     simp only [Int.toNat_natCast] at q0 q1
     clear hb hks hel
     have HOk := Lib.hid (HO.out.he.2 _ HMm.out)
     have HQ0' := Lib.hid q0
     have HQ1' := Lib.hid q1
     have HLX := Lib.hid (show (gB3 q ++ (q.E.take k).flatMap xqB).length ≤ 2000 by
      have h1 := flatXq (q.E.take k) (fun x hx => (HO.out.he.2 x (List.mem_of_mem_take hx)).1)
      have h2 := HL3.out
      have h3 := HC2.out
      have h4 := HO.out.he.1
      have h5 := NE.out
      rw [List.length_append, h1, List.length_take]
      omega)
     obtain ⟨X, hX⟩ : ∃ X, gB3 q ++ (q.E.take k).flatMap xqB = X := ⟨_, rfl⟩
     rw [hX] at HS0 HLX
     have HXe := Lib.hid hX
     have c0 : (0 : Int) ≤ (k : Int) := by omega
     clear q0 q1 hX
     have HS : ∀ w', Sr w [(gd, (oRfJ1 q PA nP ad nE nV nK)), (gl, y.cobj)] w' → w'.cell? ⟨gd, 3, none⟩ = some (.slice (some ad) nE q.Ec) ∧ w'.cell? (ad.add (k * 2)) = some (.string key) ∧ w'.cell? ⟨(ad.add (k * 2)).block, (ad.add (k * 2)).off + 1, none⟩ = some (.int .i64 id) := fun w' h => ⟨h.cell mh 3 rfl, (h.bel.cell (World.block_lt_of_cell? w _ HQ0'.out)).trans HQ0'.out, (h.bel.cell (World.block_lt_of_cell? w _ HQ1'.out)).trans HQ1'.out⟩
     go_upto_region 13 with fail
     clear qd3
     refine stq 18 0 (fun w' => w'.cell? ⟨gd, 3, none⟩ = some (.slice (some ad) nE q.Ec) ∧ w'.cell? (ad.add (k * 2)) = some (.string key) ∧ w'.cell? ⟨(ad.add (k * 2)).block, (ad.add (k * 2)).off + 1, none⟩ = some (.int .i64 id)) (HS _ (HS0.out.below (drewB _)).sr) (fun hHeld => ?_)
     have HR1 := Lib.hid (HS0.out.below (drewB _))
     generalize wr.drew = W0 at HR1 hHeld ⊢
     refine pq 0 53 18 1 ?_
     refine pq 1 54 18 3 ?_
     refine pq 3 56 18 11 ?_
     refine pq 10 63 18 1035 ?_
     refine pq 12 65 18 5131 ?_
     refine tq 2 55 18 5135 hHeld ?_
     refine pq 4 57 18 5151 ?_
     refine pq 5 58 18 5183 ?_
     refine tq 6 59 18 5247 hHeld ?_
     refine pq 7 60 18 5375 ?_
     refine tq 11 64 18 7423 hHeld ?_
     refine pq 13 66 18 15615 ?_
     refine pq 14 67 18 31999 ?_
     refine tq 15 68 18 64767 hHeld ?_
     refine oq 8 61 18 65023 (fun K hK => ?_)
     refine vq ?_
     have HQ1 := Lib.hid (HR1.out.row (u8o [IntKind.u8.wrap id]))
     replace HQ1 : RowKit.Hid (Rb w ((W0.heap.size, u8o [IntKind.u8.wrap id]) :: [(gd, (oRfJ1 q PA nP ad nE nV nK)), (gl, y.cobj)]) (W0.alloc (Obj.cells #[.int .u8 (IntKind.u8.wrap id)] 5)) u6 X) := HQ1
     generalize W0.alloc (Obj.cells #[.int .u8 (IntKind.u8.wrap id)] 5) = W1 at HQ1 ⊢
     refine hK.out _ _ (HS _ (HQ1.out.sr.less (fun _ hr => mt hr))) (fun hHeld => ?_)
     clear hK K
     refine nx 61 ?_
     refine oq 9 62 18 65535 (fun K hK => ?_)
     refine Kd.R_append_rows_step (Kd.int .u8) (w0 := w) w.heap.size (by rfl) (.tmp 53) (.tmp 61) 29 5 (.int .u8 0) 1 rfl Tryz.underlying29 infou8 rfl (show 0 < 1 by omega) (by omega) _ _ [IntKind.u8.wrap id] (some ⟨W0.heap.size, 0, none⟩) 1 1 _ (fun _ => False) rfl rfl HQ1.out.2 (C_u8o (HQ1.out.sr.2 _ mh).2 (by simp)) u8_KM (fun _ h_ => h_.elim) HQ1.out.fresh HQ1.out.bel HQ1.out.bel.size (by have := HLX.out; omega) ?_
     intro v9 wn' ho hb hg hn
     have HN := Lib.hid (Rb.grown HQ1.out ho hb hg)
     clear ho hb hg hn
     have HQ2 := Lib.hid HN.out
     clear HN
     refine hK.out _ _ (HS _ (HQ2.out.sr.less (fun _ hr => mt hr))) (fun hHeld => ?_)
     clear hK K
     refine nx 62 ?_
     refine oq 16 69 18 131071 (fun K hK => ?_)
     refine Rb.str_step key (.tmp 62) (.tmp 68) HQ2.out (by rfl) rfl rfl rfl (by rw [HOk.out.1]; decide) (by rw [List.length_append, HOk.out.1]; have := HLX.out; simp; omega) ?_
     intro vq wq hn
     have HQ3 := Lib.hid hn
     clear hn
     refine hK.out _ _ (HS _ (HQ3.out.sr.less (fun _ hr => mt hr))) (fun hHeld => ?_)
     clear hK K
     refine nx 69 ?_
     refine pq 17 6 18 262143 ?_
     refine done_ (by kernel_rfl) ?_
     go_wp2_with fail
     have ek : wrap64 ((k : Int) + 1) = ((k + 1 : Nat) : Int) := by have h2 := HO.out.hp.1; have h3 := NE.out; have h4 := HC2.out; have h5 := HO.out.he.1; rw [wr64 (by omega) (by omega)]; omega
     rw [ek]
     refine ⟨⟨k + 1, by omega, rfl, ?_⟩, ?_⟩
     ·have hq := HQ3.out.less (rows' := [(gd, (oRfJ1 q PA nP ad nE nV nK)), (gl, y.cobj)]) (fun _ hr => mt hr)
      rw [← HXe.out] at hq
      have e : gB3 q ++ (q.E.take k).flatMap xqB ++ [IntKind.u8.wrap id] ++ strL key = gB3 q ++ (q.E.take (k + 1)).flatMap xqB := by
       rw [HDr.out, List.flatMap_append, u8_mod]
       simp [xqB, bes1]
      rw [e] at hq
      exact hq
     ·simp only [intOf]
      omega
    ·obtain rfl : nE = k := by omega
     have HE := Lib.hid (show Rb w [(gd, (oRfJ0 q PA nP EA nE nV nK)), (gl, y.cobj)] wr u6 (gB3 q ++ q.E.flatMap xqB) from by have h := HS0.out; rw [show q.E.take nE = q.E from by rw [← NE.out, List.take_length]] at h; exact h)
     clear HS0
     go_wp2_with fail
     clear qd3
     go_upto_region 14 with fail
     have HU1 := Lib.hid (show wrap64 ((n2 : Int) + wrap64 (11 * y.c2)) = 12 + 5 * y.c2 + 11 * y.c2 by
      have h1 := HC2.out
      have h2 := HN2.out
      have h3 := HL3.out
      rw [wr64 (z := 11 * y.c2) (by omega) (by omega), wr64 (by omega) (by omega)]
      omega)
     have HU2 := Lib.hid (show ((gB3 q ++ q.E.flatMap xqB).length : Int) ≤ 12 + 5 * y.c2 + 11 * y.c2 by
      have h1 := flatXq q.E (fun x hx => (HO.out.he.2 x hx).1)
      have h2 := HL3.out
      have h4 := HO.out.he.1
      rw [List.length_append, h1]
      omega)
     have HS : ∀ w', Sr w [(gd, (oRfJ0 q PA nP EA nE nV nK)), (gl, y.cobj)] w' → w'.cell? ⟨gd, 4, none⟩ = some (.slice q.VA nV q.Vc) ∧ w'.cell? ⟨gl, 2, none⟩ = some (.int .i64 y.c2) := fun w' h => ⟨h.cell mh 4 rfl, h.cell (mt mh) 2 rfl⟩
     refine stq 10 0 (fun w' => w'.cell? ⟨gd, 4, none⟩ = some (.slice q.VA nV q.Vc) ∧ w'.cell? ⟨gl, 2, none⟩ = some (.int .i64 y.c2)) (HS _ (HE.out.below (drewB _)).sr) (fun hHeld => ?_)
     have HR1 := Lib.hid (HE.out.below (drewB _))
     generalize wr.drew = W0 at HR1 hHeld ⊢
     refine pq 0 70 10 1 ?_
     refine pq 1 71 10 3 ?_
     refine pq 2 72 10 7 ?_
     refine pq 6 76 10 71 ?_
     refine tq 3 73 10 79 hHeld ?_
     refine pq 4 74 10 95 ?_
     refine tq 7 77 10 223 hHeld ?_
     refine oq 5 75 10 255 (fun K hK => ?_)
     refine gq Tryz.func55 #[u6, .int .i64 (n2 : Int), .int .i64 (wrap64 (11 * y.c2))] ?_
     with_reducible refine ((Rb.upTo HR1.out (n2 : Int) (wrap64 (11 * y.c2)) (12 + 5 * y.c2 + 11 * y.c2) HU1.out HU2.out (by have := HC2.out; omega))).mono ?_
     rintro e w8 ⟨v8, rfl, hn⟩
     refine ⟨_, rfl, ?_⟩
     have HQ1 := Lib.hid hn
     clear hn
     refine hK.out _ _ (HS _ HQ1.out.sr) (fun hHeld => ?_)
     clear hK K
     refine nx 75 ?_
     refine oq 8 78 10 511 (fun K hK => ?_)
     refine Kd.R_append_rows_step (Kd.int .u8) (w0 := w) w.heap.size (by rfl) (.tmp 75) (.tmp 77) 29 5 (.int .u8 0) 1 rfl Tryz.underlying29 infou8 rfl (show 0 < 1 by omega) (by omega) _ _ q.V q.VA nV q.Vc _ (fun _ => False) rfl rfl HQ1.out.2 (NV.out ▸ Kd.C_below HD.out.rv HQ1.out.bel) u8_KM (fun _ h_ => h_.elim) HQ1.out.fresh HQ1.out.bel HQ1.out.bel.size (by have h9 := fillL (xs := gB3 q ++ q.E.flatMap xqB) (L := 12 + 5 * y.c2 + 11 * y.c2) HU2.out; have := HC2.out; have := HO.out.hv; have := HVl.out; have := NV.out; omega) ?_
     intro vq wn' ho hb hg hn
     have HN := Lib.hid (Rb.grown HQ1.out ho hb hg)
     clear ho hb hg hn
     have HQ := Lib.hid HN.out
     clear HN
     refine hK.out _ _ (HS _ HQ.out.sr) (fun hHeld => ?_)
     clear hK K
     refine nx 78 ?_
     refine pq 9 6 10 1023 ?_
     refine done_ (by kernel_rfl) ?_
     have HF := Lib.hid (show Rb w [(gd, (oRfJ0 q PA nP EA nE nV nK)), (gl, y.cobj)] wn' vq (gB4 y q) from HQ.out)
     clear HQ HS HE
     go_upto_region 15 with fail
     have HS : ∀ w', Sr w [(gd, (oRfJ0 q PA nP EA nE nV nK)), (gl, y.cobj)] w' → w'.cell? ⟨gd, 5, none⟩ = some (.slice q.KA nK q.Kc) ∧ w'.cell? ⟨gl, 0, none⟩ = some (.int .i64 y.c0) ∧ w'.cell? ⟨gl, 1, none⟩ = some (.int .i64 y.c1) ∧ w'.cell? ⟨gl, 2, none⟩ = some (.int .i64 y.c2) ∧ w'.cell? ⟨gl, 3, none⟩ = some (.int .i64 y.c3) ∧ w'.cell? ⟨gl, 4, none⟩ = some (.int .i64 y.c4) ∧ w'.cell? ⟨gl, 5, none⟩ = some (.int .i64 y.c5) ∧ w'.cell? ⟨gl, 6, none⟩ = some (.int .i64 y.c6) ∧ w'.cell? ⟨gl, 7, none⟩ = some (.int .i64 y.c7) ∧ w'.cell? ⟨gl, 8, none⟩ = some (.int .i64 y.c8) ∧ w'.cell? ⟨gl, 9, none⟩ = some (.int .i64 y.c9) ∧ w'.cell? ⟨gl, 10, none⟩ = some (.slice y.A y.l.length y.cap) := fun w' h => ⟨h.cell mh 5 rfl, h.cell (mt mh) 0 rfl, h.cell (mt mh) 1 rfl, h.cell (mt mh) 2 rfl, h.cell (mt mh) 3 rfl, h.cell (mt mh) 4 rfl, h.cell (mt mh) 5 rfl, h.cell (mt mh) 6 rfl, h.cell (mt mh) 7 rfl, h.cell (mt mh) 8 rfl, h.cell (mt mh) 9 rfl, h.cell (mt mh) 10 rfl⟩
     refine stq 9 0 (fun w' => w'.cell? ⟨gd, 5, none⟩ = some (.slice q.KA nK q.Kc) ∧ w'.cell? ⟨gl, 0, none⟩ = some (.int .i64 y.c0) ∧ w'.cell? ⟨gl, 1, none⟩ = some (.int .i64 y.c1) ∧ w'.cell? ⟨gl, 2, none⟩ = some (.int .i64 y.c2) ∧ w'.cell? ⟨gl, 3, none⟩ = some (.int .i64 y.c3) ∧ w'.cell? ⟨gl, 4, none⟩ = some (.int .i64 y.c4) ∧ w'.cell? ⟨gl, 5, none⟩ = some (.int .i64 y.c5) ∧ w'.cell? ⟨gl, 6, none⟩ = some (.int .i64 y.c6) ∧ w'.cell? ⟨gl, 7, none⟩ = some (.int .i64 y.c7) ∧ w'.cell? ⟨gl, 8, none⟩ = some (.int .i64 y.c8) ∧ w'.cell? ⟨gl, 9, none⟩ = some (.int .i64 y.c9) ∧ w'.cell? ⟨gl, 10, none⟩ = some (.slice y.A y.l.length y.cap)) (HS _ (HF.out.below (drewB _)).sr) (fun hHeld => ?_)
     have HR2 := Lib.hid (HF.out.below (drewB _))
     generalize wn'.drew = W2 at HR2 hHeld ⊢
     refine pq 2 81 9 4 ?_
     refine pq 3 82 9 12 ?_
     refine tq 0 79 9 13 hHeld ?_
     refine tq 1 80 9 15 hHeld ?_
     refine tq 4 83 9 31 hHeld ?_
     refine oq 5 84 9 63 (fun K hK => ?_)
     refine gq Tryz.func57 #[y.v, vq, .slice q.KA nK q.Kc] ?_
     with_reducible refine ((Rb.stashN HR2.out HK.out q.KA nK q.Kc q.K NK.out HD.out.rk HO.out.hk.1 HO.out.hk.2 (by have h1 := gB4_len HK.out HO.out; have := HC2.out; have := HVl.out; omega))).mono ?_
     rintro e w9 ⟨v9, rfl, hn⟩
     refine ⟨_, rfl, ?_⟩
     have HQ2 := Lib.hid (show Rb w [(gd, (oRfJ0 q PA nP EA nE nV nK)), (gl, y.cobj)] w9 v9 (gB5 y q) from hn)
     clear hn
     refine hK.out _ _ (HS _ HQ2.out.sr) (fun hHeld => ?_)
     clear hK K
     refine nx 84 ?_
     refine oq 6 85 9 127 (fun K hK => ?_)
     refine gq Tryz.func56 #[y.v, v9] ?_
     with_reducible refine ((Rb.whole HQ2.out HY.out HK.out (by have h1 := gB5_len HK.out HO.out; have h2 := fullLen_le HK.out; omega) (by have h1 := gB5_len HK.out HO.out; have h2 := fullLen_le HK.out; omega))).mono ?_
     rintro e wz ⟨vz, rfl, hn⟩
     refine ⟨_, rfl, ?_⟩
     have HQ3 := Lib.hid hn
     clear hn
     refine hK.out _ _ (HS _ HQ3.out.sr) (fun hHeld => ?_)
     clear hK K
     refine nx 85 ?_
     refine pq 7 4 9 255 ?_
     refine pq 8 5 9 511 ?_
     refine done_ (by kernel_rfl) ?_
     go_wp2_with fail
     refine bodyPost_ret (v := .tuple #[vz, .int .i64 0]) ?_ rfl ?_
     ·simp [results, Tryz.results13, go_sem]
     ·refine ⟨vz, rfl, ?_⟩
      have h := HQ3.out.less (rows' := []) (fun _ hr => by cases hr)
      rw [gB5_len HK.out HO.out] at h
      exact h
end Go.Proofs.YtmbnomlkhmcmaaaGreat.A
end
section
namespace Go.Proofs.YtmbnomlkhmcmaaaGreat.A
open Go.RowKit Go.Shelf Go.Proofs.YtmbnomlkhmcmaaaGreatW.PrintWords Go.Proofs.YtmbnomlkhmcmaaaGreatW.PrintLast Go.Proofs.YtmbnomlkhmcmaaaGreatW.PrintMore Go.Proofs.YtmbnomlkhmcmaaaGreat.C
set_option linter.unusedVariables false
set_option linter.unusedSimpArgs false
theorem mayQ_mem : ∀ (l : List Bq) (seen : List Int), mayQ seen l = true → ∀ b ∈ l, b.f1.length = 37
 | [], _, _, b, hb => by cases hb
 | x :: l, seen, h, b, hb => by
  unfold mayQ at h
  by_cases h0 : x.f0 < 0
  ·rw [if_pos h0] at h; cases h
  ·rw [if_neg h0] at h
   by_cases h1 : x.f0 ≥ 64
   ·rw [if_pos h1] at h; cases h
   ·rw [if_neg h1] at h
    by_cases h2 : x.f0 ∈ seen
    ·rw [if_pos h2] at h; cases h
    ·rw [if_neg h2] at h
     by_cases h3 : x.f1.length = 37
     ·rw [if_pos h3] at h
      rcases List.mem_cons.1 hb with rfl | hb
      ·exact h3
      ·exact mayQ_mem l _ h b hb
     ·rw [if_neg h3] at h; cases h
theorem okEsQ_spec {y : Ly} : ∀ (l : List Xq) (ids : List Int), okEsQ y ids l = true → (∀ x ∈ l, enB y x.f0 x.f1 = true) ∧ (ids.Nodup → (ids ++ l.map (·.f1)).Nodup)
 | [], ids, _ => ⟨fun x hx => (by cases hx), fun h => by simpa using h⟩
 | x :: l, ids, h => by
  unfold okEsQ at h
  by_cases h1 : enB y x.f0 x.f1 = true
  ·rw [if_pos h1] at h
   by_cases h2 : ids.contains x.f1 = true
   ·rw [if_pos h2] at h; cases h
   ·rw [if_neg h2] at h
    obtain ⟨h3, h4⟩ := okEsQ_spec l _ h
    refine ⟨fun z hz => ?_, fun hn => ?_⟩
    ·rcases List.mem_cons.1 hz with rfl | hz
     ·exact h1
     ·exact h3 z hz
    ·have h5 : x.f1 ∉ ids := fun hm => h2 (by simpa using hm)
     have h6 := h4 (by
      rw [List.nodup_append]
      exact ⟨hn, by simp, fun a ha b hb => by rw [List.mem_singleton.1 hb]; rintro rfl; exact h5 ha⟩)
     simpa using h6
  ·rw [if_neg h1] at h; cases h
theorem blq_ok {y : Ly} {K : List Bq} (h : stQ y K = true) : (K.length : Int) ≤ y.c6 ∧ ∀ b ∈ K, b.f1.length = 37 := by
 unfold stQ at h
 simp only [Bool.and_eq_true, decide_eq_true_eq] at h
 exact ⟨h.2.1, fun b hb => mayQ_mem K [] h.2.2.1 b hb⟩
theorem Dq.ok_of {y : Ly} {d : Dq} (ok : y.Ok) (h : okDQ y d = true) : d.Ok y := by
 have hl := Ly.lv_le ok
 have ok2 := ok
 unfold Ly.Ok at ok2
 unfold okDQ lfB at h
 simp only [Bool.and_eq_true, decide_eq_true_eq, List.all_eq_true] at h
 obtain ⟨h1, h2, h3, ⟨h4, h5, h6⟩, h7, h8, h9, h10⟩ := h
 refine ⟨ok5 h7, ⟨h4, fun n hn => okN1 (h1 n hn) (by omega)⟩, ⟨h5, fun x hx => ?_⟩, ⟨h6, fun x hx => ?_⟩, blq_ok h10⟩
 ·have h := h2 x hx
  unfold cqOk plB at h
  simp only [Bool.and_eq_true] at h
  exact ⟨okN1 h.1 (by omega), okN1 h.2.1 (by omega), okN4 h.2.2⟩
 ·have h := h3 x hx
  unfold dqOk enB at h
  simp only [Bool.and_eq_true, decide_eq_true_eq] at h
  exact ⟨by omega, okN1 h.2 (by omega)⟩
theorem Fq.ok_of {y : Ly} {d : Fq} (ok : y.Ok) (h : okFQ y d = true) : d.Ok y := by
 have hl := Ly.lv_le ok
 have ok2 := ok
 unfold Ly.Ok at ok2
 unfold okFQ at h
 simp only [Bool.and_eq_true, decide_eq_true_eq, List.all_eq_true] at h
 obtain ⟨h1, h2, h3, h4, h7, h8, h10⟩ := h
 obtain ⟨e1, e2⟩ := okEsQ_spec d.E [] h1
 have e3 := e2 List.nodup_nil
 rw [List.nil_append] at e3
 refine ⟨ok5 h7, ⟨h4, fun x hx => ?_⟩, ⟨?_, fun x hx => ?_⟩, ?_, blq_ok h10⟩
 ·have h := h2 x hx
  unfold pqOk plB at h
  simp only [Bool.and_eq_true] at h
  exact ⟨okN1 h.1 (by omega), okN4 h.2⟩
 ·have h5 := nodup_len y.c2.toNat _ e3 (fun z hz => by
   obtain ⟨x, hx, rfl⟩ := List.mem_map.1 hz
   have h := e1 x hx
   unfold enB amB at h
   simp only [Bool.and_eq_true, decide_eq_true_eq] at h
   exact ⟨h.2.1, by omega⟩)
  rw [List.length_map] at h5
  omega
 ·have h := e1 x hx
  unfold enB at h
  simp only [Bool.and_eq_true, decide_eq_true_eq] at h
  exact ⟨by omega, okN1 h.2 (by omega)⟩
 ·have h5 := eqB_length h3
  rw [pack_bits_length] at h5
  unfold Ly.nb at h5
  unfold Ly.vl
  omega
set_option maxHeartbeats 4000000 in
set_option maxRecDepth 100000 in
theorem EncodeDeltaQ_call {y : Ly} {w : World} (hy : y.R w) (ok : y.Ok) (d : Dq) (hd : d.R w) (hLc : d.L.length ≤ d.Lc) (hL : d.L.length ≤ 300) (hP : d.P.length ≤ 300) (hD : d.D.length ≤ 300) (hK : d.K.length ≤ 300) (hKc : d.K.length ≤ d.Kc) :
  Calls Tryz.prog 17 #[y.v, d.v] w (EncPost (okDQ y d) (fill (qB6 y d) (y.whole y.deltaLen).toNat) w) := by
 have may := fun W (hb : Below w.heap.size w W) => MayDeltaQ_call (hy.below hb) ok d (hd.below hb) hL hP hD hK hKc
 by_cases h : okDQ y d = true
 ·refine (EncodeDeltaQ_ok hy ok d hd (Dq.ok_of ok h) hLc (fun W hb => by have := may W hb; rwa [h] at this)).mono ?_
  rintro e w' ⟨v, rfl, hv⟩
  exact EncPost.ok hv h rfl
 ·have HM := Lib.hid may
  have HF := Lib.hid (Bool.eq_false_iff.2 h)
  clear may hd hy ok hLc hL hP hD hK hKc h
  obtain ⟨n0, hn0⟩ : ∃ n, d.L.length = n := ⟨_, rfl⟩
  obtain ⟨n1, hn1⟩ : ∃ n, d.P.length = n := ⟨_, rfl⟩
  obtain ⟨n2, hn2⟩ : ∃ n, d.D.length = n := ⟨_, rfl⟩
  obtain ⟨n3, hn3⟩ : ∃ n, d.K.length = n := ⟨_, rfl⟩
  have HM2 := Lib.hid (show ∀ W, Below w.heap.size w W → Calls Tryz.prog 64 #[y.v, .agg #[.int .i64 d.s, .int .i64 d.e, .slice d.LA n0 d.Lc, .slice d.PA n1 d.Pc, .slice d.DA n2 d.Dc, .slice d.KA n3 d.Kc]] W fun e w' => e = .returned (.bool (okDQ y d)) ∧ Below W.heap.size W w' from by rw [← hn0, ← hn1, ← hn2, ← hn3]; exact HM.out)
  show Calls _ _ #[y.v, .agg #[.int .i64 d.s, .int .i64 d.e, .slice d.LA d.L.length d.Lc, .slice d.PA d.P.length d.Pc, .slice d.DA d.D.length d.Dc, .slice d.KA d.K.length d.Kc]] _ _
  rw [hn0, hn1, hn2, hn3]
  clear HM hn0 hn1 hn2 hn3
  go_enter Tryz.func17, Tryz.ntmps17
  go_wp2_with (first
   | ((with_reducible refine gate_dst (N := 2) rfl ?_); refine box_event ?hg (N := 2) ?hd (cs := #[.int .i64 y.c0, .int .i64 y.c1, .int .i64 y.c2, .int .i64 y.c3, .int .i64 y.c4, .int .i64 y.c5, .int .i64 y.c6, .int .i64 y.c7, .int .i64 y.c8, .int .i64 y.c9, .slice y.A y.l.length y.cap]) (t := 24) ?hr ?_; (case hd => rfl); (case hg => rfl); (case hr => first | (go_simp; done) | (go_simp; rfl)); intro gl hg_ wgl hbox_ hb_; have HX1 := Lib.hid (Sr.box (Sr.nil w) hg_ hbox_ hb_); clear hbox_ hb_ hg_)
   | ((with_reducible refine gate_dst (N := 3) rfl ?_); refine box_event ?hg (N := 3) ?hd (cs := #[.int .i64 d.s, .int .i64 d.e, .slice d.LA n0 d.Lc, .slice d.PA n1 d.Pc, .slice d.DA n2 d.Dc, .slice d.KA n3 d.Kc]) (t := 68) ?hr ?_; (case hd => rfl); (case hg => rfl); (case hr => first | (go_simp; done) | (go_simp; rfl)); intro gd hg_ wgd hbox_ hb_; have HX2 := Lib.hid (Sr.box HX1.out hg_ hbox_ hb_); have qd0 := HX2.out.cell mh 0 rfl; have qd1 := HX2.out.cell mh 1 rfl; have qd2 := HX2.out.cell mh 2 rfl; have qd3 := HX2.out.cell mh 3 rfl; have qd4 := HX2.out.cell mh 4 rfl; have qd5 := HX2.out.cell mh 5 rfl; have ql0 := HX2.out.cell (mt mh) 0 rfl; have ql1 := HX2.out.cell (mt mh) 1 rfl; have ql2 := HX2.out.cell (mt mh) 2 rfl; have ql3 := HX2.out.cell (mt mh) 3 rfl; have ql4 := HX2.out.cell (mt mh) 4 rfl; have ql5 := HX2.out.cell (mt mh) 5 rfl; have ql6 := HX2.out.cell (mt mh) 6 rfl; have ql7 := HX2.out.cell (mt mh) 7 rfl; have ql8 := HX2.out.cell (mt mh) 8 rfl; have ql9 := HX2.out.cell (mt mh) 9 rfl; have ql10 := HX2.out.cell (mt mh) 10 rfl; clear hbox_ hb_ hg_)
   | fail)
  with_reducible refine (HM2.out _ HX2.out.bel).mono ?_
  rw [HF.out]
  rintro e w3 ⟨rfl, hb_⟩
  have HX3 := Lib.hid (HX2.out.below hb_)
  clear hb_ qd0 qd1 qd2 qd3 qd4 qd5 ql0 ql1 ql2 ql3 ql4 ql5 ql6 ql7 ql8 ql9 ql10 HX1 HX2
  go_wp2_with fail
  refine bodyPost_ret (v := .tuple #[.slice none 0 0, .int .i64 1]) ?_ rfl ?_
  ·simp [results, Tryz.results17, go_sem]
  ·exact EncPost.no HX3.out.bel HF.out
set_option maxHeartbeats 4000000 in
set_option maxRecDepth 100000 in
theorem EncodeFullQ_call {y : Ly} {w : World} (hy : y.R w) (ok : y.Ok) (d : Fq) (hd : d.R w) (hE : d.E.length ≤ 300) (hP : d.P.length ≤ 300) (hV : d.V.length ≤ 300) (hVc : d.V.length ≤ d.Vc) (hK : d.K.length ≤ 300) (hKc : d.K.length ≤ d.Kc) :
  Calls Tryz.prog 13 #[y.v, d.v] w (EncPost (okFQ y d) (fill (gB5 y d) (y.whole y.fullLen).toNat) w) := by
 have may := fun W (hb : Below w.heap.size w W) => MayFullQ_call (hy.below hb) ok d (hd.below hb) hE hP hV hVc hK hKc
 by_cases h : okFQ y d = true
 ·refine (EncodeFullQ_ok hy ok d hd (Fq.ok_of ok h) (fun W hb => by have := may W hb; rwa [h] at this)).mono ?_
  rintro e w' ⟨v, rfl, hv⟩
  exact EncPost.ok hv h rfl
 ·have HM := Lib.hid may
  have HF := Lib.hid (Bool.eq_false_iff.2 h)
  clear may hd hy ok hE hP hV hVc hK hKc h
  obtain ⟨n0, hn0⟩ : ∃ n, d.P.length = n := ⟨_, rfl⟩
  obtain ⟨n1, hn1⟩ : ∃ n, d.E.length = n := ⟨_, rfl⟩
  obtain ⟨n2, hn2⟩ : ∃ n, d.V.length = n := ⟨_, rfl⟩
  obtain ⟨n3, hn3⟩ : ∃ n, d.K.length = n := ⟨_, rfl⟩
  have HM2 := Lib.hid (show ∀ W, Below w.heap.size w W → Calls Tryz.prog 52 #[y.v, .agg #[.int .i64 d.s, .int .i64 d.e, .slice d.PA n0 d.Pc, .slice d.EA n1 d.Ec, .slice d.VA n2 d.Vc, .slice d.KA n3 d.Kc]] W fun e w' => e = .returned (.bool (okFQ y d)) ∧ Below W.heap.size W w' from by rw [← hn0, ← hn1, ← hn2, ← hn3]; exact HM.out)
  show Calls _ _ #[y.v, .agg #[.int .i64 d.s, .int .i64 d.e, .slice d.PA d.P.length d.Pc, .slice d.EA d.E.length d.Ec, .slice d.VA d.V.length d.Vc, .slice d.KA d.K.length d.Kc]] _ _
  rw [hn0, hn1, hn2, hn3]
  clear HM hn0 hn1 hn2 hn3
  go_enter Tryz.func13, Tryz.ntmps13
  go_wp2_with (first
   | ((with_reducible refine gate_dst (N := 2) rfl ?_); refine box_event ?hg (N := 2) ?hd (cs := #[.int .i64 y.c0, .int .i64 y.c1, .int .i64 y.c2, .int .i64 y.c3, .int .i64 y.c4, .int .i64 y.c5, .int .i64 y.c6, .int .i64 y.c7, .int .i64 y.c8, .int .i64 y.c9, .slice y.A y.l.length y.cap]) (t := 24) ?hr ?_; (case hd => rfl); (case hg => rfl); (case hr => first | (go_simp; done) | (go_simp; rfl)); intro gl hg_ wgl hbox_ hb_; have HX1 := Lib.hid (Sr.box (Sr.nil w) hg_ hbox_ hb_); clear hbox_ hb_ hg_)
   | ((with_reducible refine gate_dst (N := 3) rfl ?_); refine box_event ?hg (N := 3) ?hd (cs := #[.int .i64 d.s, .int .i64 d.e, .slice d.PA n0 d.Pc, .slice d.EA n1 d.Ec, .slice d.VA n2 d.Vc, .slice d.KA n3 d.Kc]) (t := 60) ?hr ?_; (case hd => rfl); (case hg => rfl); (case hr => first | (go_simp; done) | (go_simp; rfl)); intro gd hg_ wgd hbox_ hb_; have HX2 := Lib.hid (Sr.box HX1.out hg_ hbox_ hb_); have qd0 := HX2.out.cell mh 0 rfl; have qd1 := HX2.out.cell mh 1 rfl; have qd2 := HX2.out.cell mh 2 rfl; have qd3 := HX2.out.cell mh 3 rfl; have qd4 := HX2.out.cell mh 4 rfl; have qd5 := HX2.out.cell mh 5 rfl; have ql0 := HX2.out.cell (mt mh) 0 rfl; have ql1 := HX2.out.cell (mt mh) 1 rfl; have ql2 := HX2.out.cell (mt mh) 2 rfl; have ql3 := HX2.out.cell (mt mh) 3 rfl; have ql4 := HX2.out.cell (mt mh) 4 rfl; have ql5 := HX2.out.cell (mt mh) 5 rfl; have ql6 := HX2.out.cell (mt mh) 6 rfl; have ql7 := HX2.out.cell (mt mh) 7 rfl; have ql8 := HX2.out.cell (mt mh) 8 rfl; have ql9 := HX2.out.cell (mt mh) 9 rfl; have ql10 := HX2.out.cell (mt mh) 10 rfl; clear hbox_ hb_ hg_)
   | fail)
  with_reducible refine (HM2.out _ HX2.out.bel).mono ?_
  rw [HF.out]
  rintro e w3 ⟨rfl, hb_⟩
  have HX3 := Lib.hid (HX2.out.below hb_)
  clear hb_ qd0 qd1 qd2 qd3 qd4 qd5 ql0 ql1 ql2 ql3 ql4 ql5 ql6 ql7 ql8 ql9 ql10 HX1 HX2
  go_wp2_with fail
  refine bodyPost_ret (v := .tuple #[.slice none 0 0, .int .i64 1]) ?_ rfl ?_
  ·simp [results, Tryz.results13, go_sem]
  ·exact EncPost.no HX3.out.bel HF.out
end Go.Proofs.YtmbnomlkhmcmaaaGreat.A
end
section
namespace Go.Proofs.YtmbnomlkhmcmaaaGreat.A
open Go.RowKit Go.Shelf Go.Proofs.YtmbnomlkhmcmaaaGreatW.PrintWords Go.Proofs.YtmbnomlkhmcmaaaGreatW.PrintLast Go.Proofs.YtmbnomlkhmcmaaaGreatW.PrintMore Go.Proofs.YtmbnomlkhmcmaaaGreat.C
set_option linter.unusedVariables false
set_option linter.unusedSimpArgs false
def plq (p : Pl) : Pq := ⟨p.f0, p.f1⟩
def etq (x : Et) : Xq := ⟨x.f0, x.f1⟩
def chq (p : Ch) : Cq := ⟨p.f0, plq p.f1⟩
def diq (x : Di) : Eq' := ⟨x.f0, etq x.f1⟩
def bkq (b : Bk) : Bq := ⟨b.f0, b.f1⟩
structure De.Q (d : De) (q : Dq) : Prop where
  s : q.s = d.s
  e : q.e = d.e
  l : q.L = d.L
  p : q.P = d.P.map chq
  dr : q.D = d.D.map diq
  k : q.K = d.K.map bkq
structure Fu.Q (d : Fu) (q : Fq) : Prop where
  s : q.s = d.s
  e : q.e = d.e
  p : q.P = d.P.map plq
  en : q.E = d.E.map etq
  v : q.V = d.V
  k : q.K = d.K.map bkq
theorem okEsQ_map (y : Ly) : ∀ (l : List Et) (ids : List Int), okEsQ y ids (l.map etq) = okEs y ids l
  | [], _ => rfl
  | x :: l, ids => by
    have h := okEsQ_map y l (ids ++ [x.f1])
    simp only [List.map_cons]
    unfold okEsQ okEs
    rw [show (etq x).f0 = x.f0 from rfl, show (etq x).f1 = x.f1 from rfl, h]
theorem De.Q.ok {y : Ly} {d : De} {q : Dq} (h : De.Q d q) : okDQ y q = okDelta y d := by
  unfold okDQ okDelta fewD
  rw [h.s, h.e, h.l, h.p, h.dr, h.k, show stQ y (d.K.map bkq) = stOk y d.K from stQ_map y d.K]
  simp only [List.all_map, List.map_map, List.length_map]
  rfl
theorem Fu.Q.ok {y : Ly} {d : Fu} {q : Fq} (h : Fu.Q d q) : okFQ y q = okFull y d := by
  unfold okFQ okFull
  rw [h.s, h.e, h.v, h.p, h.en, h.k, show stQ y (d.K.map bkq) = stOk y d.K from stQ_map y d.K, okEsQ_map]
  simp only [List.all_map, List.map_map, List.length_map]
  rfl
theorem fill_zs {xs : List Int} {L n : Int} (h : L - xs.length = n) (h0 : 0 ≤ L) : fill xs L.toNat = xs ++ zs n := by
  unfold fill zs
  rw [show L.toNat - xs.length = n.toNat by omega]
theorem cqB_one (p : Ch) : cqB (chq p) = chB p := by
  show bes 1 [p.f0] ++ (bes 1 [p.f1.f0] ++ bes 4 [p.f1.f1]) = bes 1 ([p.f0] ++ [p.f1.f0]) ++ bes 4 [p.f1.f1]
  rw [bes_app, List.append_assoc]
theorem cqB_map : ∀ l : List Ch, (l.map chq).flatMap cqB = l.flatMap chB
  | [] => rfl
  | p :: l => by rw [List.map_cons, List.flatMap_cons, List.flatMap_cons, cqB_map l, cqB_one p]
theorem dqB_map : ∀ l : List Di, (l.map diq).flatMap dqB = l.flatMap diB
  | [] => rfl
  | p :: l => by rw [List.map_cons, List.flatMap_cons, List.flatMap_cons, dqB_map l]; rfl
theorem pqB_map : ∀ l : List Pl, (l.map plq).flatMap pqB = l.flatMap plBy
  | [] => rfl
  | p :: l => by rw [List.map_cons, List.flatMap_cons, List.flatMap_cons, pqB_map l]; rfl
theorem xqB_map : ∀ l : List Et, (l.map etq).flatMap xqB = l.flatMap etB
  | [] => rfl
  | p :: l => by rw [List.map_cons, List.flatMap_cons, List.flatMap_cons, xqB_map l]; rfl
theorem bqB_map : ∀ l : List Bk, (l.map bkq).flatMap bqB = l.flatMap blkB
  | [] => rfl
  | p :: l => by rw [List.map_cons, List.flatMap_cons, List.flatMap_cons, bqB_map l]; rfl
theorem stashQ_map (y : Ly) (l : List Bk) : stashQ y (l.map bkq) = stashB y l := by
  unfold stashQ stashB
  rw [bqB_map, List.length_map]
theorem De.Q.writes {y : Ly} {d : De} {q : Dq} (h : De.Q d q) (ok : y.Ok) (hok : okDelta y d = true) : qB6 y q = dB6 y d := by
  have hs := Ly.slots_le ok
  have ok2 := ok
  unfold Ly.Ok at ok2
  have hd := De.ok_of ok hok
  have hq := Dq.ok_of (d := q) ok (by rw [h.ok]; exact hok)
  have e1 : qB1 q = dB1 y d := by
    unfold qB1 dB1
    rw [h.s, h.e, bes1]
    rfl
  have e2 : qB2 q = dB1 y d ++ bes 1 [(d.L.length : Int)] := by
    unfold qB2
    rw [e1, h.l, bes1]
  have l2 : (qB2 q).length = 12 := qB2_len
  have e3 : qB3 y q = dB3 y d := by
    unfold qB3 dB3 dB2
    rw [fill_zs (n := y.slots - d.L.length) (by rw [List.length_append, l2, bes_length, h.l]; omega) (by omega), e2, h.l, h.p, List.length_map, bes1, bes1]
  have e4 : qB4 y q = dB4 y d := by
    have l3 := qB3_len ok hq
    unfold qB4 dB4
    rw [fill_zs (n := 6 * (y.slots - d.P.length)) (by rw [List.length_append, flatCq, h.p, List.length_map]; omega) (by omega), e3, h.p, h.dr, List.length_map, bes1, cqB_map]
  have e5 : qB5 y q = dB5 y d := by
    have l4 := qB4_len ok hq
    unfold qB5 dB5
    rw [fill_zs (n := 12 * (y.c5 - d.D.length)) (by rw [List.length_append, flatDq _ (fun x hx => (hq.hd.2 x hx).1), h.dr, List.length_map]; omega) (by omega), e4, h.dr, dqB_map]
  unfold qB6 dB6
  rw [e5, h.k, stashQ_map]
theorem Fu.Q.writes {y : Ly} {d : Fu} {q : Fq} (h : Fu.Q d q) (ok : y.Ok) (hok : okFull y d = true) : gB5 y q = fB6 y d := by
  have ok2 := ok
  unfold Ly.Ok at ok2
  have hq := Fq.ok_of (d := q) ok (by rw [h.ok]; exact hok)
  have e3 : gB3 q = fB3 d := by
    unfold gB3 gB2 gB1 fB3 fB2 fB1
    rw [h.s, h.e, bes1, bes1, h.p, h.en, pqB_map, List.length_map]
    rfl
  have l3 := gB3_len hq
  unfold gB5 gB4 fB6 fB5 fB4
  rw [fill_zs (n := 11 * (y.c2 - d.E.length)) (by rw [List.length_append, flatXq _ (fun x hx => (hq.he.2 x hx).1), h.en, List.length_map]; omega) (by omega), e3, h.en, h.v, h.k, xqB_map, stashQ_map]
end Go.Proofs.YtmbnomlkhmcmaaaGreat.A
end
section
namespace Go.Proofs.YtmbnomlkhmcmaaaGreat.A
open Go.RowKit Go.Shelf Go.Proofs.YtmbnomlkhmcmaaaGreatW.PrintWords Go.Proofs.YtmbnomlkhmcmaaaGreatW.PrintLast Go.Proofs.YtmbnomlkhmcmaaaGreatW.PrintMore Go.Proofs.YtmbnomlkhmcmaaaGreat.C Go.Proofs.YtmbnomlkhmcmaaaGreat.Z
set_option linter.unusedVariables false
set_option linter.unusedSimpArgs false
theorem Sr.head {w0 w : World} {rows : List (Nat × Obj)} {g : Nat} {o : Obj} (h : Sr w0 ((g, o) :: rows) w) : w0.heap.size ≤ g ∧ w.heap[g]? = some o := h.2 _ mh
theorem map_next {α β : Type} (f : α → β) {l : List α} {k : Nat} {x : α} (h : l[k]? = some x) : (l.take k).map f ++ [f x] = (l.take (k + 1)).map f := by rw [takeOf h, List.map_append]; rfl
theorem rd_some {α : Type} {l : List α} {z b : α} {k : Nat} (h : k < l.length) (hb : l.getD (Int.toNat (k : Int)) z = b) : l[k]? = some b := by
  rw [Int.toNat_natCast, List.getD_eq_getElem?_getD, List.getElem?_eq_getElem h] at hb
  rw [List.getElem?_eq_getElem h]
  exact congrArg some hb
theorem N_out {α : Type} {d : Kd α} {e base : Nat} {ok : Nat → Prop} {w : World} {v : Value} {xs : List α} (h : Kd.N d e w base ok v xs) : ∃ B b, v = .slice B xs.length b ∧ xs.length ≤ b ∧ Kd.F d w ok B xs.length xs := by
  obtain ⟨B, b, rfl, hb, _⟩ := Kd.N_reads h
  exact ⟨B, b, rfl, hb, Kd.N_F h⟩
set_option maxHeartbeats 2000000 in
set_option maxRecDepth 100000 in
theorem Changes_F {w : World} {A : Option Addr} {n c : Nat} (l : List Ch) (hn : l.length = n) (hC : Kd.C k138 w A l.length l) (hc : l.length ≤ c) (hl : l.length ≤ 300) :
    Calls Tryz.prog 66 #[.slice A n c] w fun e w' => ∃ B b, e = .returned (.slice B n b) ∧ n ≤ b ∧ Kd.F k141 w' (fun k => w.heap.size ≤ k) B n (l.map chq) ∧ Below w.heap.size w w' := by
  have HN := Lib.hid hn
  have HC := Lib.hid (show Kd.C k138 w A n l from hn ▸ hC)
  have HLn := Lib.hid hl
  clear hn hC hc hl
  go_enter Tryz.func66, Tryz.ntmps66
  go_wp2_with fail
  go_loopw [3, 4] (fun u i wr => ∃ k : Nat, k ≤ n ∧ i = .int .i64 k ∧ Hid (Kd.N k141 141 wr w.heap.size (fun k => w.heap.size ≤ k) u ((l.take k).map chq)) ∧ Hid (Below w.heap.size w wr)) (fun _ i _ => n - (intOf i).toNat)
  case atStart =>
    exact ⟨0, Nat.zero_le _, rfl, Kd.N_nil _ _ _ _ _, Below.refl _ _⟩
  case round =>
    obtain ⟨k, hk, rfl, HNr, HB⟩ := hrel
    by_cases hlt : k < n
    · have hks : k < l.length := by rw [HN.out]; exact hlt
      obtain ⟨⟨id, lf, tg⟩, hb⟩ : ∃ b, rd_T138 l (k : Int) = b := ⟨_, rfl⟩
      have HEl := Lib.hid (rd_some hks hb)
      obtain ⟨ad, rfl, q0, q1, q2⟩ := at_T138 HC.out (k : Int) (by omega) (by omega)
      rw [hb] at q0 q1 q2
      simp only [Int.toNat_natCast] at q0 q1 q2
      have HQ0 := Lib.hid q0
      have HQ1 := Lib.hid q1
      have HQ2 := Lib.hid q2
      have HFK := Lib.hid (fun W => (show Kd.FK k141 W (fun _ => False) (chq ⟨id, lf, tg⟩) [.int .i64 id, .int .i64 lf, .int .i64 tg] from k141_mkF W (fun _ => False) (chq ⟨id, lf, tg⟩)))
      have HS : ∀ w', Below w.heap.size w w' → w'.cell? (ad.add (k * 3)) = some (.int .i64 id) ∧ w'.cell? ⟨(ad.add (k * 3)).block, (ad.add (k * 3)).off + 1, none⟩ = some (.int .i64 lf) ∧ w'.cell? ⟨(ad.add (k * 3)).block, (ad.add (k * 3)).off + 2, none⟩ = some (.int .i64 tg) := fun w' hb_ => ⟨pw_cell_below hb_ HQ0.out, pw_cell_below hb_ HQ1.out, pw_cell_below hb_ HQ2.out⟩
      have hn3 : n ≤ 300 := by have h1 := HLn.out; have h2 := HN.out; omega
      have c0 : (0 : Int) ≤ (k : Int) := by omega
      clear hb hks q0 q1 q2
      go_upto_region 5 with fail
      refine stq 23 0 (fun w' => w'.cell? (ad.add (k * 3)) = some (.int .i64 id) ∧ w'.cell? ⟨(ad.add (k * 3)).block, (ad.add (k * 3)).off + 1, none⟩ = some (.int .i64 lf) ∧ w'.cell? ⟨(ad.add (k * 3)).block, (ad.add (k * 3)).off + 2, none⟩ = some (.int .i64 tg)) ((HS _ (below_step HB.out (drewB _)))) (fun hHeld => ?_)
      refine pq 0 11 23 1 ?_
      refine pq 1 12 23 3 ?_
      refine pq 2 13 23 7 ?_
      refine pq 3 14 23 15 ?_
      refine pq 4 15 23 31 ?_
      refine pq 6 17 23 95 ?_
      refine pq 7 18 23 223 ?_
      refine pq 8 19 23 479 ?_
      refine pq 9 20 23 991 ?_
      refine pq 10 21 23 2015 ?_
      refine pq 12 23 23 6111 ?_
      refine pq 13 24 23 14303 ?_
      refine pq 14 25 23 30687 ?_
      refine pq 15 26 23 63455 ?_
      refine pq 16 27 23 128991 ?_
      refine tq 5 16 23 129023 hHeld ?_
      refine tq 11 22 23 131071 hHeld ?_
      refine tq 17 28 23 262143 hHeld ?_
      refine pq 18 29 23 524287 ?_
      refine pq 19 30 23 1048575 ?_
      refine oq 20 31 23 2097151 (fun K hK => ?_)
      refine vq ?_
      refine hK.out _ _ ((HS _ (below_step (below_step HB.out (drewB _)) (allocB _ _)))) (fun hHeld => ?_)
      clear hK K
      refine nx 31 ?_
      refine one_ (i := 21) (N := some 32) (bm 23 4194303) rfl rfl (by kernel_rfl) (by decide) (fun K hK => ?_)
      refine Kd.N_append_step k141 (w0 := w) (W := wr.drew) w.heap.size (by rfl) (.tmp 11) (.tmp 31) 65 141 (.agg #[(.int .i64 0), (.int .i64 0), (.int .i64 0)]) 24 rfl Tryz.underlying65 info141 rfl (by decide) (by omega) u3 ((l.take k).map chq) (chq ⟨id, lf, tg⟩) [.int .i64 id, .int .i64 lf, .int .i64 tg] (fun k => w.heap.size ≤ k) (fun _ => False) rfl rfl ?aP (fun _ hk => hk.elim) ?aF ?aO ?aB ?aS ?aL ?_
      (case aP => exact HFK.out _)
      (case aF => exact fun _ h_ => Nat.le_trans (below_step HB.out (drewB _)).size h_)
      (case aO => exact Kd.N_drew HNr.out)
      (case aB => exact below_step HB.out (drewB _))
      (case aS => exact (below_step HB.out (drewB _)).size)
      (case aL => have h1 := HLn.out; simp only [List.length_map, List.length_take]; omega)
      intro v1 w5 hN hb5 hg5 hat5
      have HN5 := Lib.hid hN
      have HB5 := Lib.hid hb5
      clear hN hb5 hg5 hat5
      refine hK.out _ _ (HS _ HB5.out) (fun hHeld => ?_)
      clear hK K
      refine nx 32 ?_
      refine pq 22 3 23 8388607 ?_
      refine done_ (by kernel_rfl) ?_
      clear HS hHeld
      go_wp2_with fail
      have HN6 := Lib.hid (show Kd.N k141 141 w5 w.heap.size (fun k => w.heap.size ≤ k) v1 ((l.take (k + 1)).map chq) from by rw [← map_next chq HEl.out]; exact HN5.out)
      have ek : wrap64 ((k : Int) + 1) = ((k + 1 : Nat) : Int) := by rw [wr64 (by omega) (by omega)]; omega
      try rw [ek]
      refine ⟨⟨k + 1, by omega, by first | rfl | (rw [Int.natCast_add]; rfl), HN6, HB5⟩, ?_⟩
      simp only [intOf]
      omega
    · obtain rfl : n = k := by omega
      have HOut := Lib.hid (show ∃ B b, u3 = .slice B n b ∧ n ≤ b ∧ Kd.F k141 wr (fun k => w.heap.size ≤ k) B n (l.map chq) from by
        have h := HNr.out
        rw [List.take_of_length_le (by rw [HN.out]; exact Nat.le_refl _)] at h
        obtain ⟨B, b, h1, h2, h3⟩ := N_out h
        rw [List.length_map, HN.out] at h1 h2 h3
        exact ⟨B, b, h1, h2, h3⟩)
      clear HNr
      go_wp2_with fail
      go_ret
      obtain ⟨B, b, rfl, h1, h2⟩ := HOut.out
      exact ⟨B, b, rfl, h1, h2, HB.out⟩
set_option maxHeartbeats 2000000 in
set_option maxRecDepth 100000 in
theorem Dirs_F {w : World} {A : Option Addr} {n c : Nat} (l : List Di) (hn : l.length = n) (hC : Kd.C k109 w A l.length l) (hc : l.length ≤ c) (hl : l.length ≤ 300) :
    Calls Tryz.prog 67 #[.slice A n c] w fun e w' => ∃ B b, e = .returned (.slice B n b) ∧ n ≤ b ∧ Kd.F k143 w' (fun k => w.heap.size ≤ k) B n (l.map diq) ∧ Below w.heap.size w w' := by
  have HN := Lib.hid hn
  have HC := Lib.hid (show Kd.C k109 w A n l from hn ▸ hC)
  have HLn := Lib.hid hl
  clear hn hC hc hl
  go_enter Tryz.func67, Tryz.ntmps67
  go_wp2_with fail
  go_loopw [3, 4] (fun u i wr => ∃ k : Nat, k ≤ n ∧ i = .int .i64 k ∧ Hid (Kd.N k143 143 wr w.heap.size (fun k => w.heap.size ≤ k) u ((l.take k).map diq)) ∧ Hid (Below w.heap.size w wr)) (fun _ i _ => n - (intOf i).toNat)
  case atStart =>
    exact ⟨0, Nat.zero_le _, rfl, Kd.N_nil _ _ _ _ _, Below.refl _ _⟩
  case round =>
    obtain ⟨k, hk, rfl, HNr, HB⟩ := hrel
    by_cases hlt : k < n
    · have hks : k < l.length := by rw [HN.out]; exact hlt
      obtain ⟨⟨g, key, id⟩, hb⟩ : ∃ b, rd_T109 l (k : Int) = b := ⟨_, rfl⟩
      have HEl := Lib.hid (rd_some hks hb)
      obtain ⟨ad, rfl, q0, q1, q2⟩ := at_T109 HC.out (k : Int) (by omega) (by omega)
      rw [hb] at q0 q1 q2
      simp only [Int.toNat_natCast] at q0 q1 q2
      have HQ0 := Lib.hid q0
      have HQ1 := Lib.hid q1
      have HQ2 := Lib.hid q2
      have HFK := Lib.hid (fun W => (show Kd.FK k143 W (fun _ => False) (diq ⟨g, key, id⟩) [.bool g, .string key, .int .i64 id] from k143_mkF W (fun _ => False) (diq ⟨g, key, id⟩)))
      have HS : ∀ w', Below w.heap.size w w' → w'.cell? (ad.add (k * 3)) = some (.bool g) ∧ w'.cell? ⟨(ad.add (k * 3)).block, (ad.add (k * 3)).off + 1, none⟩ = some (.string key) ∧ w'.cell? ⟨(ad.add (k * 3)).block, (ad.add (k * 3)).off + 2, none⟩ = some (.int .i64 id) := fun w' hb_ => ⟨pw_cell_below hb_ HQ0.out, pw_cell_below hb_ HQ1.out, pw_cell_below hb_ HQ2.out⟩
      have hn3 : n ≤ 300 := by have h1 := HLn.out; have h2 := HN.out; omega
      have c0 : (0 : Int) ≤ (k : Int) := by omega
      clear hb hks q0 q1 q2
      go_upto_region 5 with fail
      refine stq 23 0 (fun w' => w'.cell? (ad.add (k * 3)) = some (.bool g) ∧ w'.cell? ⟨(ad.add (k * 3)).block, (ad.add (k * 3)).off + 1, none⟩ = some (.string key) ∧ w'.cell? ⟨(ad.add (k * 3)).block, (ad.add (k * 3)).off + 2, none⟩ = some (.int .i64 id)) ((HS _ (below_step HB.out (drewB _)))) (fun hHeld => ?_)
      refine pq 0 11 23 1 ?_
      refine pq 1 12 23 3 ?_
      refine pq 2 13 23 7 ?_
      refine pq 3 14 23 15 ?_
      refine pq 4 15 23 31 ?_
      refine pq 6 17 23 95 ?_
      refine pq 7 18 23 223 ?_
      refine pq 8 19 23 479 ?_
      refine pq 9 20 23 991 ?_
      refine pq 10 21 23 2015 ?_
      refine pq 12 23 23 6111 ?_
      refine pq 13 24 23 14303 ?_
      refine pq 14 25 23 30687 ?_
      refine pq 15 26 23 63455 ?_
      refine pq 16 27 23 128991 ?_
      refine tq 5 16 23 129023 hHeld ?_
      refine tq 11 22 23 131071 hHeld ?_
      refine tq 17 28 23 262143 hHeld ?_
      refine pq 18 29 23 524287 ?_
      refine pq 19 30 23 1048575 ?_
      refine oq 20 31 23 2097151 (fun K hK => ?_)
      refine vq ?_
      refine hK.out _ _ ((HS _ (below_step (below_step HB.out (drewB _)) (allocB _ _)))) (fun hHeld => ?_)
      clear hK K
      refine nx 31 ?_
      refine one_ (i := 21) (N := some 32) (bm 23 4194303) rfl rfl (by kernel_rfl) (by decide) (fun K hK => ?_)
      refine Kd.N_append_step k143 (w0 := w) (W := wr.drew) w.heap.size (by rfl) (.tmp 11) (.tmp 31) 66 143 (.agg #[(.bool false), (.string ⟨#[]⟩), (.int .i64 0)]) 32 rfl Tryz.underlying66 info143 rfl (by decide) (by omega) u3 ((l.take k).map diq) (diq ⟨g, key, id⟩) [.bool g, .string key, .int .i64 id] (fun k => w.heap.size ≤ k) (fun _ => False) rfl rfl ?aP (fun _ hk => hk.elim) ?aF ?aO ?aB ?aS ?aL ?_
      (case aP => exact HFK.out _)
      (case aF => exact fun _ h_ => Nat.le_trans (below_step HB.out (drewB _)).size h_)
      (case aO => exact Kd.N_drew HNr.out)
      (case aB => exact below_step HB.out (drewB _))
      (case aS => exact (below_step HB.out (drewB _)).size)
      (case aL => have h1 := HLn.out; simp only [List.length_map, List.length_take]; omega)
      intro v1 w5 hN hb5 hg5 hat5
      have HN5 := Lib.hid hN
      have HB5 := Lib.hid hb5
      clear hN hb5 hg5 hat5
      refine hK.out _ _ (HS _ HB5.out) (fun hHeld => ?_)
      clear hK K
      refine nx 32 ?_
      refine pq 22 3 23 8388607 ?_
      refine done_ (by kernel_rfl) ?_
      clear HS hHeld
      go_wp2_with fail
      have HN6 := Lib.hid (show Kd.N k143 143 w5 w.heap.size (fun k => w.heap.size ≤ k) v1 ((l.take (k + 1)).map diq) from by rw [← map_next diq HEl.out]; exact HN5.out)
      have ek : wrap64 ((k : Int) + 1) = ((k + 1 : Nat) : Int) := by rw [wr64 (by omega) (by omega)]; omega
      try rw [ek]
      refine ⟨⟨k + 1, by omega, by first | rfl | (rw [Int.natCast_add]; rfl), HN6, HB5⟩, ?_⟩
      simp only [intOf]
      omega
    · obtain rfl : n = k := by omega
      have HOut := Lib.hid (show ∃ B b, u3 = .slice B n b ∧ n ≤ b ∧ Kd.F k143 wr (fun k => w.heap.size ≤ k) B n (l.map diq) from by
        have h := HNr.out
        rw [List.take_of_length_le (by rw [HN.out]; exact Nat.le_refl _)] at h
        obtain ⟨B, b, h1, h2, h3⟩ := N_out h
        rw [List.length_map, HN.out] at h1 h2 h3
        exact ⟨B, b, h1, h2, h3⟩)
      clear HNr
      go_wp2_with fail
      go_ret
      obtain ⟨B, b, rfl, h1, h2⟩ := HOut.out
      exact ⟨B, b, rfl, h1, h2, HB.out⟩
set_option maxHeartbeats 2000000 in
set_option maxRecDepth 100000 in
theorem Entries_F {w : World} {A : Option Addr} {n c : Nat} (l : List Et) (hn : l.length = n) (hC : Kd.C k107 w A l.length l) (hc : l.length ≤ c) (hl : l.length ≤ 300) :
    Calls Tryz.prog 59 #[.slice A n c] w fun e w' => ∃ B b, e = .returned (.slice B n b) ∧ n ≤ b ∧ Kd.F k131 w' (fun k => w.heap.size ≤ k) B n (l.map etq) ∧ Below w.heap.size w w' := by
  have HN := Lib.hid hn
  have HC := Lib.hid (show Kd.C k107 w A n l from hn ▸ hC)
  have HLn := Lib.hid hl
  clear hn hC hc hl
  go_enter Tryz.func59, Tryz.ntmps59
  go_wp2_with fail
  go_loopw [3, 4] (fun u i wr => ∃ k : Nat, k ≤ n ∧ i = .int .i64 k ∧ Hid (Kd.N k131 131 wr w.heap.size (fun k => w.heap.size ≤ k) u ((l.take k).map etq)) ∧ Hid (Below w.heap.size w wr)) (fun _ i _ => n - (intOf i).toNat)
  case atStart =>
    exact ⟨0, Nat.zero_le _, rfl, Kd.N_nil _ _ _ _ _, Below.refl _ _⟩
  case round =>
    obtain ⟨k, hk, rfl, HNr, HB⟩ := hrel
    by_cases hlt : k < n
    · have hks : k < l.length := by rw [HN.out]; exact hlt
      obtain ⟨⟨key, id⟩, hb⟩ : ∃ b, rd_T107 l (k : Int) = b := ⟨_, rfl⟩
      have HEl := Lib.hid (rd_some hks hb)
      obtain ⟨ad, rfl, q0, q1⟩ := at_T107 HC.out (k : Int) (by omega) (by omega)
      rw [hb] at q0 q1
      simp only [Int.toNat_natCast] at q0 q1
      have HQ0 := Lib.hid q0
      have HQ1 := Lib.hid q1
      have HFK := Lib.hid (fun W => (show Kd.FK k131 W (fun _ => False) (etq ⟨key, id⟩) [.string key, .int .i64 id] from k131_mkF W (fun _ => False) (etq ⟨key, id⟩)))
      have HS : ∀ w', Below w.heap.size w w' → w'.cell? (ad.add (k * 2)) = some (.string key) ∧ w'.cell? ⟨(ad.add (k * 2)).block, (ad.add (k * 2)).off + 1, none⟩ = some (.int .i64 id) := fun w' hb_ => ⟨pw_cell_below hb_ HQ0.out, pw_cell_below hb_ HQ1.out⟩
      have hn3 : n ≤ 300 := by have h1 := HLn.out; have h2 := HN.out; omega
      have c0 : (0 : Int) ≤ (k : Int) := by omega
      clear hb hks q0 q1
      go_upto_region 5 with fail
      refine stq 15 0 (fun w' => w'.cell? (ad.add (k * 2)) = some (.string key) ∧ w'.cell? ⟨(ad.add (k * 2)).block, (ad.add (k * 2)).off + 1, none⟩ = some (.int .i64 id)) ((HS _ (below_step HB.out (drewB _)))) (fun hHeld => ?_)
      refine pq 0 11 15 1 ?_
      refine pq 1 12 15 3 ?_
      refine pq 2 13 15 7 ?_
      refine pq 3 14 15 15 ?_
      refine pq 4 15 15 31 ?_
      refine pq 6 17 15 95 ?_
      refine pq 7 18 15 223 ?_
      refine pq 8 19 15 479 ?_
      refine pq 9 20 15 991 ?_
      refine tq 5 16 15 1023 hHeld ?_
      refine tq 10 21 15 2047 hHeld ?_
      refine pq 11 22 15 4095 ?_
      refine oq 12 23 15 8191 (fun K hK => ?_)
      refine vq ?_
      refine hK.out _ _ ((HS _ (below_step (below_step HB.out (drewB _)) (allocB _ _)))) (fun hHeld => ?_)
      clear hK K
      refine nx 23 ?_
      refine oq 13 24 15 16383 (fun K hK => ?_)
      refine Kd.N_append_step k131 (w0 := w) (W := wr.drew) w.heap.size (by rfl) (.tmp 11) (.tmp 23) 57 131 (.agg #[(.string ⟨#[]⟩), (.int .i64 0)]) 24 rfl Tryz.underlying57 info131 rfl (by decide) (by omega) u3 ((l.take k).map etq) (etq ⟨key, id⟩) [.string key, .int .i64 id] (fun k => w.heap.size ≤ k) (fun _ => False) rfl rfl ?aP (fun _ hk => hk.elim) ?aF ?aO ?aB ?aS ?aL ?_
      (case aP => exact HFK.out _)
      (case aF => exact fun _ h_ => Nat.le_trans (below_step HB.out (drewB _)).size h_)
      (case aO => exact Kd.N_drew HNr.out)
      (case aB => exact below_step HB.out (drewB _))
      (case aS => exact (below_step HB.out (drewB _)).size)
      (case aL => have h1 := HLn.out; simp only [List.length_map, List.length_take]; omega)
      intro v1 w5 hN hb5 hg5 hat5
      have HN5 := Lib.hid hN
      have HB5 := Lib.hid hb5
      clear hN hb5 hg5 hat5
      refine hK.out _ _ (HS _ HB5.out) (fun hHeld => ?_)
      clear hK K
      refine nx 24 ?_
      refine pq 14 3 15 32767 ?_
      refine done_ (by kernel_rfl) ?_
      clear HS hHeld
      go_wp2_with fail
      have HN6 := Lib.hid (show Kd.N k131 131 w5 w.heap.size (fun k => w.heap.size ≤ k) v1 ((l.take (k + 1)).map etq) from by rw [← map_next etq HEl.out]; exact HN5.out)
      have ek : wrap64 ((k : Int) + 1) = ((k + 1 : Nat) : Int) := by rw [wr64 (by omega) (by omega)]; omega
      try rw [ek]
      refine ⟨⟨k + 1, by omega, by first | rfl | (rw [Int.natCast_add]; rfl), HN6, HB5⟩, ?_⟩
      simp only [intOf]
      omega
    · obtain rfl : n = k := by omega
      have HOut := Lib.hid (show ∃ B b, u3 = .slice B n b ∧ n ≤ b ∧ Kd.F k131 wr (fun k => w.heap.size ≤ k) B n (l.map etq) from by
        have h := HNr.out
        rw [List.take_of_length_le (by rw [HN.out]; exact Nat.le_refl _)] at h
        obtain ⟨B, b, h1, h2, h3⟩ := N_out h
        rw [List.length_map, HN.out] at h1 h2 h3
        exact ⟨B, b, h1, h2, h3⟩)
      clear HNr
      go_wp2_with fail
      go_ret
      obtain ⟨B, b, rfl, h1, h2⟩ := HOut.out
      exact ⟨B, b, rfl, h1, h2, HB.out⟩
set_option maxHeartbeats 1000000 in
set_option maxRecDepth 100000 in
theorem commitQ_call (s e0 : Int) (w : World) : Calls Tryz.prog 24 #[.agg #[.int .i64 s, .int .i64 e0]] w fun e w' => e = .returned (.agg #[.int .i64 s, .int .i64 e0]) ∧ Below w.heap.size w w' := by
  go_enter Tryz.func24, Tryz.ntmps24
  go_wp2_with (first
    | ((with_reducible refine gate_dst (N := 1) rfl ?_); refine box_event ?hg (N := 1) ?hd (cs := #[.int .i64 s, .int .i64 e0]) (t := 26) ?hr ?_; (case hd => rfl); (case hg => rfl); (case hr => first | (go_simp; done) | (go_simp; rfl)); intro gl hg_ w1 hbox_ hb_; have HX1 := Lib.hid (Sr.box (Sr.nil w) hg_ hbox_ hb_); clear hbox_ hb_ hg_)
    | ((with_reducible refine gate_dst (N := 2) rfl ?_); refine box_event ?hg (N := 2) ?hd (cs := #[.int .i64 0, .int .i64 0]) (t := 55) ?hr ?_; (case hd => rfl); (case hg => rfl); (case hr => first | (go_simp; done) | (go_simp; rfl)); intro gr hg_ w2 hbox_ hb_; have HX2 := Lib.hid (Sr.box HX1.out hg_ hbox_ hb_); have q0 := HX2.out.cell (mt mh) 0 rfl; have q1 := HX2.out.cell (mt mh) 1 rfl; have z0 := HX2.out.cell mh 0 rfl; have z1 := HX2.out.cell mh 1 rfl; have f0 := blk_frozen HX2.out.head.2 0; have f1 := blk_frozen HX2.out.head.2 1; clear hbox_ hb_ hg_)
    | fail)
  refine bodyPost_ret (results_cell_row rfl _ _ gr 55 #[.int .i64 s, .int .i64 e0] (0, 0) _ rfl (by refine blk_put (cs := #[.int .i64 s, .int .i64 0]) ?_ 1 _ rfl; refine blk_put (cs := #[.int .i64 0, .int .i64 0]) ?_ 0 _ rfl; exact HX2.out.head.2) Tryz.underlying55 rfl (by kernel_rfl)) rfl ?_
  exact ⟨rfl, by with_reducible (repeat refine below_set ?_ HX2.out.head.1); with_reducible exact HX2.out.bel⟩
set_option maxHeartbeats 1000000 in
set_option maxRecDepth 100000 in
theorem PlaceQ_call (f t : Int) (w : World) : Calls Tryz.prog 144 #[.agg #[.int .i64 f, .int .i64 t]] w fun e w' => e = .returned (.agg #[.int .i64 f, .int .i64 t]) ∧ Below w.heap.size w w' := by
  go_enter Tryz.func144, Tryz.ntmps144
  go_wp2_with (first
    | ((with_reducible refine gate_dst (N := 1) rfl ?_); refine box_event ?hg (N := 1) ?hd (cs := #[.int .i64 f, .int .i64 t]) (t := 39) ?hr ?_; (case hd => rfl); (case hg => rfl); (case hr => first | (go_simp; done) | (go_simp; rfl)); intro gl hg_ w1 hbox_ hb_; have HX1 := Lib.hid (Sr.box (Sr.nil w) hg_ hbox_ hb_); clear hbox_ hb_ hg_)
    | ((with_reducible refine gate_dst (N := 2) rfl ?_); refine box_event ?hg (N := 2) ?hd (cs := #[.int .i64 0, .int .i64 0]) (t := 72) ?hr ?_; (case hd => rfl); (case hg => rfl); (case hr => first | (go_simp; done) | (go_simp; rfl)); intro gr hg_ w2 hbox_ hb_; have HX2 := Lib.hid (Sr.box HX1.out hg_ hbox_ hb_); have q0 := HX2.out.cell (mt mh) 0 rfl; have q1 := HX2.out.cell (mt mh) 1 rfl; have z0 := HX2.out.cell mh 0 rfl; have z1 := HX2.out.cell mh 1 rfl; have f0 := blk_frozen HX2.out.head.2 0; have f1 := blk_frozen HX2.out.head.2 1; clear hbox_ hb_ hg_)
    | fail)
  refine bodyPost_ret (results_cell_row rfl _ _ gr 72 #[.int .i64 f, .int .i64 t] (0, 0) _ rfl (by refine blk_put (cs := #[.int .i64 f, .int .i64 0]) ?_ 1 _ rfl; refine blk_put (cs := #[.int .i64 0, .int .i64 0]) ?_ 0 _ rfl; exact HX2.out.head.2) Tryz.underlying72 rfl (by kernel_rfl)) rfl ?_
  exact ⟨rfl, by with_reducible (repeat refine below_set ?_ HX2.out.head.1); with_reducible exact HX2.out.bel⟩
set_option maxHeartbeats 1000000 in
set_option maxRecDepth 100000 in
theorem Slots1_call (d f t : Int) (w : World) : Calls Tryz.prog 74 #[.agg #[.int .i64 d, .int .i64 f, .int .i64 t]] w fun e w' => e = .returned (.agg #[.int .i64 d, .int .i64 f, .int .i64 t]) ∧ Below w.heap.size w w' := by
  go_enter Tryz.func74, Tryz.ntmps74
  go_upto_region 1 with (first
    | ((with_reducible refine gate_dst (N := 1) rfl ?_); refine box_event ?hg (N := 1) ?hd (cs := #[.int .i64 d, .int .i64 f, .int .i64 t]) (t := 41) ?hr ?_; (case hd => rfl); (case hg => rfl); (case hr => first | (go_simp; done) | (go_simp; rfl)); intro gl hg_ w1 hbox_ hb_; have HX1 := Lib.hid (Sr.box (Sr.nil w) hg_ hbox_ hb_); clear hbox_ hb_ hg_)
    | ((with_reducible refine gate_dst (N := 2) rfl ?_); refine box_event ?hg (N := 2) ?hd (cs := #[.int .i64 0, .int .i64 0, .int .i64 0]) (t := 74) ?hr ?_; (case hd => rfl); (case hg => rfl); (case hr => first | (go_simp; done) | (go_simp; rfl)); intro gr hg_ w2 hbox_ hb_; have HX2 := Lib.hid (Sr.box HX1.out hg_ hbox_ hb_); clear hbox_ hb_ hg_)
    | fail)
  have HS : ∀ w', Sr w [(gr, Obj.cells #[.int .i64 0, .int .i64 0, .int .i64 0] 74), (gl, Obj.cells #[.int .i64 d, .int .i64 f, .int .i64 t] 41)] w' → w'.cell? ⟨gl, 0, none⟩ = some (.int .i64 d) ∧ w'.cell? ⟨gl, 1, none⟩ = some (.int .i64 f) ∧ w'.cell? ⟨gl, 2, none⟩ = some (.int .i64 t) := fun w' h => ⟨h.cell (mt mh) 0 rfl, h.cell (mt mh) 1 rfl, h.cell (mt mh) 2 rfl⟩
  refine start_ (n := 7) (S := fun w' => w'.cell? ⟨gl, 0, none⟩ = some (.int .i64 d) ∧ w'.cell? ⟨gl, 1, none⟩ = some (.int .i64 f) ∧ w'.cell? ⟨gl, 2, none⟩ = some (.int .i64 t)) (ds := [6]) (bm 7 0) (by kernel_rfl) rfl rfl (HS _ (HX2.out.below (drewB _))) (fun hHeld => ?_)
  refine pq 0 3 7 1 ?_
  refine pq 2 5 7 5 ?_
  refine tq 1 4 7 7 hHeld ?_
  refine tq 3 6 7 15 hHeld ?_
  refine oq 4 7 7 31 (fun K hK => ?_)
  refine gq Tryz.func144 #[.agg #[.int .i64 f, .int .i64 t]] ?_
  with_reducible refine ((PlaceQ_call f t _)).mono ?_
  rintro e wa ⟨rfl, hb_⟩
  refine ⟨_, rfl, ?_⟩
  have HX3 := Lib.hid ((HX2.out.below (drewB _)).below hb_)
  clear hb_
  refine hK.out _ _ (HS _ HX3.out) (fun hHeld => ?_)
  clear hK K
  refine nx 7 ?_
  refine pq 5 8 7 63 ?_
  refine last_ (i := 6) (N := none) (bm 7 127) rfl rfl (by kernel_rfl) (by decide) (fun K hK => ?_)
  have z0 := HX3.out.cell mh 0 rfl
  have z1 := HX3.out.cell mh 1 rfl
  have z2 := HX3.out.cell mh 2 rfl
  have f0 := blk_frozen HX3.out.head.2 0
  have f1 := blk_frozen HX3.out.head.2 1
  have f2 := blk_frozen HX3.out.head.2 2
  refine skip_ (w1 := ?_) (by rfl) rfl ?_ ?_
  rotate_left
  · go_simp
    rfl
  refine hK.out _ _ ?_
  clear hK K
  refine done_ (by kernel_rfl) ?_
  go_wp2_with fail
  refine bodyPost_ret (results_cell_row rfl _ _ gr 74 #[.int .i64 d, .int .i64 f, .int .i64 t] (0, 0) _ rfl (by refine blk_put (cs := #[.int .i64 d, .int .i64 f, .int .i64 0]) ?_ 2 _ rfl; refine blk_put (cs := #[.int .i64 d, .int .i64 0, .int .i64 0]) ?_ 1 _ rfl; refine blk_put (cs := #[.int .i64 0, .int .i64 0, .int .i64 0]) ?_ 0 _ rfl; exact HX3.out.head.2) Tryz.underlying74 rfl (by kernel_rfl)) rfl ?_
  exact ⟨rfl, by with_reducible (repeat refine below_set ?_ HX3.out.head.1); with_reducible exact HX3.out.bel⟩
set_option maxHeartbeats 1000000 in
set_option maxRecDepth 100000 in
theorem LogQ_raw (s i d f t : Int) (w : World) : Calls Tryz.prog 21 #[.agg #[.int .i64 s, .int .i64 i, .int .i64 d, .int .i64 f, .int .i64 t]] w fun e w' => e = .returned (.agg #[.int .i64 s, .int .i64 i, .int .i64 d, .int .i64 f, .int .i64 t]) ∧ Below w.heap.size w w' := by
  go_enter Tryz.func21, Tryz.ntmps21
  go_upto_region 1 with (first
    | ((with_reducible refine gate_dst (N := 1) rfl ?_); refine box_event ?hg (N := 1) ?hd (cs := #[.int .i64 s, .int .i64 i, .int .i64 d, .int .i64 f, .int .i64 t]) (t := 43) ?hr ?_; (case hd => rfl); (case hg => rfl); (case hr => first | (go_simp; done) | (go_simp; rfl)); intro gl hg_ w1 hbox_ hb_; have HX1 := Lib.hid (Sr.box (Sr.nil w) hg_ hbox_ hb_); clear hbox_ hb_ hg_)
    | ((with_reducible refine gate_dst (N := 2) rfl ?_); refine box_event ?hg (N := 2) ?hd (cs := #[.int .i64 0, .int .i64 0, .int .i64 0, .int .i64 0, .int .i64 0]) (t := 76) ?hr ?_; (case hd => rfl); (case hg => rfl); (case hr => first | (go_simp; done) | (go_simp; rfl)); intro gr hg_ w2 hbox_ hb_; have HX2 := Lib.hid (Sr.box HX1.out hg_ hbox_ hb_); clear hbox_ hb_ hg_)
    | fail)
  have HS : ∀ w', Sr w [(gr, Obj.cells #[.int .i64 0, .int .i64 0, .int .i64 0, .int .i64 0, .int .i64 0] 76), (gl, Obj.cells #[.int .i64 s, .int .i64 i, .int .i64 d, .int .i64 f, .int .i64 t] 43)] w' → w'.cell? ⟨gl, 0, none⟩ = some (.int .i64 s) ∧ w'.cell? ⟨gl, 1, none⟩ = some (.int .i64 i) ∧ w'.cell? ⟨gl, 2, none⟩ = some (.int .i64 d) ∧ w'.cell? ⟨gl, 3, none⟩ = some (.int .i64 f) ∧ w'.cell? ⟨gl, 4, none⟩ = some (.int .i64 t) := fun w' h => ⟨h.cell (mt mh) 0 rfl, h.cell (mt mh) 1 rfl, h.cell (mt mh) 2 rfl, h.cell (mt mh) 3 rfl, h.cell (mt mh) 4 rfl⟩
  refine start_ (n := 9) (S := fun w' => w'.cell? ⟨gl, 0, none⟩ = some (.int .i64 s) ∧ w'.cell? ⟨gl, 1, none⟩ = some (.int .i64 i) ∧ w'.cell? ⟨gl, 2, none⟩ = some (.int .i64 d) ∧ w'.cell? ⟨gl, 3, none⟩ = some (.int .i64 f) ∧ w'.cell? ⟨gl, 4, none⟩ = some (.int .i64 t)) (ds := [8]) (bm 9 0) (by kernel_rfl) rfl rfl (HS _ (HX2.out.below (drewB _))) (fun hHeld => ?_)
  refine pq 0 3 9 1 ?_
  refine pq 2 5 9 5 ?_
  refine pq 4 7 9 21 ?_
  refine tq 1 4 9 23 hHeld ?_
  refine tq 3 6 9 31 hHeld ?_
  refine tq 5 8 9 63 hHeld ?_
  refine oq 6 9 9 127 (fun K hK => ?_)
  refine gq Tryz.func74 #[.agg #[.int .i64 d, .int .i64 f, .int .i64 t]] ?_
  with_reducible refine ((Slots1_call d f t _)).mono ?_
  rintro e wa ⟨rfl, hb_⟩
  refine ⟨_, rfl, ?_⟩
  have HX3 := Lib.hid ((HX2.out.below (drewB _)).below hb_)
  clear hb_
  refine hK.out _ _ (HS _ HX3.out) (fun hHeld => ?_)
  clear hK K
  refine nx 9 ?_
  refine pq 7 10 9 255 ?_
  refine last_ (i := 8) (N := none) (bm 9 511) rfl rfl (by kernel_rfl) (by decide) (fun K hK => ?_)
  have z0 := HX3.out.cell mh 0 rfl
  have z1 := HX3.out.cell mh 1 rfl
  have z2 := HX3.out.cell mh 2 rfl
  have z3 := HX3.out.cell mh 3 rfl
  have z4 := HX3.out.cell mh 4 rfl
  have f0 := blk_frozen HX3.out.head.2 0
  have f1 := blk_frozen HX3.out.head.2 1
  have f2 := blk_frozen HX3.out.head.2 2
  have f3 := blk_frozen HX3.out.head.2 3
  have f4 := blk_frozen HX3.out.head.2 4
  refine skip_ (w1 := ?_) (by rfl) rfl ?_ ?_
  rotate_left
  · go_simp
    rfl
  refine hK.out _ _ ?_
  clear hK K
  refine done_ (by kernel_rfl) ?_
  go_wp2_with fail
  refine bodyPost_ret (results_cell_row rfl _ _ gr 76 #[.int .i64 s, .int .i64 i, .int .i64 d, .int .i64 f, .int .i64 t] (0, 0) _ rfl (by refine blk_put (cs := #[.int .i64 s, .int .i64 i, .int .i64 d, .int .i64 f, .int .i64 0]) ?_ 4 _ rfl; refine blk_put (cs := #[.int .i64 s, .int .i64 i, .int .i64 d, .int .i64 0, .int .i64 0]) ?_ 3 _ rfl; refine blk_put (cs := #[.int .i64 s, .int .i64 i, .int .i64 0, .int .i64 0, .int .i64 0]) ?_ 2 _ rfl; refine blk_put (cs := #[.int .i64 s, .int .i64 0, .int .i64 0, .int .i64 0, .int .i64 0]) ?_ 1 _ rfl; refine blk_put (cs := #[.int .i64 0, .int .i64 0, .int .i64 0, .int .i64 0, .int .i64 0]) ?_ 0 _ rfl; exact HX3.out.head.2) Tryz.underlying76 rfl (by kernel_rfl)) rfl ?_
  exact ⟨rfl, by with_reducible (repeat refine below_set ?_ HX3.out.head.1); with_reducible exact HX3.out.bel⟩
end Go.Proofs.YtmbnomlkhmcmaaaGreat.A
end
section
namespace Go.Proofs.YtmbnomlkhmcmaaaGreat.A
open Go.RowKit Go.Shelf Go.Proofs.YtmbnomlkhmcmaaaGreatW.PrintWords Go.Proofs.YtmbnomlkhmcmaaaGreatW.PrintLast Go.Proofs.YtmbnomlkhmcmaaaGreatW.PrintMore Go.Proofs.YtmbnomlkhmcmaaaGreat.C
set_option linter.unusedVariables false
set_option linter.unusedSimpArgs false
theorem loopMap {α β : Type} (F : Nat → List α → List β → Int → Option (List β)) (rd : List α → Int → α) (g : α → β) (N : Nat) (hN : 300 ≤ N)
    (hF : ∀ k xs acc i, F (k + 1) xs acc i = if i < (xs.length : Int) then (if 0 ≤ i then (if acc.length < N then F k xs (acc ++ [g (rd xs i)]) (wrap64 (i + 1)) else none) else none) else some acc)
    (hrd : ∀ (xs : List α) (i : Nat) (h : i < xs.length), rd xs (i : Int) = xs[i]) (xs : List α) (hl : xs.length ≤ 300) :
    ∀ (d i k : Nat), i + d = xs.length → d < k → F k xs ((xs.take i).map g) (i : Int) = some (xs.map g)
  | 0, i, k + 1, hi, hk => by
    rw [hF, if_neg (by omega), List.take_of_length_le (by omega)]
  | d + 1, i, k + 1, hi, hk => by
    have hlt : i < xs.length := by omega
    rw [hF, if_pos (by omega), if_pos (by omega), if_pos (by rw [List.length_map, List.length_take]; omega), hrd xs i hlt, wr64 (by omega) (by omega)]
    have h := loopMap F rd g N hN hF hrd xs hl d (i + 1) k (by omega) (by omega)
    rw [List.take_add_one, List.getElem?_eq_getElem hlt] at h
    simp only [Option.toList_some, List.map_append, List.map_cons, List.map_nil, Int.natCast_add] at h
    exact h
theorem getD_at {α : Type} (z : α) (xs : List α) (i : Nat) (h : i < xs.length) : xs.getD ((i : Int).toNat) z = xs[i] := by
  rw [Int.toNat_natCast, List.getD_eq_getElem?_getD, List.getElem?_eq_getElem h]
  rfl
theorem places_f (l : List Pl) (hl : l.length ≤ 300) : oublaw8_Places.f 400 l = some (l.map plq) :=
  loopMap oublaw8_Places.l0 _ plq 8796093022208 (by omega) (fun _ _ _ _ => rfl) (fun xs i h => getD_at _ xs i h) l hl l.length 0 400 (by omega) (by omega)
theorem plain_f (l : List Bk) (hl : l.length ≤ 300) : oublaw9_Plain.f 400 l = some (l.map bkq) :=
  loopMap oublaw9_Plain.l0 _ bkq 4398046511104 (by omega) (fun _ _ _ _ => rfl) (fun xs i h => getD_at _ xs i h) l hl l.length 0 400 (by omega) (by omega)
theorem heapBk : Kd.Heap k170 := Kd.heap_iso _ (Kd.heap_pair (Kd.heap_int _) (Kd.heap_slice _ (Kd.heap_int _)))
theorem new_F {α : Type} {d : Kd α} {e : Nat} {w w' : World} {v : Value} {xs : List α} {n : Nat} (hn : xs.length = n) (h : d.R e w' w.heap.size (fun _ => True) v xs) :
    ∃ B b, v = .slice B n b ∧ n ≤ b ∧ Kd.F d w' (fun k => w.heap.size ≤ k) B n xs := by
  obtain ⟨B, b, hv, hb, hF⟩ := Kd.V_mono (Kd.R_V (base' := 0) (Kd.R_bound h)) (ok' := fun k => w.heap.size ≤ k) (fun k hk => hk.2.1)
  subst hn
  exact ⟨B, b, hv, hb, hF⟩
section
variable {w : World} {A : Option Addr} {n c : Nat}
theorem Places_F (l : List Pl) (hn : l.length = n) (hC : Kd.C k39 w A l.length l) (hc : l.length ≤ c) (hl : l.length ≤ 300) :
    Calls Tryz.prog 58 #[.slice A n c] w fun e w' => ∃ B b, e = .returned (.slice B n b) ∧ n ≤ b ∧ Kd.F k72 w' (fun k => w.heap.size ≤ k) B n (l.map plq) ∧ Below w.heap.size w w' := by
  subst hn
  refine (oublaw8_Places.calls 400 A c l _ w hC hc (places_f l hl)).mono ?_
  rintro e w' ⟨v, rfl, hR, hb⟩
  obtain ⟨B, b, rfl, h1, h2⟩ := new_F (List.length_map _) hR
  exact ⟨B, b, rfl, h1, h2, hb⟩
theorem Plain_F {P : Nat → Prop} (l : List Bk) (hn : l.length = n) (hC : Kd.F k170 w P A l.length l) (hc : l.length ≤ c) (hl : l.length ≤ 300) :
    Calls Tryz.prog 60 #[.slice A n c] w fun e w' => ∃ B b, e = .returned (.slice B n b) ∧ n ≤ b ∧ Kd.F k214 w' (fun k => P k ∨ w.heap.size ≤ k) B n (l.map bkq) ∧ Below w.heap.size w w' := by
  subst hn
  refine (oublaw9_Plain.calls 400 P A c l _ w (Kd.V_mk hc hC) (plain_f l hl)).mono ?_
  rintro e w' ⟨v, rfl, hN, hb⟩
  obtain ⟨B, b, rfl, h1, h2⟩ := Kd.N_V (base' := 0) hN
  rw [List.length_map] at h1 h2 ⊢
  exact ⟨B, b, rfl, h1, h2, hb⟩
end
end Go.Proofs.YtmbnomlkhmcmaaaGreat.A
end
section
namespace Go.Proofs.YtmbnomlkhmcmaaaGreat.A
open Go.RowKit Go.Shelf Go.Proofs.YtmbnomlkhmcmaaaGreatW.PrintWords Go.Proofs.YtmbnomlkhmcmaaaGreatW.PrintLast Go.Proofs.YtmbnomlkhmcmaaaGreatW.PrintMore Go.Proofs.YtmbnomlkhmcmaaaGreat.C Go.Proofs.YtmbnomlkhmcmaaaGreat.Z
set_option linter.unusedVariables false
set_option linter.unusedSimpArgs false
theorem Sr.apart {w0 w : World} {rows : List (Nat × Obj)} {g : Nat} {o : Obj} (h : Sr w0 ((g, o) :: rows) w) : ∀ k, w.heap.size ≤ k → k ≠ g := fun k hk e => by
 have h1 := h.lt mh
 have h2 : (g, o).1 = g := rfl
 omega
theorem F_old {α : Type} {d : Kd α} {w0 w : World} {A : Option Addr} {n g : Nat} {xs : List α} (hd : Kd.Heap d) (h : d.C w0 A n xs) (hb : Below w0.heap.size w0 w) : Kd.F d w (fun k => k < w0.heap.size) A n xs := Kd.F_below (Kd.C_F hd h) hb
def DeltaQPost (d : De) (w : World) (e : Ending) (w' : World) : Prop :=
 ∃ q : Dq, e = .returned q.v ∧ De.Q d q ∧ q.R w' ∧ q.L.length ≤ q.Lc ∧ q.K.length ≤ q.Kc ∧ Below w.heap.size w w'
def FullQPost (d : Fu) (w : World) (e : Ending) (w' : World) : Prop :=
 ∃ q : Fq, e = .returned q.v ∧ Fu.Q d q ∧ q.R w' ∧ q.V.length ≤ q.Vc ∧ q.K.length ≤ q.Kc ∧ Below w.heap.size w w'
structure H3Delta (d : De) : Prop where
 c0 : d.L.length ≤ d.Lc
 l0 : d.L.length ≤ 300
 c1 : d.P.length ≤ d.Pc
 l1 : d.P.length ≤ 300
 c2 : d.D.length ≤ d.Dc
 l2 : d.D.length ≤ 300
 c3 : d.K.length ≤ d.Kc
 l3 : d.K.length ≤ 300
set_option maxHeartbeats 8000000 in
set_option maxRecDepth 100000 in
theorem DeltaQ_call {d : De} {w : World} (hd : d.R w) (h3 : H3Delta d) :
  Calls Tryz.prog 18 #[d.v] w (DeltaQPost d w) := by
 have HD := Lib.hid hd
 have H3 := Lib.hid h3
 obtain ⟨n0, hn0⟩ : ∃ n, d.L.length = n := ⟨_, rfl⟩
 have N0 := Lib.hid hn0
 obtain ⟨n1, hn1⟩ : ∃ n, d.P.length = n := ⟨_, rfl⟩
 have N1 := Lib.hid hn1
 obtain ⟨n2, hn2⟩ : ∃ n, d.D.length = n := ⟨_, rfl⟩
 have N2 := Lib.hid hn2
 obtain ⟨n3, hn3⟩ : ∃ n, d.K.length = n := ⟨_, rfl⟩
 have N3 := Lib.hid hn3
 show Calls _ _ #[.agg #[.int .i64 d.s, .int .i64 d.e, .slice d.LA d.L.length d.Lc, .slice d.PA d.P.length d.Pc, .slice d.DA d.D.length d.Dc, .slice d.KA d.K.length d.Kc]] _ _
 rw [hn0, hn1, hn2, hn3]
 clear hd h3 hn0 hn1 hn2 hn3
 go_enter Tryz.func18, Tryz.ntmps18
 go_wp2_with (first
  | ((with_reducible refine gate_dst (N := 1) rfl ?_); refine box_event ?hg (N := 1) ?hd (cs := #[.int .i64 d.s, .int .i64 d.e, .slice d.LA n0 d.Lc, .slice d.PA n1 d.Pc, .slice d.DA n2 d.Dc, .slice d.KA n3 d.Kc]) (t := 37) ?hr ?_; (case hd => rfl); (case hg => rfl); (case hr => first | (go_simp; done) | (go_simp; rfl)); intro gd hg_ w1 hbox_ hb_; have HX1 := Lib.hid (Sr.box (Sr.nil w) hg_ hbox_ hb_); clear hbox_ hb_ hg_)
  | ((with_reducible refine gate_dst (N := 2) rfl ?_); refine box_event ?hg (N := 2) ?hd (cs := #[.int .i64 0, .int .i64 0, .slice none 0 0, .slice none 0 0, .slice none 0 0, .slice none 0 0]) (t := 68) ?hr ?_; (case hd => rfl); (case hg => rfl); (case hr => first | (go_simp; done) | (go_simp; rfl)); intro gr hg_ w2 hbox_ hb_; have HX2 := Lib.hid (Sr.box HX1.out hg_ hbox_ hb_); clear hbox_ hb_ hg_)
  | fail)
 have HG := Lib.hid (show w.heap.size ≤ gr from HX2.out.head.1)
 have HS : ∀ w', Sr w [(gr, Obj.cells #[.int .i64 0, .int .i64 0, .slice none 0 0, .slice none 0 0, .slice none 0 0, .slice none 0 0] 68), (gd, Obj.cells #[.int .i64 d.s, .int .i64 d.e, .slice d.LA n0 d.Lc, .slice d.PA n1 d.Pc, .slice d.DA n2 d.Dc, .slice d.KA n3 d.Kc] 37)] w' → w'.cell? ⟨gd, 0, none⟩ = some (.int .i64 d.s) ∧ w'.cell? ⟨gd, 1, none⟩ = some (.int .i64 d.e) ∧ w'.cell? ⟨gd, 2, none⟩ = some (.slice d.LA n0 d.Lc) ∧ w'.cell? ⟨gd, 3, none⟩ = some (.slice d.PA n1 d.Pc) ∧ w'.cell? ⟨gd, 4, none⟩ = some (.slice d.DA n2 d.Dc) ∧ w'.cell? ⟨gd, 5, none⟩ = some (.slice d.KA n3 d.Kc) := fun w' h => ⟨h.cell (mt mh) 0 rfl, h.cell (mt mh) 1 rfl, h.cell (mt mh) 2 rfl, h.cell (mt mh) 3 rfl, h.cell (mt mh) 4 rfl, h.cell (mt mh) 5 rfl⟩
 refine start_ (n := 16) (S := fun w' => w'.cell? ⟨gd, 0, none⟩ = some (.int .i64 d.s) ∧ w'.cell? ⟨gd, 1, none⟩ = some (.int .i64 d.e) ∧ w'.cell? ⟨gd, 2, none⟩ = some (.slice d.LA n0 d.Lc) ∧ w'.cell? ⟨gd, 3, none⟩ = some (.slice d.PA n1 d.Pc) ∧ w'.cell? ⟨gd, 4, none⟩ = some (.slice d.DA n2 d.Dc) ∧ w'.cell? ⟨gd, 5, none⟩ = some (.slice d.KA n3 d.Kc)) (ds := [15]) (bm 16 0) (by kernel_rfl) rfl rfl (HS _ (HX2.out.below (drewB _))) (fun hHeld => ?_)
 have HR0 := Lib.hid (HX2.out.below (drewB _))
 generalize w2.drew = W0 at HR0 hHeld ⊢
 refine pq 0 3 16 1 ?_
 refine pq 3 6 16 9 ?_
 refine pq 5 8 16 41 ?_
 refine pq 8 11 16 297 ?_
 refine pq 11 14 16 2345 ?_
 refine tq 1 4 16 2347 hHeld ?_
 refine tq 4 7 16 2363 hHeld ?_
 refine tq 6 9 16 2427 hHeld ?_
 refine tq 9 12 16 2939 hHeld ?_
 refine tq 12 15 16 7035 hHeld ?_
 refine oq 2 5 16 7039 (fun K hK => ?_)
 refine gq Tryz.func24 #[.agg #[.int .i64 d.s, .int .i64 d.e]] ?_
 with_reducible refine ((commitQ_call d.s d.e _)).mono ?_
 rintro e wx0 ⟨rfl, hn⟩
 refine ⟨_, rfl, ?_⟩
 have HR1 := Lib.hid (HR0.out.below hn)
 clear hn
 refine hK.out _ _ (HS _ HR1.out) (fun hHeld => ?_)
 clear hK K
 refine nx 5 ?_
 refine oq 7 10 16 7167 (fun K hK => ?_)
 refine gq Tryz.func66 #[.slice d.PA n1 d.Pc] ?_
 with_reducible refine ((Changes_F d.P N1.out (Kd.C_below HD.out.rp HR1.out.bel) H3.out.c1 H3.out.l1)).mono ?_
 rintro e wx1 ⟨B1, b1, rfl, hb, hF, hn⟩
 refine ⟨_, rfl, ?_⟩
 have HR2 := Lib.hid (HR1.out.below hn)
 have HF1 := Lib.hid (Kd.F_mono hF (ok' := fun k => k ≠ gr) (fun k hk => HR1.out.apart k hk))
 have HB1 := Lib.hid hb
 clear hF hb
 clear hn
 refine hK.out _ _ (HS _ HR2.out) (fun hHeld => ?_)
 clear hK K
 refine nx 10 ?_
 refine oq 10 13 16 8191 (fun K hK => ?_)
 refine gq Tryz.func67 #[.slice d.DA n2 d.Dc] ?_
 with_reducible refine ((Dirs_F d.D N2.out (Kd.C_below HD.out.rd HR2.out.bel) H3.out.c2 H3.out.l2)).mono ?_
 rintro e wx2 ⟨B2, b2, rfl, hb, hF, hn⟩
 refine ⟨_, rfl, ?_⟩
 have HR3 := Lib.hid (HR2.out.below hn)
 replace HF1 := Lib.hid (Kd.F_below HF1.out hn)
 have HF2 := Lib.hid (Kd.F_mono hF (ok' := fun k => k ≠ gr) (fun k hk => HR2.out.apart k hk))
 have HB2 := Lib.hid hb
 clear hF hb
 clear hn
 refine hK.out _ _ (HS _ HR3.out) (fun hHeld => ?_)
 clear hK K
 refine nx 13 ?_
 refine oq 13 16 16 16383 (fun K hK => ?_)
 refine gq Tryz.func60 #[.slice d.KA n3 d.Kc] ?_
 with_reducible refine ((Plain_F d.K N3.out (F_old (g := 0) heapBk HD.out.rk HR3.out.bel) (hc := H3.out.c3) (hl := H3.out.l3))).mono ?_
 rintro e wx3 ⟨B3, b3, rfl, hb, hF, hn⟩
 refine ⟨_, rfl, ?_⟩
 have HR4 := Lib.hid (HR3.out.below hn)
 replace HF1 := Lib.hid (Kd.F_below HF1.out hn)
 replace HF2 := Lib.hid (Kd.F_below HF2.out hn)
 have HF3 := Lib.hid (Kd.F_mono hF (ok' := fun k => k ≠ gr) (fun k hk => hk.elim (fun h e => by have := HG.out; omega) (fun h => HR3.out.apart k h)))
 have HB3 := Lib.hid hb
 clear hF hb
 clear hn
 refine hK.out _ _ (HS _ HR4.out) (fun hHeld => ?_)
 clear hK K
 refine nx 16 ?_
 refine pq 14 17 16 32767 ?_
 refine last_ (i := 15) (N := none) (bm 16 65535) rfl rfl (by kernel_rfl) (by decide) (fun K hK => ?_)
 have hs0 := HR4.out.cell mh 0 rfl
 have hf0 := blk_frozen HR4.out.head.2 0
 have hs1 := HR4.out.cell mh 1 rfl
 have hf1 := blk_frozen HR4.out.head.2 1
 have hs2 := HR4.out.cell mh 2 rfl
 have hf2 := blk_frozen HR4.out.head.2 2
 have hs3 := HR4.out.cell mh 3 rfl
 have hf3 := blk_frozen HR4.out.head.2 3
 have hs4 := HR4.out.cell mh 4 rfl
 have hf4 := blk_frozen HR4.out.head.2 4
 have hs5 := HR4.out.cell mh 5 rfl
 have hf5 := blk_frozen HR4.out.head.2 5
 refine skip_ (w1 := ?_) (by rfl) rfl ?_ ?_
 rotate_left
 ·go_simp
  rfl
 have HZ := Lib.hid HR4.out.head.2
 clear hs0 hf0 hs1 hf1 hs2 hf2 hs3 hf3 hs4 hf4 hs5 hf5
 refine hK.out _ _ ?_
 clear hK K
 refine done_ (by kernel_rfl) ?_
 try go_wp2
 refine bodyPost_ret (results_cell_row rfl _ _ gr 68 #[.int .i64 d.s, .int .i64 d.e, .slice d.LA n0 d.Lc, .slice B1 n1 b1, .slice B2 n2 b2, .slice B3 n3 b3] (0, 0) _ rfl (by refine blk_put (cs := #[.int .i64 d.s, .int .i64 d.e, .slice d.LA n0 d.Lc, .slice B1 n1 b1, .slice B2 n2 b2, .slice none 0 0]) ?_ 5 _ rfl; refine blk_put (cs := #[.int .i64 d.s, .int .i64 d.e, .slice d.LA n0 d.Lc, .slice B1 n1 b1, .slice none 0 0, .slice none 0 0]) ?_ 4 _ rfl; refine blk_put (cs := #[.int .i64 d.s, .int .i64 d.e, .slice d.LA n0 d.Lc, .slice none 0 0, .slice none 0 0, .slice none 0 0]) ?_ 3 _ rfl; refine blk_put (cs := #[.int .i64 d.s, .int .i64 d.e, .slice none 0 0, .slice none 0 0, .slice none 0 0, .slice none 0 0]) ?_ 2 _ rfl; refine blk_put (cs := #[.int .i64 d.s, .int .i64 0, .slice none 0 0, .slice none 0 0, .slice none 0 0, .slice none 0 0]) ?_ 1 _ rfl; refine blk_put (cs := #[.int .i64 0, .int .i64 0, .slice none 0 0, .slice none 0 0, .slice none 0 0, .slice none 0 0]) ?_ 0 _ rfl; exact HZ.out) Tryz.underlying68 rfl (by kernel_rfl)) rfl ?_
 refine ⟨⟨d.s, d.e, d.L, d.P.map chq, d.D.map diq, d.K.map bkq, d.LA, B1, B2, B3, d.Lc, b1, b2, b3⟩, ?_, ⟨rfl, rfl, rfl, rfl, rfl, rfl⟩, ⟨Kd.C_below HD.out.rl (by with_reducible (repeat refine below_set ?_ HG.out); with_reducible exact HR4.out.bel), (by rw [List.length_map, N1.out]; exact Kd.F_now (by with_reducible (repeat refine Kd.F_far ?_ (fun k hk => hk) _); with_reducible exact HF1.out)), (by rw [List.length_map, N2.out]; exact Kd.F_now (by with_reducible (repeat refine Kd.F_far ?_ (fun k hk => hk) _); with_reducible exact HF2.out)), (by rw [List.length_map, N3.out]; exact Kd.F_now (by with_reducible (repeat refine Kd.F_far ?_ (fun k hk => hk) _); with_reducible exact HF3.out))⟩, ?_, ?_, ?_⟩
 ·show Ending.returned (.agg #[.int .i64 d.s, .int .i64 d.e, .slice d.LA n0 d.Lc, .slice B1 n1 b1, .slice B2 n2 b2, .slice B3 n3 b3]) = .returned (.agg #[.int .i64 d.s, .int .i64 d.e, .slice d.LA d.L.length d.Lc, .slice B1 (d.P.map _).length b1, .slice B2 (d.D.map _).length b2, .slice B3 (d.K.map _).length b3])
  simp only [List.length_map, N0.out, N1.out, N2.out, N3.out]
 ·exact H3.out.c0
 ·rw [List.length_map, N3.out]
  exact HB3.out
 ·exact (by with_reducible (repeat refine below_set ?_ HG.out); with_reducible exact HR4.out.bel)
structure H3Full (d : Fu) : Prop where
 c0 : d.P.length ≤ d.Pc
 l0 : d.P.length ≤ 300
 c1 : d.E.length ≤ d.Ec
 l1 : d.E.length ≤ 300
 c2 : d.V.length ≤ d.Vc
 l2 : d.V.length ≤ 300
 c3 : d.K.length ≤ d.Kc
 l3 : d.K.length ≤ 300
set_option maxHeartbeats 8000000 in
set_option maxRecDepth 100000 in
theorem FullQ_call {d : Fu} {w : World} (hd : d.R w) (h3 : H3Full d) :
  Calls Tryz.prog 14 #[d.v] w (FullQPost d w) := by
 have HD := Lib.hid hd
 have H3 := Lib.hid h3
 obtain ⟨n0, hn0⟩ : ∃ n, d.P.length = n := ⟨_, rfl⟩
 have N0 := Lib.hid hn0
 obtain ⟨n1, hn1⟩ : ∃ n, d.E.length = n := ⟨_, rfl⟩
 have N1 := Lib.hid hn1
 obtain ⟨n2, hn2⟩ : ∃ n, d.V.length = n := ⟨_, rfl⟩
 have N2 := Lib.hid hn2
 obtain ⟨n3, hn3⟩ : ∃ n, d.K.length = n := ⟨_, rfl⟩
 have N3 := Lib.hid hn3
 show Calls _ _ #[.agg #[.int .i64 d.s, .int .i64 d.e, .slice d.PA d.P.length d.Pc, .slice d.EA d.E.length d.Ec, .slice d.VA d.V.length d.Vc, .slice d.KA d.K.length d.Kc]] _ _
 rw [hn0, hn1, hn2, hn3]
 clear hd h3 hn0 hn1 hn2 hn3
 go_enter Tryz.func14, Tryz.ntmps14
 go_wp2_with (first
  | ((with_reducible refine gate_dst (N := 1) rfl ?_); refine box_event ?hg (N := 1) ?hd (cs := #[.int .i64 d.s, .int .i64 d.e, .slice d.PA n0 d.Pc, .slice d.EA n1 d.Ec, .slice d.VA n2 d.Vc, .slice d.KA n3 d.Kc]) (t := 32) ?hr ?_; (case hd => rfl); (case hg => rfl); (case hr => first | (go_simp; done) | (go_simp; rfl)); intro gd hg_ w1 hbox_ hb_; have HX1 := Lib.hid (Sr.box (Sr.nil w) hg_ hbox_ hb_); clear hbox_ hb_ hg_)
  | ((with_reducible refine gate_dst (N := 2) rfl ?_); refine box_event ?hg (N := 2) ?hd (cs := #[.int .i64 0, .int .i64 0, .slice none 0 0, .slice none 0 0, .slice none 0 0, .slice none 0 0]) (t := 60) ?hr ?_; (case hd => rfl); (case hg => rfl); (case hr => first | (go_simp; done) | (go_simp; rfl)); intro gr hg_ w2 hbox_ hb_; have HX2 := Lib.hid (Sr.box HX1.out hg_ hbox_ hb_); clear hbox_ hb_ hg_)
  | fail)
 have HG := Lib.hid (show w.heap.size ≤ gr from HX2.out.head.1)
 have HS : ∀ w', Sr w [(gr, Obj.cells #[.int .i64 0, .int .i64 0, .slice none 0 0, .slice none 0 0, .slice none 0 0, .slice none 0 0] 60), (gd, Obj.cells #[.int .i64 d.s, .int .i64 d.e, .slice d.PA n0 d.Pc, .slice d.EA n1 d.Ec, .slice d.VA n2 d.Vc, .slice d.KA n3 d.Kc] 32)] w' → w'.cell? ⟨gd, 0, none⟩ = some (.int .i64 d.s) ∧ w'.cell? ⟨gd, 1, none⟩ = some (.int .i64 d.e) ∧ w'.cell? ⟨gd, 2, none⟩ = some (.slice d.PA n0 d.Pc) ∧ w'.cell? ⟨gd, 3, none⟩ = some (.slice d.EA n1 d.Ec) ∧ w'.cell? ⟨gd, 4, none⟩ = some (.slice d.VA n2 d.Vc) ∧ w'.cell? ⟨gd, 5, none⟩ = some (.slice d.KA n3 d.Kc) := fun w' h => ⟨h.cell (mt mh) 0 rfl, h.cell (mt mh) 1 rfl, h.cell (mt mh) 2 rfl, h.cell (mt mh) 3 rfl, h.cell (mt mh) 4 rfl, h.cell (mt mh) 5 rfl⟩
 refine start_ (n := 16) (S := fun w' => w'.cell? ⟨gd, 0, none⟩ = some (.int .i64 d.s) ∧ w'.cell? ⟨gd, 1, none⟩ = some (.int .i64 d.e) ∧ w'.cell? ⟨gd, 2, none⟩ = some (.slice d.PA n0 d.Pc) ∧ w'.cell? ⟨gd, 3, none⟩ = some (.slice d.EA n1 d.Ec) ∧ w'.cell? ⟨gd, 4, none⟩ = some (.slice d.VA n2 d.Vc) ∧ w'.cell? ⟨gd, 5, none⟩ = some (.slice d.KA n3 d.Kc)) (ds := [15]) (bm 16 0) (by kernel_rfl) rfl rfl (HS _ (HX2.out.below (drewB _))) (fun hHeld => ?_)
 have HR0 := Lib.hid (HX2.out.below (drewB _))
 generalize w2.drew = W0 at HR0 hHeld ⊢
 refine pq 0 3 16 1 ?_
 refine pq 3 6 16 9 ?_
 refine pq 6 9 16 73 ?_
 refine pq 9 12 16 585 ?_
 refine pq 11 14 16 2633 ?_
 refine tq 1 4 16 2635 hHeld ?_
 refine tq 4 7 16 2651 hHeld ?_
 refine tq 7 10 16 2779 hHeld ?_
 refine tq 10 13 16 3803 hHeld ?_
 refine tq 12 15 16 7899 hHeld ?_
 refine oq 2 5 16 7903 (fun K hK => ?_)
 refine gq Tryz.func24 #[.agg #[.int .i64 d.s, .int .i64 d.e]] ?_
 with_reducible refine ((commitQ_call d.s d.e _)).mono ?_
 rintro e wx0 ⟨rfl, hn⟩
 refine ⟨_, rfl, ?_⟩
 have HR1 := Lib.hid (HR0.out.below hn)
 clear hn
 refine hK.out _ _ (HS _ HR1.out) (fun hHeld => ?_)
 clear hK K
 refine nx 5 ?_
 refine oq 5 8 16 7935 (fun K hK => ?_)
 refine gq Tryz.func58 #[.slice d.PA n0 d.Pc] ?_
 with_reducible refine ((Places_F d.P N0.out (Kd.C_below HD.out.rp HR1.out.bel) H3.out.c0 H3.out.l0)).mono ?_
 rintro e wx1 ⟨B0, b0, rfl, hb, hF, hn⟩
 refine ⟨_, rfl, ?_⟩
 have HR2 := Lib.hid (HR1.out.below hn)
 have HF0 := Lib.hid (Kd.F_mono hF (ok' := fun k => k ≠ gr) (fun k hk => HR1.out.apart k hk))
 have HB0 := Lib.hid hb
 clear hF hb
 clear hn
 refine hK.out _ _ (HS _ HR2.out) (fun hHeld => ?_)
 clear hK K
 refine nx 8 ?_
 refine oq 8 11 16 8191 (fun K hK => ?_)
 refine gq Tryz.func59 #[.slice d.EA n1 d.Ec] ?_
 with_reducible refine ((Entries_F d.E N1.out (Kd.C_below HD.out.re HR2.out.bel) H3.out.c1 H3.out.l1)).mono ?_
 rintro e wx2 ⟨B1, b1, rfl, hb, hF, hn⟩
 refine ⟨_, rfl, ?_⟩
 have HR3 := Lib.hid (HR2.out.below hn)
 replace HF0 := Lib.hid (Kd.F_below HF0.out hn)
 have HF1 := Lib.hid (Kd.F_mono hF (ok' := fun k => k ≠ gr) (fun k hk => HR2.out.apart k hk))
 have HB1 := Lib.hid hb
 clear hF hb
 clear hn
 refine hK.out _ _ (HS _ HR3.out) (fun hHeld => ?_)
 clear hK K
 refine nx 11 ?_
 refine oq 13 16 16 16383 (fun K hK => ?_)
 refine gq Tryz.func60 #[.slice d.KA n3 d.Kc] ?_
 with_reducible refine ((Plain_F d.K N3.out (F_old (g := 0) heapBk HD.out.rk HR3.out.bel) (hc := H3.out.c3) (hl := H3.out.l3))).mono ?_
 rintro e wx3 ⟨B3, b3, rfl, hb, hF, hn⟩
 refine ⟨_, rfl, ?_⟩
 have HR4 := Lib.hid (HR3.out.below hn)
 replace HF0 := Lib.hid (Kd.F_below HF0.out hn)
 replace HF1 := Lib.hid (Kd.F_below HF1.out hn)
 have HF3 := Lib.hid (Kd.F_mono hF (ok' := fun k => k ≠ gr) (fun k hk => hk.elim (fun h e => by have := HG.out; omega) (fun h => HR3.out.apart k h)))
 have HB3 := Lib.hid hb
 clear hF hb
 clear hn
 refine hK.out _ _ (HS _ HR4.out) (fun hHeld => ?_)
 clear hK K
 refine nx 16 ?_
 refine pq 14 17 16 32767 ?_
 refine last_ (i := 15) (N := none) (bm 16 65535) rfl rfl (by kernel_rfl) (by decide) (fun K hK => ?_)
 have hs0 := HR4.out.cell mh 0 rfl
 have hf0 := blk_frozen HR4.out.head.2 0
 have hs1 := HR4.out.cell mh 1 rfl
 have hf1 := blk_frozen HR4.out.head.2 1
 have hs2 := HR4.out.cell mh 2 rfl
 have hf2 := blk_frozen HR4.out.head.2 2
 have hs3 := HR4.out.cell mh 3 rfl
 have hf3 := blk_frozen HR4.out.head.2 3
 have hs4 := HR4.out.cell mh 4 rfl
 have hf4 := blk_frozen HR4.out.head.2 4
 have hs5 := HR4.out.cell mh 5 rfl
 have hf5 := blk_frozen HR4.out.head.2 5
 refine skip_ (w1 := ?_) (by rfl) rfl ?_ ?_
 rotate_left
 ·go_simp
  rfl
 have HZ := Lib.hid HR4.out.head.2
 clear hs0 hf0 hs1 hf1 hs2 hf2 hs3 hf3 hs4 hf4 hs5 hf5
 refine hK.out _ _ ?_
 clear hK K
 refine done_ (by kernel_rfl) ?_
 try go_wp2
 refine bodyPost_ret (results_cell_row rfl _ _ gr 60 #[.int .i64 d.s, .int .i64 d.e, .slice B0 n0 b0, .slice B1 n1 b1, .slice d.VA n2 d.Vc, .slice B3 n3 b3] (0, 0) _ rfl (by refine blk_put (cs := #[.int .i64 d.s, .int .i64 d.e, .slice B0 n0 b0, .slice B1 n1 b1, .slice d.VA n2 d.Vc, .slice none 0 0]) ?_ 5 _ rfl; refine blk_put (cs := #[.int .i64 d.s, .int .i64 d.e, .slice B0 n0 b0, .slice B1 n1 b1, .slice none 0 0, .slice none 0 0]) ?_ 4 _ rfl; refine blk_put (cs := #[.int .i64 d.s, .int .i64 d.e, .slice B0 n0 b0, .slice none 0 0, .slice none 0 0, .slice none 0 0]) ?_ 3 _ rfl; refine blk_put (cs := #[.int .i64 d.s, .int .i64 d.e, .slice none 0 0, .slice none 0 0, .slice none 0 0, .slice none 0 0]) ?_ 2 _ rfl; refine blk_put (cs := #[.int .i64 d.s, .int .i64 0, .slice none 0 0, .slice none 0 0, .slice none 0 0, .slice none 0 0]) ?_ 1 _ rfl; refine blk_put (cs := #[.int .i64 0, .int .i64 0, .slice none 0 0, .slice none 0 0, .slice none 0 0, .slice none 0 0]) ?_ 0 _ rfl; exact HZ.out) Tryz.underlying60 rfl (by kernel_rfl)) rfl ?_
 refine ⟨⟨d.s, d.e, d.P.map plq, d.E.map etq, d.V, d.K.map bkq, B0, B1, d.VA, B3, b0, b1, d.Vc, b3⟩, ?_, ⟨rfl, rfl, rfl, rfl, rfl, rfl⟩, ⟨(by rw [List.length_map, N0.out]; exact Kd.F_now (by with_reducible (repeat refine Kd.F_far ?_ (fun k hk => hk) _); with_reducible exact HF0.out)), (by rw [List.length_map, N1.out]; exact Kd.F_now (by with_reducible (repeat refine Kd.F_far ?_ (fun k hk => hk) _); with_reducible exact HF1.out)), Kd.C_below HD.out.rv (by with_reducible (repeat refine below_set ?_ HG.out); with_reducible exact HR4.out.bel), HD.out.ru, (by rw [List.length_map, N3.out]; exact Kd.F_now (by with_reducible (repeat refine Kd.F_far ?_ (fun k hk => hk) _); with_reducible exact HF3.out))⟩, ?_, ?_, ?_⟩
 ·show Ending.returned (.agg #[.int .i64 d.s, .int .i64 d.e, .slice B0 n0 b0, .slice B1 n1 b1, .slice d.VA n2 d.Vc, .slice B3 n3 b3]) = .returned (.agg #[.int .i64 d.s, .int .i64 d.e, .slice B0 (d.P.map _).length b0, .slice B1 (d.E.map _).length b1, .slice d.VA d.V.length d.Vc, .slice B3 (d.K.map _).length b3])
  simp only [List.length_map, N0.out, N1.out, N2.out, N3.out]
 ·exact H3.out.c2
 ·rw [List.length_map, N3.out]
  exact HB3.out
 ·exact (by with_reducible (repeat refine below_set ?_ HG.out); with_reducible exact HR4.out.bel)
end Go.Proofs.YtmbnomlkhmcmaaaGreat.A
end
section
namespace Go.Proofs.YtmbnomlkhmcmaaaGreat.A
open Go.RowKit Go.Shelf Go.Proofs.YtmbnomlkhmcmaaaGreatW.PrintWords Go.Proofs.YtmbnomlkhmcmaaaGreatW.PrintLast Go.Proofs.YtmbnomlkhmcmaaaGreatW.PrintMore Go.Proofs.YtmbnomlkhmcmaaaGreat.C
set_option linter.unusedVariables false
set_option linter.unusedSimpArgs false
theorem EncPost.reads {b : Bool} {bs : List Int} {w w' : World} {e : Ending} (h : EncPost b bs w e w') :
    ∃ A n c, e = .returned (.tuple #[.slice A n c, .int .i64 (if b = true then 0 else 1)]) ∧ (if b = true then bs else []).length = n ∧ n ≤ c ∧ Kd.C (Kd.int .u8) w' A n (if b = true then bs else []) ∧ Below w.heap.size w w' := by
  obtain ⟨v, rfl, hR, hb⟩ := h
  obtain ⟨A, c, rfl, hc, hC⟩ := Kd.R_reads hR
  exact ⟨A, _, c, rfl, rfl, hc, hC, hb⟩
theorem Bytes_same {w : World} {A B : Option Addr} {n c d : Nat} (l : List Int) (hn : l.length = n) (h1 : Kd.C (Kd.int .u8) w A n l) (k1 : n ≤ c) (h2 : Kd.C (Kd.int .u8) w B n l) (k2 : n ≤ d) :
    Calls Tryz.prog 15 #[.slice A n c, .slice B n d] w fun e w' => e = .returned (.bool true) ∧ Below w.heap.size w w' := by
  subst hn
  refine (D.oubref_Bytes.calls A c l B d l true w h1 k1 h2 k2 (by unfold D.oubref_Bytes.f; simp)).mono ?_
  rintro e w' ⟨rfl, ⟨n, rfl⟩⟩
  exact ⟨rfl, pw_below_drewN (Below.refl _ _) n⟩
def Ly.at (y : Ly) (A : Option Addr) (cap : Nat) : Ly := { y with A := A, cap := cap }
theorem at_okDelta (y : Ly) (A : Option Addr) (cap : Nat) (d : De) : okDelta (y.at A cap) d = okDelta y d := rfl
theorem at_okEs (y : Ly) (A : Option Addr) (cap : Nat) : ∀ (l : List Et) (ids : List Int), okEs (y.at A cap) ids l = okEs y ids l
  | [], _ => rfl
  | x :: l, ids => by
    have h := at_okEs y A cap l (ids ++ [x.f1])
    unfold okEs
    rw [h, show enB (y.at A cap) x.f0 x.f1 = enB y x.f0 x.f1 from rfl]
theorem at_okFull (y : Ly) (A : Option Addr) (cap : Nat) (d : Fu) : okFull (y.at A cap) d = okFull y d := by
  unfold okFull
  rw [at_okEs]
  rfl
theorem at_ok {y : Ly} (h : y.Ok) (A : Option Addr) (cap : Nat) : (y.at A cap).Ok := h
theorem at_dB6 (y : Ly) (A : Option Addr) (cap : Nat) (d : De) : fill (dB6 (y.at A cap) d) ((y.at A cap).whole (y.at A cap).deltaLen).toNat = fill (dB6 y d) (y.whole y.deltaLen).toNat := rfl
theorem at_fB6 (y : Ly) (A : Option Addr) (cap : Nat) (d : Fu) : fill (fB6 (y.at A cap) d) ((y.at A cap).whole (y.at A cap).fullLen).toNat = fill (fB6 y d) (y.whole y.fullLen).toNat := rfl
theorem EncodeDeltaQ_of {y : Ly} {d : De} {q : Dq} {w : World} {A : Option Addr} {cap : Nat} (hy : (y.at A cap).R w) (ok : y.Ok) (h : De.Q d q) (hq : q.R w) (hLc : q.L.length ≤ q.Lc) (hL : d.L.length ≤ 300) (hP : d.P.length ≤ 300) (hD : d.D.length ≤ 300) (hK : d.K.length ≤ 300) (hKc : q.K.length ≤ q.Kc) :
    Calls Tryz.prog 17 #[(y.at A cap).v, q.v] w (EncPost (okDelta y d) (fill (dB6 y d) (y.whole y.deltaLen).toNat) w) := by
  refine (EncodeDeltaQ_call hy (at_ok ok A cap) q hq hLc (by rw [h.l]; exact hL) (by rw [h.p, List.length_map]; exact hP) (by rw [h.dr, List.length_map]; exact hD) (by rw [h.k, List.length_map]; exact hK) hKc).mono ?_
  intro e w' hp
  rw [h.ok, at_okDelta] at hp
  by_cases hb : okDelta y d = true
  · rw [h.writes (at_ok ok A cap) (by rw [at_okDelta]; exact hb), at_dB6] at hp
    exact hp
  · unfold EncPost at hp ⊢
    rw [if_neg hb, if_neg hb] at hp ⊢
    exact hp
theorem EncodeFullQ_of {y : Ly} {d : Fu} {q : Fq} {w : World} {A : Option Addr} {cap : Nat} (hy : (y.at A cap).R w) (ok : y.Ok) (h : Fu.Q d q) (hq : q.R w) (hE : d.E.length ≤ 300) (hP : d.P.length ≤ 300) (hV : d.V.length ≤ 300) (hVc : q.V.length ≤ q.Vc) (hK : d.K.length ≤ 300) (hKc : q.K.length ≤ q.Kc) :
    Calls Tryz.prog 13 #[(y.at A cap).v, q.v] w (EncPost (okFull y d) (fill (fB6 y d) (y.whole y.fullLen).toNat) w) := by
  refine (EncodeFullQ_call hy (at_ok ok A cap) q hq (by rw [h.en, List.length_map]; exact hE) (by rw [h.p, List.length_map]; exact hP) (by rw [h.v]; exact hV) hVc (by rw [h.k, List.length_map]; exact hK) hKc).mono ?_
  intro e w' hp
  rw [h.ok, at_okFull] at hp
  by_cases hb : okFull y d = true
  · rw [h.writes (at_ok ok A cap) (by rw [at_okFull]; exact hb), at_fB6] at hp
    exact hp
  · unfold EncPost at hp ⊢
    rw [if_neg hb, if_neg hb] at hp ⊢
    exact hp
end Go.Proofs.YtmbnomlkhmcmaaaGreat.A
end
section
namespace Go.Proofs.YtmbnomlkhmcmaaaGreat.A
open Go.RowKit Go.Shelf Go.Proofs.YtmbnomlkhmcmaaaGreatW.PrintWords Go.Proofs.YtmbnomlkhmcmaaaGreatW.PrintLast Go.Proofs.YtmbnomlkhmcmaaaGreatW.PrintMore Go.Proofs.YtmbnomlkhmcmaaaGreat.C
set_option linter.unusedVariables false
set_option linter.unusedSimpArgs false
theorem LogQ_call (g : Lg) (w : World) : Calls Tryz.prog 21 #[g.v] w fun e w' => e = .returned g.v ∧ Below w.heap.size w w' := LogQ_raw g.s g.i g.d g.f g.t w
theorem LogPost.enc {y : Ly} {g : Lg} {w w' : World} {e : Ending} (h : LogPost y g w e w') : EncPost (okLog y g) (fill (logBytes g) (y.whole 12).toNat) w e w' := h
theorem EncodeLogQ_of {y : Ly} {w : World} {A : Option Addr} {cap : Nat} (hy : (y.at A cap).R w) (ok : y.Ok) (g : Lg) (hg : -9223372036854775808 ≤ g.d ∧ g.d ≤ 9223372036854775807) :
    Calls Tryz.prog 20 #[(y.at A cap).v, g.v] w (EncPost (okLog y g) (fill (logBytes g) (y.whole 12).toNat) w) :=
  EncodeLogQ_call hy (at_ok ok A cap) g hg
theorem EncodeCommitQ_of {y : Ly} {w : World} {A : Option Addr} {cap : Nat} (hy : (y.at A cap).R w) (ok : y.Ok) (s e0 : Int) :
    Calls Tryz.prog 23 #[(y.at A cap).v, .agg #[.int .i64 s, .int .i64 e0]] w (EncPost (okC s e0) (fill (bes 5 [s, e0]) (y.c1 * 38).toNat) w) :=
  EncodeCommitQ_call hy (at_ok ok A cap) s e0
end Go.Proofs.YtmbnomlkhmcmaaaGreat.A
end
section
namespace Go.Proofs.YtmbnomlkhmcmaaaGreat.A
open Go.RowKit Go.Shelf Go.Proofs.YtmbnomlkhmcmaaaGreatW.PrintWords Go.Proofs.YtmbnomlkhmcmaaaGreatW.PrintLast Go.Proofs.YtmbnomlkhmcmaaaGreatW.PrintMore Go.Proofs.YtmbnomlkhmcmaaaGreat.C
set_option linter.unusedVariables false
set_option linter.unusedSimpArgs false
theorem Clone_F {w : World} {A : Option Addr} {n c : Nat} (xs : List Int) (hn : xs.length = n) (hr : Kd.C (Kd.int .u8) w A n xs) (hbig : n ≤ 140737488355328) :
    Calls Tryz.prog 112 #[.slice A n c] w fun e w' => ∃ B b, e = .returned (.slice B n b) ∧ n ≤ b ∧ Kd.F (Kd.int .u8) w' (fun k => w.heap.size ≤ k) B n xs ∧ Below w.heap.size w w' := by
  subst hn
  obtain ⟨e1, e2, e3⟩ := Kd.reads_of_C (d := (0 : Int)) hr
  have fin : ∀ (w' : World) (v : Value), w'.ownsRow w.heap.size 5 1 v xs.length (xs.map (Value.int .u8)) → ∃ B b, v = .slice B xs.length b ∧ xs.length ≤ b ∧ Kd.F (Kd.int .u8) w' (fun k => w.heap.size ≤ k) B xs.length xs := fun w' v h => by
    have hR : Kd.R (Kd.int .u8) 5 w' w.heap.size (fun _ => True) v xs := Kd.R_of_own (by simpa [encs] using h) (fun _ _ => trivial)
    exact new_F rfl hR
  cases A with
  | none =>
    have h0 : xs = [] := by
      by_cases h : 0 < xs.length
      · obtain ⟨ad, he, _⟩ := e3 h
        cases he
      · exact List.eq_nil_of_length_eq_zero (by omega)
    subst h0
    refine (Tryz.bytes_Clone_nil 0 c w).mono ?_
    rintro e w' ⟨rfl, rfl⟩
    exact ⟨none, 0, rfl, Nat.le_refl _, Kd.F_nil _ _ _, Below.refl _ _⟩
  | some a =>
    refine (Tryz.bytes_Clone_at a xs.length c xs w rfl hbig (fun i hi => ?_)).mono ?_
    · obtain ⟨ad, he, hc⟩ := e3 (by omega)
      cases he
      exact hc i hi
    · rintro e w' ⟨v, rfl, h1, h2, h3⟩
      obtain ⟨B, b, rfl, hb, hF⟩ := fin _ _ h1
      exact ⟨B, b, rfl, hb, hF, h3⟩
def RdPost (n : Nat) (xs : List Int) (w : World) (e : Ending) (w' : World) : Prop :=
  ∃ g B b, e = .returned (.pointer (some ⟨g, 0, none⟩)) ∧ w.heap.size ≤ g ∧ w'.heap[g]? = some (.cells #[.slice B n b, .int .i64 0] 221 (0, 0)) ∧ n ≤ b ∧ Kd.F (Kd.int .u8) w' (fun k => k ≠ g) B n xs ∧ Below w.heap.size w w'
set_option maxHeartbeats 4000000 in
set_option maxRecDepth 100000 in
theorem NewReader_call {w : World} {A : Option Addr} {n c : Nat} (xs : List Int) (hn : xs.length = n) (hr : Kd.C (Kd.int .u8) w A n xs) (hbig : n ≤ 140737488355328) :
    Calls Tryz.prog 83 #[.slice A n c] w (RdPost n xs w) := by
  have HC := Lib.hid (Clone_F (c := c) xs hn hr hbig)
  clear hn hr hbig
  go_enter Tryz.func83, Tryz.ntmps83
  go_wp2_with fail
  with_reducible refine HC.out.mono ?_
  rintro e w1 ⟨B, b, rfl, hb, hF, hbl⟩
  have HB := Lib.hid hb
  have HF := Lib.hid hF
  have HL := Lib.hid hbl
  clear hb hF hbl HC
  go_wp2_with (first
    | ((with_reducible refine gate_dst (N := 6) rfl ?_); refine box_event ?hg (N := 6) ?hd (cs := #[.slice B n b, .int .i64 0]) (t := 221) ?hr ?_; (case hd => rfl); (case hg => rfl); (case hr => first | (go_simp; done) | (go_simp; rfl)); intro g hg_ w2 hbox_ hb_; have HG := Lib.hid hg_; have HX := Lib.hid hbox_; have HY := Lib.hid hb_; clear hbox_ hb_ hg_)
    | fail)
  refine bodyPost_ret (v := .pointer (some ⟨g, 0, none⟩)) ?_ rfl ?_
  · simp [results, Tryz.results83, go_sem]
  · refine ⟨g, B, b, rfl, ?_, HX.out, HB.out, ?_, below_step HL.out HY.out⟩
    · rw [HG.out]
      exact HL.out.size
    · exact Kd.F_mono (Kd.F_below (Kd.F_bound HF.out) HY.out) (fun k hk => by have := hk.2; rw [HG.out]; omega)
end Go.Proofs.YtmbnomlkhmcmaaaGreat.A
end
section
namespace Go.Proofs.YtmbnomlkhmcmaaaGreat.A
open Go.RowKit Go.Shelf Go.Proofs.YtmbnomlkhmcmaaaGreatW.PrintWords Go.Proofs.YtmbnomlkhmcmaaaGreatW.PrintLast Go.Proofs.YtmbnomlkhmcmaaaGreatW.PrintMore Go.Proofs.YtmbnomlkhmcmaaaGreat.C
set_option linter.unusedVariables false
set_option linter.unusedSimpArgs false
def Rd (g N : Nat) (xs : List Int) (w : World) : Prop :=
  ∃ B b, w.heap[g]? = some (.cells #[.slice B N b, .int .i64 0] 221 (0, 0)) ∧ N ≤ b ∧ Kd.F (Kd.int .u8) w (fun k => k ≠ g) B N xs
def RawPost (g n N : Nat) (xs : List Int) (w : World) (e : Ending) (w' : World) : Prop :=
  ∃ D d, e = .returned (.slice D n d) ∧ n ≤ d ∧ Kd.F (Kd.int .u8) w' (fun k => k ≠ g) D n (xs.take n) ∧ Rd g (N - n) (xs.drop n) w' ∧ KeepBut w w' g none ∧ ∀ w0 : World, Below w0.heap.size w0 w → w0.heap.size ≤ g → Below w0.heap.size w0 w'
set_option maxHeartbeats 4000000 in
set_option maxRecDepth 100000 in
theorem RawR_call {w : World} {g n N : Nat} {xs : List Int} (h : Rd g N xs w) (hN : N ≤ 1048576) (hn : n ≤ N) :
    Calls Tryz.prog 92 #[.pointer (some ⟨g, 0, none⟩), .int .i64 n] w (RawPost g n N xs w) := by
  obtain ⟨B, b, hg, hb, hF⟩ := h
  have q0 := (blk_cell hg 0).trans rfl
  have q1 := (blk_cell hg 1).trans rfl
  have HG := Lib.hid hg
  have HB := Lib.hid hb
  have HF := Lib.hid hF
  have HN := Lib.hid hN
  have HL := Lib.hid hn
  have c0 : ¬ (n : Int) < 0 := by omega
  have c1 : ¬ (n : Int) > (N : Int) := by omega
  have c2 : n ≤ b := by omega
  have c3 : n ≤ N := hn
  have e0 := Kd.F_len hF
  have HT := Lib.hid (show Kd.C (Kd.int .u8) w B n (xs.take n) from by
    have h1 := Kd.C_take (m := n) (show (Kd.int .u8).C w B xs.length xs from by rw [e0]; exact Kd.F_now hF) (by omega)
    rwa [List.length_take, Nat.min_eq_left (by omega)] at h1)
  have HE := Lib.hid e0
  clear hg hb hF hN hn e0
  go_enter Tryz.func92, Tryz.ntmps92
  go_wp2_with fail
  with_reducible refine (Clone_F (xs.take n) (by rw [List.length_take, HE.out, Nat.min_eq_left HL.out]) HT.out (by have := HN.out; omega)).mono ?_
  rintro e w1 ⟨D, d, rfl, hd, hD, hb⟩
  have HD := Lib.hid hD
  have Hd := Lib.hid hd
  have HBl := Lib.hid hb
  have HG1 := Lib.hid (blk_below HG.out hb)
  have hlt := blk_lt HG.out
  have FIN := Lib.hid (show ∀ (C1 : Option Addr) (k1 : Nat), N - n ≤ k1 → Kd.F (Kd.int .u8) w1 (fun k => k ≠ g) C1 (N - n) (xs.drop n) → RawPost g n N xs w (.returned (.slice D n d)) (w1.setCell ⟨g, 0, none⟩ (.slice C1 (N - n) k1)) from fun C1 k1 h1 h2 =>
    ⟨D, d, rfl, hd, Kd.F_far (Kd.F_mono hD (ok' := fun k => k ≠ g) (fun k hk e => by have h : w.heap.size ≤ k := hk; omega)) (fun k hk => hk) _, ⟨C1, k1, blk_put HG1.out 0 _ rfl, h1, Kd.F_far h2 (fun k hk => hk) _⟩, ⟨by simpa [World.setCell] using hb.size, fun i hi hgi _ => (Below.heap_setCell w1 ⟨g, 0, none⟩ _ i hgi).trans (hb.block i hi)⟩, fun w0 hb0 hg0 => below_set (below_step hb0 hb) hg0⟩)
  have HCut := Lib.hid (show (b = n → Kd.F (Kd.int .u8) w1 (fun k => k ≠ g) B (N - n) (xs.drop n)) ∧ (b ≠ n → Kd.F (Kd.int .u8) w1 (fun k => k ≠ g) (B.map fun x => x.add n) (N - n) (xs.drop n)) from by
    have h1 := Kd.F_cut (m := n) (c := b) (show Kd.F (Kd.int .u8) w1 (fun k => k ≠ g) B xs.length xs from by rw [HE.out]; exact Kd.F_below HF.out hb) (by rw [HE.out]; exact HL.out) (by rw [HE.out]; exact HB.out)
    rw [List.length_drop, HE.out] at h1
    refine ⟨fun e => ?_, fun e => ?_⟩
    · rwa [if_pos e] at h1
    · rw [if_neg e, show (Kd.int IntKind.u8).sz = 1 from rfl, Nat.mul_one] at h1
      exact h1)
  clear hd hD hb q0 q1 hlt
  have q0 := (blk_cell HG1.out 0).trans rfl
  have q1 := (blk_cell HG1.out 1).trans rfl
  have f0 := blk_frozen HG1.out 0
  by_cases hbn : b = n
  · go_wp2_with fail
    all_goals
      refine bodyPost_ret (v := .slice D n d) (by simp [results, Tryz.results92, go_sem]) rfl ?_
      refine FIN.out _ _ ?_ ?_
      · have := HB.out; omega
      · first
        | exact HCut.out.1 hbn
        | exact HCut.out.1 rfl
        | exact (HCut.out.2 (by assumption))
  · go_wp2_with fail
    all_goals
      refine bodyPost_ret (v := .slice D n d) (by simp [results, Tryz.results92, go_sem]) rfl ?_
      refine FIN.out _ _ ?_ ?_
      · have := HB.out; omega
      · exact HCut.out.2 hbn
end Go.Proofs.YtmbnomlkhmcmaaaGreat.A
end
section
namespace Go.Proofs.YtmbnomlkhmcmaaaGreat.A
open Go.RowKit Go.Shelf Go.Proofs.YtmbnomlkhmcmaaaGreatW.PrintWords Go.Proofs.YtmbnomlkhmcmaaaGreatW.PrintLast Go.Proofs.YtmbnomlkhmcmaaaGreatW.PrintMore Go.Proofs.YtmbnomlkhmcmaaaGreat.C
set_option linter.unusedVariables false
set_option linter.unusedSimpArgs false
def numF (l : List Int) : Int := l.foldl (fun n c => Go.bits .or .i64 (wrap64 (n * 256)) (wrap64 c)) 0
def NumPost (g N : Nat) (xs : List Int) (w : World) (e : Ending) (w' : World) : Prop :=
  e = .returned (.int .i64 (if numF (xs.take 5) = 1099511627775 then -1 else numF (xs.take 5))) ∧ Rd g (N - 5) (xs.drop 5) w' ∧ KeepBut w w' g none ∧ ∀ w0 : World, Below w0.heap.size w0 w → w0.heap.size ≤ g → Below w0.heap.size w0 w'
set_option maxHeartbeats 4000000 in
set_option maxRecDepth 100000 in
theorem NumR_call {w : World} {g N : Nat} {xs : List Int} (h : Rd g N xs w) (hN : N ≤ 1048576) (hn : 5 ≤ N) (hx : xs.length = N) :
    Calls Tryz.prog 84 #[.pointer (some ⟨g, 0, none⟩), .int .i64 5] w (NumPost g N xs w) := by
  have HR := Lib.hid (show Calls Tryz.prog 92 #[.pointer (some ⟨g, 0, none⟩), .int .i64 5] w (RawPost g 5 N xs w) from RawR_call h hN hn)
  have HM := Lib.hid (show Calls Tryz.prog 134 #[.int .i64 5] w fun e w' => e = .returned (.bool true) ∧ w' = w from may_call 5 (by decide) (by decide) w)
  have HL := Lib.hid (show (xs.take 5).length = 5 by rw [List.length_take, hx]; omega)
  clear h hN hn hx
  go_enter Tryz.func84, Tryz.ntmps84
  go_wp2_with fail
  with_reducible refine HM.out.mono ?_
  rintro e w1 ⟨rfl, rfl⟩
  go_wp2_with fail
  with_reducible refine HR.out.mono ?_
  rintro e w1 ⟨D, d, rfl, hd, hF, hR, hB⟩
  have HRd := Lib.hid hR
  have HBl := Lib.hid hB
  obtain ⟨l, hl⟩ : ∃ l, xs.take 5 = l := ⟨_, rfl⟩
  rw [hl] at hF HL
  obtain ⟨_, _, e3⟩ := Kd.reads_of_C (d := (0 : Int)) (Kd.F_now hF)
  obtain ⟨ad, rfl, hc⟩ := e3 (by omega)
  have HC := Lib.hid hc
  have HLe := Lib.hid hl
  clear hd hF hR hB HR e3 hc hl HM
  go_wp2_with fail
  go_loopw [5, 7, 17] (fun n c i wr => ∃ k : Nat, k ≤ 5 ∧ i = .int .i64 k ∧ n = .int .i64 (numF (l.take k)) ∧ wr = w1) (fun _ _ i _ => 5 - (intOf i).toNat)
  case atStart =>
    exact ⟨0, Nat.zero_le _, rfl, rfl, rfl⟩
  case round =>
    obtain ⟨k, hk, rfl, rfl, rfl⟩ := hrel
    obtain ⟨N0, hN0⟩ : ∃ z, numF (l.take k) = z := ⟨_, rfl⟩
    rw [hN0]
    by_cases hlt : k < 5
    · have qk := HC.out k hlt
      obtain ⟨x, hx⟩ : ∃ x, l.getD k 0 = x := ⟨_, rfl⟩
      rw [hx] at qk
      go_wp2_with fail
      refine ⟨⟨k + 1, by omega, by rw [Int.natCast_add]; rfl, ?_, trivial⟩, ?_⟩
      · have e : numF (l.take (k + 1)) = Go.bits .or .i64 (wrap64 (N0 * 256)) (wrap64 x) := by
          have h5 : k < l.length := by have := HL.out; omega
          rw [List.take_add_one, List.getElem?_eq_getElem h5]
          rw [List.getD_eq_getElem?_getD, List.getElem?_eq_getElem h5] at hx
          unfold numF at hN0 ⊢
          rw [List.foldl_append, hN0, ← hx]
          rfl
        rw [e]
      · simp only [intOf]
        omega
    · obtain rfl : k = 5 := by omega
      rw [List.take_of_length_le (by have := HL.out; omega)] at hN0
      have HT := Lib.hid (show Calls Tryz.prog 152 #[.int .i64 5] wr fun e w' => e = .returned (.int .i64 1099511627775) ∧ w' = wr from top_call 5 (by decide) (by decide) wr)
      have HP := Lib.hid (show NumPost g N xs w1 (.returned (.int .i64 (if N0 = 1099511627775 then -1 else N0))) wr from ⟨by rw [HLe.out, hN0], HRd.out, HBl.out⟩)
      clear hN0
      go_wp2_with fail
      with_reducible refine HT.out.mono ?_
      rintro e w2 ⟨rfl, rfl⟩
      by_cases ht : N0 = 1099511627775
      · have HP2 := HP.out
        rw [if_pos ht] at HP2
        have HP3 := Lib.hid HP2
        clear HP2 HP HT
        go_wp2_with fail
        refine bodyPost_ret (v := .int .i64 (-1)) ?_ rfl HP3.out
        simp [results, Tryz.results84, go_sem]
      · have HP2 := HP.out
        rw [if_neg ht] at HP2
        have HP3 := Lib.hid HP2
        clear HP2 HP HT
        go_wp2_with fail
        refine bodyPost_ret (v := .int .i64 N0) ?_ rfl HP3.out
        simp [results, Tryz.results84, go_sem]
end Go.Proofs.YtmbnomlkhmcmaaaGreat.A
end
section
namespace Go.Proofs.YtmbnomlkhmcmaaaGreat.A
open Go.RowKit Go.Shelf Go.Proofs.YtmbnomlkhmcmaaaGreatW.PrintWords Go.Proofs.YtmbnomlkhmcmaaaGreatW.PrintLast Go.Proofs.YtmbnomlkhmcmaaaGreatW.PrintMore Go.Proofs.YtmbnomlkhmcmaaaGreat.C
set_option linter.unusedVariables false
set_option linter.unusedSimpArgs false
theorem Rd.below {g N : Nat} {xs : List Int} {w w' : World} (h : Rd g N xs w) (hb : Below w.heap.size w w') : Rd g N xs w' := by
  obtain ⟨B, b, h1, h2, h3⟩ := h
  exact ⟨B, b, blk_below h1 hb, h2, Kd.F_below h3 hb⟩
theorem Rd.lt {g N : Nat} {xs : List Int} {w : World} (h : Rd g N xs w) : g < w.heap.size := by
  obtain ⟨B, b, h1, _⟩ := h
  exact blk_lt h1
def numV (l : List Int) : Int := if numF l = 1099511627775 then -1 else numF l
def ReadPost (g : Nat) (xs : List Int) (w : World) (e : Ending) (w' : World) : Prop :=
  e = .returned (.agg #[.int .i64 (numV (xs.take 5)), .int .i64 (numV ((xs.drop 5).take 5))]) ∧ ∀ w0 : World, Below w0.heap.size w0 w → w0.heap.size ≤ g → Below w0.heap.size w0 w'
set_option maxHeartbeats 4000000 in
set_option maxRecDepth 100000 in
theorem commitR_call {w : World} {g N : Nat} {xs : List Int} (h : Rd g N xs w) (hN : N ≤ 1048576) (hn : 10 ≤ N) (hx : xs.length = N) :
    Calls Tryz.prog 85 #[.pointer (some ⟨g, 0, none⟩)] w (ReadPost g xs w) := by
  have HR := Lib.hid h
  have HN := Lib.hid (And.intro hN (And.intro hn hx))
  clear h hN hn hx
  go_enter Tryz.func85, Tryz.ntmps85
  go_wp2_with (first
    | ((with_reducible refine gate_dst (N := 2) rfl ?_); refine box_event ?hg (N := 2) ?hd (cs := #[.int .i64 0, .int .i64 0]) (t := 26) ?hr ?_; (case hd => rfl); (case hg => rfl); (case hr => first | (go_simp; done) | (go_simp; rfl)); intro gr hg_ w1 hbox_ hb_; have HG := Lib.hid hg_; have HX := Lib.hid hbox_; have HB := Lib.hid hb_; clear hbox_ hb_ hg_)
    | fail)
  have HR1 := Lib.hid (HR.out.below HB.out)
  with_reducible refine (NumR_call HR1.out HN.out.1 (by have := HN.out.2.1; omega) HN.out.2.2).mono ?_
  rintro e w2 ⟨rfl, hR2, hK2, hB2⟩
  have hX2 := (hK2.2 gr (blk_lt HX.out) (by have := HR.out.lt; have := HG.out; omega) (by simp)).trans HX.out
  have HR2 := Lib.hid hR2
  have HK2 := Lib.hid hB2
  have HX2 := Lib.hid hX2
  clear hR2 hK2 hB2 hX2
  obtain ⟨a, ha⟩ : ∃ a, numV (xs.take 5) = a := ⟨_, rfl⟩
  have HA := Lib.hid ha
  unfold numV at ha
  rw [ha]
  clear ha
  go_wp2_with fail
  with_reducible refine (NumR_call HR2.out (by have := HN.out.1; omega) (by have := HN.out.2.1; omega) (by rw [List.length_drop, HN.out.2.2])).mono ?_
  rintro e w3 ⟨rfl, hR3, hK3, hB3⟩
  have hX3 := (hK3.2 gr (blk_lt HX2.out) (by have := HR.out.lt; have := HG.out; omega) (by simp)).trans HX2.out
  have HK3 := Lib.hid hB3
  have HX3 := Lib.hid hX3
  clear hR3 hK3 hB3 hX3
  obtain ⟨b, hb⟩ : ∃ b, numV ((xs.drop 5).take 5) = b := ⟨_, rfl⟩
  have HBb := Lib.hid hb
  unfold numV at hb
  rw [hb]
  clear hb
  have q0 := (blk_cell HX3.out 0).trans rfl
  have q1 := (blk_cell HX3.out 1).trans rfl
  have f0 := blk_frozen HX3.out 0
  have f1 := blk_frozen HX3.out 1
  go_wp2_with fail
  refine bodyPost_ret (results_cell_row rfl _ _ gr 26 #[.int .i64 a, .int .i64 b] (0, 0) _ rfl (by refine blk_put (cs := #[.int .i64 a, .int .i64 0]) ?_ 1 _ rfl; refine blk_put (cs := #[.int .i64 0, .int .i64 0]) ?_ 0 _ rfl; exact HX3.out) Tryz.underlying26 rfl (by kernel_rfl)) rfl ?_
  refine ⟨by rw [HA.out, HBb.out], fun w0 h0 hg0 => ?_⟩
  have h1 : Below w0.heap.size w0 w1 := below_step h0 HB.out
  have h2 := HK3.out w0 (HK2.out w0 h1 hg0) hg0
  have hgr : w0.heap.size ≤ gr := by have := HR.out.lt; have := HG.out; omega
  exact below_set (below_set h2 hgr) hgr
end Go.Proofs.YtmbnomlkhmcmaaaGreat.A
end
section
namespace Go.Proofs.YtmbnomlkhmcmaaaGreat.A
open Go.RowKit Go.Shelf Go.Proofs.YtmbnomlkhmcmaaaGreatW.PrintWords Go.Proofs.YtmbnomlkhmcmaaaGreatW.PrintLast Go.Proofs.YtmbnomlkhmcmaaaGreatW.PrintMore Go.Proofs.YtmbnomlkhmcmaaaGreat.B
set_option linter.unusedVariables false
set_option linter.unusedSimpArgs false
set_option maxHeartbeats 4000000 in
set_option maxRecDepth 100000 in
theorem is_call {w : World} {A B : Option Addr} {n m c d : Nat} {e : Int} (xs ys : List Int) (hn : xs.length = n) (hm : ys.length = m) (h1 : Kd.C (Kd.int .u8) w A n xs) (k1 : n ≤ c) (h2 : Kd.C (Kd.int .u8) w B m ys) (k2 : m ≤ d) :
    Calls Tryz.prog 96 #[.slice A n c, .slice B m d, .int .i64 e] w fun en w' => en = .returned (.bool (decide (e = 0) && eqB xs ys)) ∧ Below w.heap.size w w' := by
  have hE : Calls Tryz.prog 153 #[.slice A n c, .slice B m d] w fun en w' => en = .returned (.bool (eqB xs ys)) ∧ Below w.heap.size w w' := by
    subst hn hm
    refine (bytes_Equal.calls A c xs B d ys (eqB xs ys) w h1 k1 h2 k2 rfl).mono ?_
    rintro e w' ⟨rfl, hb⟩
    exact ⟨rfl, hb.below⟩
  have HE := Lib.hid hE
  obtain ⟨r, hr⟩ : ∃ r, eqB xs ys = r := ⟨_, rfl⟩
  rw [hr] at HE ⊢
  clear hE hn hm h1 k1 h2 k2 hr
  go_enter Tryz.func96, Tryz.ntmps96
  by_cases he : e = 0
  · subst he
    go_wp2_with fail
    with_reducible refine HE.out.mono ?_
    rintro e w' ⟨rfl, hb⟩
    have HB := Lib.hid hb
    clear hb
    cases r with
    | true =>
      go_wp2_with fail
      refine bodyPost_ret (v := .bool true) ?_ rfl ⟨rfl, HB.out⟩
      simp [results, Tryz.results96, go_sem]
    | false =>
      go_wp2_with fail
      refine bodyPost_ret (v := .bool false) ?_ rfl ⟨rfl, HB.out⟩
      simp [results, Tryz.results96, go_sem]
  · have he2 := decide_eq_false he
    go_wp2_with fail
    refine bodyPost_ret (v := .bool false) ?_ rfl ⟨?_, Below.refl _ _⟩
    · simp [results, Tryz.results96, go_sem]
    · rw [decide_eq_false he]
      rfl
end Go.Proofs.YtmbnomlkhmcmaaaGreat.A
end
section
namespace Go.Proofs.YtmbnomlkhmcmaaaGreat.A
open Go.RowKit Go.Shelf Go.Proofs.YtmbnomlkhmcmaaaGreatW.PrintWords Go.Proofs.YtmbnomlkhmcmaaaGreatW.PrintLast Go.Proofs.YtmbnomlkhmcmaaaGreatW.PrintMore Go.Proofs.YtmbnomlkhmcmaaaGreat.B
set_option linter.unusedVariables false
set_option linter.unusedSimpArgs false
theorem Sr.set {w0 w : World} {rows : List (Nat × Obj)} {g i : Nat} {cs : Array Value} {t : TypeId} {u : Value} (h : Sr w0 ((g, .cells cs t (0, 0)) :: rows) w) (hne : ∀ r ∈ rows, r.1 ≠ g) : Sr w0 ((g, .cells (cs.setIfInBounds i u) t (0, 0)) :: rows) (w.setCell ⟨g, i, none⟩ u) := by
  refine ⟨below_set h.1 h.head.1, fun r hm => ?_⟩
  rcases List.mem_cons.1 hm with rfl | hm
  · exact ⟨h.head.1, blk_put h.head.2 i u rfl⟩
  · exact ⟨(h.2 r (mt hm)).1, (Below.heap_setCell w ⟨g, i, none⟩ u r.1 (hne r hm)).trans (h.2 r (mt hm)).2⟩
theorem Sr.nes {w0 w : World} {rows : List (Nat × Obj)} {g : Nat} (h : Sr w0 rows w) (hg : g = w.heap.size) : ∀ r ∈ rows, r.1 ≠ g := fun r hr e => by
  have := h.lt hr
  omega
def decC (y : Ly) (xs : List Int) : Bool := okC (numV (xs.take 5)) (numV ((xs.drop 5).take 5)) && eqB xs (fill (bes 5 [numV (xs.take 5), numV ((xs.drop 5).take 5)]) (y.c1 * 38).toNat)
def DecPost (y : Ly) (xs : List Int) (w : World) (e : Ending) (w' : World) : Prop :=
  e = .returned (.tuple #[.agg #[.int .i64 (if decC y xs = true then numV (xs.take 5) else 0), .int .i64 (if decC y xs = true then numV ((xs.drop 5).take 5) else 0)], .int .i64 (if decC y xs = true then 0 else 2)]) ∧ Below w.heap.size w w'
set_option maxHeartbeats 4000000 in
set_option maxRecDepth 100000 in
theorem DecodeCommit_call {y : Ly} {w : World} (hy : y.R w) (ok : y.Ok) {A : Option Addr} {n c : Nat} (xs : List Int) (hn : xs.length = n) (hC : Kd.C (Kd.int .u8) w A n xs) (hc : n ≤ c) (h10 : 10 ≤ n) (hb : n ≤ 1048576) :
    Calls Tryz.prog 33 #[y.v, .slice A n c] w (DecPost y xs w) := by
  have HY := Lib.hid hy
  have HK := Lib.hid ok
  have HN := Lib.hid (And.intro hn (And.intro hc (And.intro h10 hb)))
  have HC := Lib.hid hC
  clear hy ok hn hC hc h10 hb
  go_enter Tryz.func33, Tryz.ntmps33
  go_wp2_with (first
    | ((with_reducible refine gate_dst (N := 2) rfl ?_); refine box_event ?hg (N := 2) ?hd (cs := #[.int .i64 y.c0, .int .i64 y.c1, .int .i64 y.c2, .int .i64 y.c3, .int .i64 y.c4, .int .i64 y.c5, .int .i64 y.c6, .int .i64 y.c7, .int .i64 y.c8, .int .i64 y.c9, .slice y.A y.l.length y.cap]) (t := 46) ?hr ?_; (case hd => rfl); (case hg => rfl); (case hr => first | (go_simp; done) | (go_simp; rfl)); intro gl hg_ w1 hbox_ hb_; have HX1 := Lib.hid (Sr.box (Sr.nil w) hg_ hbox_ hb_); clear hbox_ hb_ hg_)
    | ((with_reducible refine gate_dst (N := 4) rfl ?_); refine box_event ?hg (N := 4) ?hd (cs := #[.int .i64 0, .int .i64 0]) (t := 26) ?hr ?_; (case hd => rfl); (case hg => rfl); (case hr => first | (go_simp; done) | (go_simp; rfl)); intro gc hg_ w2 hbox_ hb_; have HX2 := Lib.hid (Sr.box HX1.out hg_ hbox_ hb_); clear hbox_ hb_ hg_)
    | fail)
  with_reducible refine (NewReader_call xs HN.out.1 (Kd.C_below HC.out HX2.out.bel) (by have := HN.out.2.2.2; omega)).mono ?_
  rintro e w3 ⟨g, B, b, rfl, hg, hbx, hbn, hF, hbl⟩
  have HRd := Lib.hid (show Rd g n xs w3 from ⟨B, b, hbx, hbn, hF⟩)
  have HG := Lib.hid hg
  have HB3 := Lib.hid hbl
  clear hg hbx hbn hF hbl
  go_wp2_with fail
  with_reducible refine (commitR_call HRd.out HN.out.2.2.2 HN.out.2.2.1 HN.out.1).mono ?_
  rintro e w4 ⟨rfl, hB4⟩
  have HX4 := Lib.hid (HX2.out.below (hB4 w2 HB3.out HG.out))
  clear hB4 HX2 HX1 HRd HB3 HG
  obtain ⟨s, hs⟩ : ∃ s, numV (xs.take 5) = s := ⟨_, rfl⟩
  obtain ⟨e0, he0⟩ : ∃ e0, numV ((xs.drop 5).take 5) = e0 := ⟨_, rfl⟩
  have HS := Lib.hid hs
  have HE0 := Lib.hid he0
  rw [hs, he0]
  clear hs he0
  go_upto_region 2 with (first
    | ((with_reducible refine gate_dst (N := 6) rfl ?_); refine box_event ?hg (N := 6) ?hd (cs := #[.int .i64 0, .int .i64 0]) (t := 26) ?hr ?_; (case hd => rfl); (case hg => rfl); (case hr => first | (go_simp; done) | (go_simp; rfl)); intro g6 hg_ w5 hbox_ hb_; have HX5 := Lib.hid (Sr.box HX4.out hg_ hbox_ hb_); have HNe := Lib.hid (HX4.out.nes hg_); have q0 := HX5.out.cell mh 0 rfl; have q1 := HX5.out.cell mh 1 rfl; have f0 := blk_frozen HX5.out.head.2 0; have f1 := blk_frozen HX5.out.head.2 1; clear hbox_ hb_ hg_)
    | fail)
  have HX6 := Lib.hid ((HX5.out.set (i := 0) (u := .int .i64 s) HNe.out).set (i := 1) (u := .int .i64 e0) HNe.out)
  have HX7 := Lib.hid (show Sr w [(g6, Obj.cells #[.int .i64 s, .int .i64 e0] 26), (gc, Obj.cells #[.int .i64 0, .int .i64 0] 26), (gl, y.obj)] _ from HX6.out)
  clear HX6 HX5 HX4 HNe q0 q1 f0 f1
  generalize (w5.setCell ⟨g6, 0, none⟩ (.int .i64 s)).setCell ⟨g6, 1, none⟩ (.int .i64 e0) = w6 at HX7 ⊢
  have q0 := HX7.out.cell mh 0 rfl
  have q1 := HX7.out.cell mh 1 rfl
  have ql0 := HX7.out.cell (mt (mt mh)) 0 rfl
  have ql1 := HX7.out.cell (mt (mt mh)) 1 rfl
  have ql2 := HX7.out.cell (mt (mt mh)) 2 rfl
  have ql3 := HX7.out.cell (mt (mt mh)) 3 rfl
  have ql4 := HX7.out.cell (mt (mt mh)) 4 rfl
  have ql5 := HX7.out.cell (mt (mt mh)) 5 rfl
  have ql6 := HX7.out.cell (mt (mt mh)) 6 rfl
  have ql7 := HX7.out.cell (mt (mt mh)) 7 rfl
  have ql8 := HX7.out.cell (mt (mt mh)) 8 rfl
  have ql9 := HX7.out.cell (mt (mt mh)) 9 rfl
  have ql10 := HX7.out.cell (mt (mt mh)) 10 rfl
  go_wp2_with fail
  with_reducible refine (EncodeCommit_call (HY.out.below HX7.out.bel) HK.out s e0).mono ?_
  intro e w7 hp
  obtain ⟨A2, n2, c2, rfl, hn2, hc2, hC2, hb2⟩ := hp.reads
  have HX8 := Lib.hid (HX7.out.below hb2)
  obtain ⟨er, her⟩ : ∃ er : Int, (if okC s e0 = true then (0 : Int) else 1) = er := ⟨_, rfl⟩
  rw [her]
  have HER := Lib.hid her
  obtain ⟨bs, hbs⟩ : ∃ bs, (if okC s e0 = true then fill (bes 5 [s, e0]) (y.c1 * 38).toNat else []) = bs := ⟨_, rfl⟩
  rw [hbs] at hn2 hC2
  have HBs := Lib.hid hbs
  have HI := Lib.hid (is_call (e := er) xs bs HN.out.1 hn2 (Kd.C_below HC.out HX8.out.bel) HN.out.2.1 hC2 hc2)
  clear hp hn2 hc2 hC2 hb2 her hbs q0 q1 ql0 ql1 ql2 ql3 ql4 ql5 ql6 ql7 ql8 ql9 ql10 HX7
  go_wp2_with fail
  with_reducible refine HI.out.mono ?_
  rintro e w8 ⟨rfl, hb8⟩
  have HX9 := Lib.hid (HX8.out.below hb8)
  have HD := Lib.hid (show decC y xs = (decide (er = 0) && eqB xs bs) from by
    unfold decC
    rw [HS.out, HE0.out, ← HER.out, ← HBs.out]
    cases okC s e0 <;> simp)
  clear hb8 HI HX8 HER HBs
  obtain ⟨r, hr⟩ : ∃ r, (decide (er = 0) && eqB xs bs) = r := ⟨_, rfl⟩
  rw [hr] at HD ⊢
  clear hr
  have q0 := HX9.out.cell mh 0 rfl
  have q1 := HX9.out.cell mh 1 rfl
  have z0 := HX9.out.cell (mt mh) 0 rfl
  have z1 := HX9.out.cell (mt mh) 1 rfl
  have HXc := Lib.hid (show w.heap.size ≤ gc ∧ w8.heap[gc]? = some (.cells #[.int .i64 0, .int .i64 0] 26 (0, 0)) from HX9.out.2 _ (mt mh))
  have f0 := blk_frozen HXc.out.2 0
  have f1 := blk_frozen HXc.out.2 1
  cases r with
  | true =>
    go_wp2_with fail
    refine bodyPost_ret (results_ct rfl _ _ gc 26 #[.int .i64 s, .int .i64 e0] (0, 0) _ rfl (by refine blk_put (cs := #[.int .i64 s, .int .i64 0]) ?_ 1 _ rfl; refine blk_put (cs := #[.int .i64 0, .int .i64 0]) ?_ 0 _ rfl; exact HXc.out.2) Tryz.underlying26 rfl (by kernel_rfl)) rfl ?_
    refine ⟨?_, below_set (below_set HX9.out.bel HXc.out.1) HXc.out.1⟩
    rw [HD.out, HS.out, HE0.out]
    rfl
  | false =>
    go_wp2_with fail
    refine bodyPost_ret (results_ct rfl _ _ gc 26 #[.int .i64 0, .int .i64 0] (0, 0) _ rfl (by refine blk_put (cs := #[.int .i64 0, .int .i64 0]) ?_ 1 _ rfl; refine blk_put (cs := #[.int .i64 0, .int .i64 0]) ?_ 0 _ rfl; exact HXc.out.2) Tryz.underlying26 rfl (by kernel_rfl)) rfl ?_
    refine ⟨?_, below_set (below_set HX9.out.bel HXc.out.1) HXc.out.1⟩
    rw [HD.out]
    rfl
end Go.Proofs.YtmbnomlkhmcmaaaGreat.A
end
section
namespace Go.Proofs.YtmbnomlkhmcmaaaGreat.A
open Go.RowKit Go.Shelf Go.Proofs.YtmbnomlkhmcmaaaGreatW.PrintWords Go.Proofs.YtmbnomlkhmcmaaaGreatW.PrintLast Go.Proofs.YtmbnomlkhmcmaaaGreatW.PrintMore Go.Proofs.YtmbnomlkhmcmaaaGreat.B
set_option linter.unusedVariables false
set_option linter.unusedSimpArgs false
theorem infoLI : (Tryz.prog.info? 33).map (fun i => (i.zero, i.size, i.bytes)) = some (some (.slice none 0 0), 1, 24) := by kernel_rfl
theorem infoI8 : (Tryz.prog.info? 3).map (fun i => (i.zero, i.size, i.bytes)) = some (some (.int .i64 0), 1, 8) := by kernel_rfl
theorem i64_KM {W : World} {base : Nat} {ok : Nat → Prop} : ∀ x cs, (Kd.int .i64).K W x cs → (Kd.int .i64).M W base ok x cs := fun x cs h => h
theorem Sr.grew {w0 w w' : World} {rows : List (Nat × Obj)} (h : Sr w0 rows w) {row : Option Nat} (hg : w.grownBy w' row) (hr : ∀ k, row = some k → w0.heap.size ≤ k ∧ ∀ r ∈ rows, r.1 ≠ k) : Sr w0 rows w' :=
  ⟨pw_below_grown h.1 row h.1.size hg (fun k e => (hr k e).1), fun r hm => ⟨(h.2 r hm).1, blk_grown (h.2 r hm).2 hg (fun e => (hr _ e.symm).2 r hm rfl)⟩⟩
theorem set_next {l : List (List Int)} {n k : Nat} (hl : l.length = n) (hk : k < n) {x : List Int} (hx : l[k]? = some x) : (l.take k ++ List.replicate (n - k) []).set k x = l.take (k + 1) ++ List.replicate (n - (k + 1)) [] := by
  have h1 : (l.take k).length = k := by rw [List.length_take]; omega
  rw [List.set_append_right _ _ (by omega), h1, Nat.sub_self, show n - k = (n - (k + 1)) + 1 by omega, List.replicate_succ, List.set_cons_zero, List.take_add_one, hx]
  simp
theorem N_farA {α : Type} {d : Kd α} {e base sz g i : Nat} {w : World} {v u : Value} {xs : List α} (h : Kd.N d e w base (fun k => sz ≤ k) v xs) (hg : g < sz) : Kd.N d e (w.setCell ⟨g, i, none⟩ u) base (fun k => sz ≤ k) v xs := Kd.N_far h (fun k hk => by simp only; omega) u
abbrev dLI : Kd (List Int) := Kd.slice 3 (Kd.int .i64)
abbrev lay0 : Value := .agg #[.int .i64 0, .int .i64 0, .int .i64 0, .int .i64 0, .int .i64 0, .int .i64 0, .int .i64 0, .int .i64 0, .int .i64 0, .int .i64 0, .slice none 0 0]
def Ly.FR (y : Ly) (w : World) (b c : Nat) : Prop := Kd.F dLI w (fun k => b ≤ k ∧ k < c) y.A y.l.length y.l ∧ y.l.length ≤ y.cap
theorem Ly.FR.R {y : Ly} {w : World} {b c : Nat} (h : y.FR w b c) : y.R w := ⟨Kd.F_now h.1, h.2⟩
theorem Ly.FR.below {y : Ly} {w w' : World} {b c : Nat} (h : y.FR w b c) (hb : Below w.heap.size w w') : y.FR w' b c := ⟨Kd.F_below h.1 hb, h.2⟩
theorem Ly.FR.far {y : Ly} {w : World} {b c g i : Nat} {u : Value} (h : y.FR w b c) (hg : g < b ∨ c ≤ g) : y.FR (w.setCell ⟨g, i, none⟩ u) b c := ⟨Kd.F_far h.1 (fun k hk => by simp only; omega) u, h.2⟩
theorem Ly.FR.less {y : Ly} {w : World} {b c b' c' : Nat} (h : y.FR w b c) (hb : b' ≤ b) (hc : c ≤ c') : y.FR w b' c' := ⟨Kd.F_mono h.1 (fun k hk => ⟨Nat.le_trans hb hk.1, Nat.lt_of_lt_of_le hk.2 hc⟩), h.2⟩
def OfPost (y : Ly) (r : Bool) (w : World) (e : Ending) (w' : World) : Prop :=
  Below w.heap.size w w' ∧ (r = false → e = .returned (.tuple #[lay0, .int .i64 1])) ∧ (r = true → ∃ A cap, e = .returned (.tuple #[(y.at A cap).v, .int .i64 0]) ∧ (y.at A cap).FR w' w.heap.size w'.heap.size)
abbrev oCfJ0  : Obj := Obj.cells #[.int .i64 0, .int .i64 0, .int .i64 0, .int .i64 0, .int .i64 0, .int .i64 0, .int .i64 0, .int .i64 0, .int .i64 0, .int .i64 0, .slice none 0 0] 46
abbrev oCfJ1 (y : Ly) (YA : Option Addr) (nT : Nat) : Obj := Obj.cells #[.int .i64 y.c0, .int .i64 y.c1, .int .i64 y.c2, .int .i64 y.c3, .int .i64 y.c4, .int .i64 y.c5, .int .i64 y.c6, .int .i64 y.c7, .int .i64 y.c8, .int .i64 y.c9, .slice YA nT y.cap] 24
set_option maxHeartbeats 4000000 in
set_option maxRecDepth 100000 in
theorem Of_call {y : Ly} {w : World} (hy : y.R w) {r : Bool} (hr : mayB y = r) : Calls Tryz.prog 43 #[y.v] w (OfPost y r w) := by
  have HY := Lib.hid hy
  have HO := Lib.hid (show r = true → y.Ok ∧ (1 ≤ y.l.length ∧ y.l.length ≤ 4) ∧ ∀ r ∈ y.l, r.length ≤ 4 from fun h => mayB_ok (hr.trans h))
  obtain ⟨nT, hnT⟩ : ∃ n, y.l.length = n := ⟨_, rfl⟩
  obtain ⟨YA, hYA⟩ : ∃ p, y.A = p := ⟨_, rfl⟩
  have HN := Lib.hid hnT
  have HA := Lib.hid hYA
  have HM2 := Lib.hid (show ∀ W, Below w.heap.size w W → Calls Tryz.prog 127 #[.agg #[.int .i64 y.c0, .int .i64 y.c1, .int .i64 y.c2, .int .i64 y.c3, .int .i64 y.c4, .int .i64 y.c5, .int .i64 y.c6, .int .i64 y.c7, .int .i64 y.c8, .int .i64 y.c9, .slice YA nT y.cap]] W (fun e w' => e = .returned (.bool r) ∧ Below W.heap.size W w') from by rw [← hnT, ← hYA, ← hr]; exact fun W hb => May_ly (hy.below hb))
  show Calls _ _ #[.agg #[.int .i64 y.c0, .int .i64 y.c1, .int .i64 y.c2, .int .i64 y.c3, .int .i64 y.c4, .int .i64 y.c5, .int .i64 y.c6, .int .i64 y.c7, .int .i64 y.c8, .int .i64 y.c9, .slice y.A y.l.length y.cap]] _ _
  rw [hnT, hYA]
  clear hy hr hnT hYA
  go_enter Tryz.func43, Tryz.ntmps43
  go_wp2_with (first
    | ((with_reducible refine gate_dst (N := 1) rfl ?_); refine box_event ?hg (N := 1) ?hd (cs := #[.int .i64 y.c0, .int .i64 y.c1, .int .i64 y.c2, .int .i64 y.c3, .int .i64 y.c4, .int .i64 y.c5, .int .i64 y.c6, .int .i64 y.c7, .int .i64 y.c8, .int .i64 y.c9, .slice YA nT y.cap]) (t := 24) ?hr ?_; (case hd => rfl); (case hg => rfl); (case hr => first | (go_simp; done) | (go_simp; rfl)); intro gl hg_ w1 hbox_ hb_; have HX1 := Lib.hid (Sr.box (Sr.nil w) hg_ hbox_ hb_); have ql0 := HX1.out.cell mh 0 rfl; clear hbox_ hb_ hg_)
    | ((with_reducible refine gate_dst (N := 2) rfl ?_); refine box_event ?hg (N := 2) ?hd (cs := #[.int .i64 0, .int .i64 0, .int .i64 0, .int .i64 0, .int .i64 0, .int .i64 0, .int .i64 0, .int .i64 0, .int .i64 0, .int .i64 0, .slice none 0 0]) (t := 46) ?hr ?_; (case hd => rfl); (case hg => rfl); (case hr => first | (go_simp; done) | (go_simp; rfl)); intro gr hg_ w2 hbox_ hb_; have HNe := Lib.hid (show gr ≠ gl from fun e => (HX1.out.nes hg_) _ mh e.symm); have HX2 := Lib.hid (Sr.box HX1.out hg_ hbox_ hb_); have ql0 := HX2.out.cell (mt mh) 0 rfl; have ql1 := HX2.out.cell (mt mh) 1 rfl; have ql2 := HX2.out.cell (mt mh) 2 rfl; have ql3 := HX2.out.cell (mt mh) 3 rfl; have ql4 := HX2.out.cell (mt mh) 4 rfl; have ql5 := HX2.out.cell (mt mh) 5 rfl; have ql6 := HX2.out.cell (mt mh) 6 rfl; have ql7 := HX2.out.cell (mt mh) 7 rfl; have ql8 := HX2.out.cell (mt mh) 8 rfl; have ql9 := HX2.out.cell (mt mh) 9 rfl; have ql10 := HX2.out.cell (mt mh) 10 rfl; clear hbox_ hb_ hg_)
    | fail)
  with_reducible refine (HM2.out _ HX2.out.bel).mono ?_
  rintro e w3 ⟨rfl, hb⟩
  have HX3 := Lib.hid (HX2.out.below hb)
  have hlt1 : gl < w3.heap.size := HX3.out.lt (mt mh)
  have hlt2 : gr < w3.heap.size := HX3.out.lt mh
  clear hb ql0 ql1 ql2 ql3 ql4 ql5 ql6 ql7 ql8 ql9 ql10 HX1 HX2 HM2
  cases r with
  | false =>
    have z0 := HX3.out.cell mh 0 rfl
    have f0 := blk_frozen HX3.out.head.2 0
    have z1 := HX3.out.cell mh 1 rfl
    have f1 := blk_frozen HX3.out.head.2 1
    have z2 := HX3.out.cell mh 2 rfl
    have f2 := blk_frozen HX3.out.head.2 2
    have z3 := HX3.out.cell mh 3 rfl
    have f3 := blk_frozen HX3.out.head.2 3
    have z4 := HX3.out.cell mh 4 rfl
    have f4 := blk_frozen HX3.out.head.2 4
    have z5 := HX3.out.cell mh 5 rfl
    have f5 := blk_frozen HX3.out.head.2 5
    have z6 := HX3.out.cell mh 6 rfl
    have f6 := blk_frozen HX3.out.head.2 6
    have z7 := HX3.out.cell mh 7 rfl
    have f7 := blk_frozen HX3.out.head.2 7
    have z8 := HX3.out.cell mh 8 rfl
    have f8 := blk_frozen HX3.out.head.2 8
    have z9 := HX3.out.cell mh 9 rfl
    have f9 := blk_frozen HX3.out.head.2 9
    have z10 := HX3.out.cell mh 10 rfl
    have f10 := blk_frozen HX3.out.head.2 10
    clear hlt1 hlt2
    go_wp2_with fail
    refine bodyPost_ret (results_ct rfl _ _ gr 46 #[.int .i64 0, .int .i64 0, .int .i64 0, .int .i64 0, .int .i64 0, .int .i64 0, .int .i64 0, .int .i64 0, .int .i64 0, .int .i64 0, .slice none 0 0] (0, 0) _ rfl (by refine blk_put (cs := #[.int .i64 0, .int .i64 0, .int .i64 0, .int .i64 0, .int .i64 0, .int .i64 0, .int .i64 0, .int .i64 0, .int .i64 0, .int .i64 0, .slice none 0 0]) ?_ 10 _ rfl; refine blk_put (cs := #[.int .i64 0, .int .i64 0, .int .i64 0, .int .i64 0, .int .i64 0, .int .i64 0, .int .i64 0, .int .i64 0, .int .i64 0, .int .i64 0, .slice none 0 0]) ?_ 9 _ rfl; refine blk_put (cs := #[.int .i64 0, .int .i64 0, .int .i64 0, .int .i64 0, .int .i64 0, .int .i64 0, .int .i64 0, .int .i64 0, .int .i64 0, .int .i64 0, .slice none 0 0]) ?_ 8 _ rfl; refine blk_put (cs := #[.int .i64 0, .int .i64 0, .int .i64 0, .int .i64 0, .int .i64 0, .int .i64 0, .int .i64 0, .int .i64 0, .int .i64 0, .int .i64 0, .slice none 0 0]) ?_ 7 _ rfl; refine blk_put (cs := #[.int .i64 0, .int .i64 0, .int .i64 0, .int .i64 0, .int .i64 0, .int .i64 0, .int .i64 0, .int .i64 0, .int .i64 0, .int .i64 0, .slice none 0 0]) ?_ 6 _ rfl; refine blk_put (cs := #[.int .i64 0, .int .i64 0, .int .i64 0, .int .i64 0, .int .i64 0, .int .i64 0, .int .i64 0, .int .i64 0, .int .i64 0, .int .i64 0, .slice none 0 0]) ?_ 5 _ rfl; refine blk_put (cs := #[.int .i64 0, .int .i64 0, .int .i64 0, .int .i64 0, .int .i64 0, .int .i64 0, .int .i64 0, .int .i64 0, .int .i64 0, .int .i64 0, .slice none 0 0]) ?_ 4 _ rfl; refine blk_put (cs := #[.int .i64 0, .int .i64 0, .int .i64 0, .int .i64 0, .int .i64 0, .int .i64 0, .int .i64 0, .int .i64 0, .int .i64 0, .int .i64 0, .slice none 0 0]) ?_ 3 _ rfl; refine blk_put (cs := #[.int .i64 0, .int .i64 0, .int .i64 0, .int .i64 0, .int .i64 0, .int .i64 0, .int .i64 0, .int .i64 0, .int .i64 0, .int .i64 0, .slice none 0 0]) ?_ 2 _ rfl; refine blk_put (cs := #[.int .i64 0, .int .i64 0, .int .i64 0, .int .i64 0, .int .i64 0, .int .i64 0, .int .i64 0, .int .i64 0, .int .i64 0, .int .i64 0, .slice none 0 0]) ?_ 1 _ rfl; refine blk_put (cs := #[.int .i64 0, .int .i64 0, .int .i64 0, .int .i64 0, .int .i64 0, .int .i64 0, .int .i64 0, .int .i64 0, .int .i64 0, .int .i64 0, .slice none 0 0]) ?_ 0 _ rfl; exact HX3.out.head.2) Tryz.underlying46 rfl (by kernel_rfl)) rfl ?_
    exact ⟨by with_reducible (repeat refine below_set ?_ HX3.out.head.1); with_reducible exact HX3.out.bel, fun _ => rfl, fun h => by cases h⟩
  | true =>
    obtain ⟨ok, h4, h4r⟩ := HO.out rfl
    rw [HN.out] at h4
    have H4r := Lib.hid h4r
    obtain ⟨sz, hsz⟩ : ∃ n, w3.heap.size = n := ⟨_, rfl⟩
    rw [hsz] at hlt1 hlt2
    have HSz := Lib.hid hsz
    have HSz2 := Lib.hid HX3.out.bel.size
    have ql10 := HX3.out.cell (mt mh) 10 rfl
    clear h4r hsz ok
    go_wp2_with (first
      | ((with_reducible refine gate_dst (N := 14) rfl ?_); refine Kd.N_make dLI (w0 := w) w.heap.size 33 rfl (N' := 14) rfl 22 _ _ rfl (nT : Int) rfl rfl Tryz.underlying22 (.slice none 0 0) 24 infoLI rfl (by decide) (by omega) ([] : List Int) (ok := fun k => sz ≤ k) (okp := fun _ => False) (Kd.FK_slice_mk (l := []) (Nat.le_refl 0) (Kd.F_nil _ _ _)) (fun _ h => h.elim) (by have := HSz.out; omega) (by omega) (by omega) HX3.out.bel HX3.out.bel.size ?_; intro v4 w4 hn4 hb4 hg4 ha4; obtain ⟨g4, c4, hv4, _, _, _⟩ := Kd.N_form hn4 (by rw [List.length_replicate]; omega); rw [List.length_replicate, Int.toNat_natCast] at hv4; subst hv4; rw [Int.toNat_natCast] at hn4; have HN4 := Lib.hid hn4; have HX4 := Lib.hid (HX3.out.grew hg4 (fun k e => by cases e)); clear hn4 hb4 hg4 ha4 ql10; have ql10 := HX4.out.cell (mt mh) 10 rfl)
      | fail)
    clear ql10
    go_loopw [18] (fun i wr => ∃ k : Nat, k ≤ nT ∧ i = .int .i64 k ∧ Hid (Kd.N dLI 33 wr w.heap.size (fun k => sz ≤ k) (.slice (some ⟨g4, 0, none⟩) nT c4) (y.l.take k ++ List.replicate (nT - k) [])) ∧ Hid (Sr w [(gr, oCfJ0), (gl, (oCfJ1 y YA nT))] wr)) (fun i _ => nT - (intOf i).toNat)
    case atStart =>
      exact ⟨0, Nat.zero_le _, rfl, (by rw [List.take_zero, List.nil_append, Nat.sub_zero]; exact HN4.out), HX4⟩
    case round =>
      clear HN4 HX4 HX3
      obtain ⟨k, hk, rfl, HNr, HSr⟩ := hrel
      by_cases hlt : k < nT
      · have hks : k < y.l.length := by rw [HN.out]; exact hlt
        obtain ⟨rk, hrk⟩ : ∃ r, y.l[k] = r := ⟨_, rfl⟩
        have HRk := Lib.hid (show y.l[k]? = some rk by rw [List.getElem?_eq_getElem hks, hrk])
        have HL4 := Lib.hid (show rk.length ≤ 4 from hrk ▸ H4r.out _ (List.getElem_mem hks))
        obtain ⟨ad, ce, e, hcl, hK, hc0⟩ := Kd.C_get HY.out.1 ([] : List Int) (k : Int) (by omega) (by omega)
        obtain ⟨A1, c1, rfl, hl1, hC1⟩ := hK
        have hgd : y.l.getD (Int.toNat (k : Int)) [] = rk := by rw [Int.toNat_natCast, List.getD_eq_getElem?_getD, HRk.out]; rfl
        rw [hgd] at hl1 hC1 hc0
        have q0 := hc0 0 _ rfl
        simp only [Int.toNat_natCast, show dLI.sz = 1 from rfl, Nat.mul_one, Nat.add_zero] at q0
        replace q0 := (HSr.out.bel.cell (World.block_lt_of_cell? w _ q0)).trans q0
        obtain ⟨n1, hn1⟩ : ∃ n, rk.length = n := ⟨_, rfl⟩
        rw [hn1] at hl1 hC1 q0
        have HC1 := Lib.hid (Kd.C_below hC1 HSr.out.bel)
        have HN1 := Lib.hid hn1
        obtain rfl : YA = some ad := HA.out.symm.trans e
        have hg4 := Kd.N_lt HNr.out g4 rfl
        have hz4 : sz ≤ g4 := HNr.out.1 g4 rfl
        have HZ := Lib.hid (And.intro hg4 hz4)
        clear hgd hcl hc0 hl1 hC1 hn1 hrk hks e hg4 hz4
        have c0 : (0 : Int) ≤ (k : Int) := by omega
        go_wp2_with (first
          | (at_builtin; refine Kd.R_append_rows (Kd.int .i64) (w0 := w) w.heap.size rfl (.const (.slice none 0 0)) (.tmp 25) 33 3 (.int .i64 0) 8 rfl Tryz.underlying33 infoI8 rfl (show 0 < 1 by omega) (by omega) (.slice none 0 0) [] rk A1 n1 c1 (fun k => wr.heap.size ≤ k) (fun _ => False) rfl rfl (Kd.R_nil _ _ _ _ _) ?aR i64_KM (fun _ h_ => h_.elim) (fun _ h => h) HSr.out.bel HSr.out.bel.size ?aL ?_; (case aR => exact HC1.out); (case aL => have h1 := HN1.out; have h2 := HL4.out; simp; omega); intro v5 w5 ho hb hg hn; obtain ⟨A5, c5, rfl, hc5, _⟩ := Kd.R_reads ho; rw [List.nil_append] at ho hc5; have HK5 := Lib.hid (show Kd.FK dLI w5 (fun k => wr.heap.size ≤ k) rk [.slice A5 rk.length c5] from Kd.FK_of_M (d := dLI) (base := w.heap.size) ⟨_, rfl, ho⟩); have HN5 := Lib.hid (Kd.N_grown HNr.out hg (fun k _ => by simp [Value.ownBlock])); have HS5 := Lib.hid (HSr.out.grew hg (fun k e => by cases e)); obtain ⟨cE, hcE, hME, hccE, hfE⟩ := Kd.N_elem HN5.out ([] : List Int) (k : Int) (by omega) (by omega); have HP5 := Lib.hid (Kd.N_seg HN5.out (k : Int) (by omega) (by omega) (seg := [.slice A5 rk.length c5]) (j := 0) hcE hccE (show 0 + 1 ≤ 1 from Nat.le_refl 1) (x' := rk) (okp := fun k => wr.heap.size ≤ k) (by rw [List.take_zero, List.nil_append, List.drop_of_length_le (by rw [hcE]; exact Nat.le_refl 1)]; exact HK5.out) (fun k hk => ⟨by have := HZ.out; omega, by have := HZ.out; omega⟩)); obtain ⟨A6, c6, rfl, _, _⟩ := Kd.FK_slice_open hME; have q5 := hccE 0 _ rfl; have f5 := hfE 0; simp only [Int.toNat_natCast, show dLI.sz = 1 from rfl, Nat.mul_one, Nat.add_zero] at q5 f5; clear ho hb hg hn hcE hME hccE hfE hc5 q0)
          | fail)
        refine ⟨⟨k + 1, by omega, by rw [Int.natCast_add]; rfl, ?_, ?_⟩, ?_⟩
        · have h := HP5.out.1
          rw [Int.toNat_natCast, set_next HN.out hlt HRk.out] at h
          simp only [show dLI.sz = 1 from rfl, Nat.mul_one, Nat.add_zero, World.setCells] at h
          exact Lib.hid h
        · have h := HS5.out.grew HP5.out.2 (fun k e => by injection e with e; subst e; have := HZ.out; exact ⟨by omega, fun r hr => by simp only [List.mem_cons, List.not_mem_nil, or_false] at hr; rcases hr with rfl | rfl <;> simp only <;> omega⟩)
          simp only [Int.toNat_natCast, show dLI.sz = 1 from rfl, Nat.mul_one, Nat.add_zero, World.setCells] at h
          exact Lib.hid h
        · simp only [intOf]
          omega
      · obtain rfl : nT = k := by omega
        have HT := Lib.hid (show Kd.N dLI 33 wr w.heap.size (fun k => sz ≤ k) (.slice (some ⟨g4, 0, none⟩) nT c4) y.l from by
          have h := HNr.out
          rwa [Nat.sub_self, List.replicate_zero, List.append_nil, List.take_of_length_le (by rw [HN.out]; exact Nat.le_refl _)] at h)
        have HX5 := Lib.hid (HSr.out.less (rows' := [(gl, (oCfJ1 y YA nT)), (gr, oCfJ0)]) (mc (mt mh) (mc mh (fun _ h => by cases h))))
        have ql10 := HX5.out.cell mh 10 rfl
        have f10 := blk_frozen HX5.out.head.2 10
        have HFin := Lib.hid (show ∀ W, Kd.N dLI 33 W w.heap.size (fun k => sz ≤ k) (.slice (some ⟨g4, 0, none⟩) nT c4) y.l → (y.at (some ⟨g4, 0, none⟩) c4).FR W w.heap.size W.heap.size from fun W hn => by
          have h := Kd.N_reads' hn
          refine ⟨?_, by show y.l.length ≤ c4; rw [← h.1]; exact h.2.1⟩
          show Kd.F dLI W (fun k => w.heap.size ≤ k ∧ k < W.heap.size) (some ⟨g4, 0, none⟩) y.l.length y.l
          rw [← h.1]
          exact Kd.F_mono (Kd.F_bound (Kd.N_F hn)) (fun k hk => by have h1 := HSz.out; have h2 := HSz2.out; have h3 : sz ≤ k := hk.1; exact ⟨by omega, hk.2⟩))
        clear HNr HSr
        go_upto_region 10 with fail
        have HX6 := Lib.hid (show Sr w [(gl, Obj.cells #[.int .i64 y.c0, .int .i64 y.c1, .int .i64 y.c2, .int .i64 y.c3, .int .i64 y.c4, .int .i64 y.c5, .int .i64 y.c6, .int .i64 y.c7, .int .i64 y.c8, .int .i64 y.c9, .slice (some ⟨g4, 0, none⟩) nT c4] 24), (gr, oCfJ0)] _ from HX5.out.set (i := 10) (u := .slice (some ⟨g4, 0, none⟩) nT c4) (fun r hr => by rw [List.mem_singleton.1 hr]; exact HNe.out))
        have HT6 := Lib.hid (Kd.N_far HT.out (p := ⟨gl, 10, none⟩) (fun k hk => by simp only; omega) (.slice (some ⟨g4, 0, none⟩) nT c4))
        clear ql10 f10 HX5 HT
        generalize wr.setCell ⟨gl, 10, none⟩ (.slice (some ⟨g4, 0, none⟩) nT c4) = w6 at HX6 HT6 ⊢
        have ql0 := HX6.out.cell mh 0 rfl
        have ql1 := HX6.out.cell mh 1 rfl
        have ql2 := HX6.out.cell mh 2 rfl
        have ql3 := HX6.out.cell mh 3 rfl
        have ql4 := HX6.out.cell mh 4 rfl
        have ql5 := HX6.out.cell mh 5 rfl
        have ql6 := HX6.out.cell mh 6 rfl
        have ql7 := HX6.out.cell mh 7 rfl
        have ql8 := HX6.out.cell mh 8 rfl
        have ql9 := HX6.out.cell mh 9 rfl
        have ql10 := HX6.out.cell mh 10 rfl
        have HXr := Lib.hid (show w.heap.size ≤ gr ∧ w6.heap[gr]? = some (.cells #[.int .i64 0, .int .i64 0, .int .i64 0, .int .i64 0, .int .i64 0, .int .i64 0, .int .i64 0, .int .i64 0, .int .i64 0, .int .i64 0, .slice none 0 0] 46 (0, 0)) from HX6.out.2 _ (mt mh))
        have z0 := HX6.out.cell (mt mh) 0 rfl
        have f0 := blk_frozen HXr.out.2 0
        have z1 := HX6.out.cell (mt mh) 1 rfl
        have f1 := blk_frozen HXr.out.2 1
        have z2 := HX6.out.cell (mt mh) 2 rfl
        have f2 := blk_frozen HXr.out.2 2
        have z3 := HX6.out.cell (mt mh) 3 rfl
        have f3 := blk_frozen HXr.out.2 3
        have z4 := HX6.out.cell (mt mh) 4 rfl
        have f4 := blk_frozen HXr.out.2 4
        have z5 := HX6.out.cell (mt mh) 5 rfl
        have f5 := blk_frozen HXr.out.2 5
        have z6 := HX6.out.cell (mt mh) 6 rfl
        have f6 := blk_frozen HXr.out.2 6
        have z7 := HX6.out.cell (mt mh) 7 rfl
        have f7 := blk_frozen HXr.out.2 7
        have z8 := HX6.out.cell (mt mh) 8 rfl
        have f8 := blk_frozen HXr.out.2 8
        have z9 := HX6.out.cell (mt mh) 9 rfl
        have f9 := blk_frozen HXr.out.2 9
        have z10 := HX6.out.cell (mt mh) 10 rfl
        have f10 := blk_frozen HXr.out.2 10
        go_wp2_with fail
        refine bodyPost_ret (results_ct rfl _ _ gr 46 #[.int .i64 y.c0, .int .i64 y.c1, .int .i64 y.c2, .int .i64 y.c3, .int .i64 y.c4, .int .i64 y.c5, .int .i64 y.c6, .int .i64 y.c7, .int .i64 y.c8, .int .i64 y.c9, .slice (some ⟨g4, 0, none⟩) nT c4] (0, 0) _ rfl (by refine blk_put (cs := #[.int .i64 y.c0, .int .i64 y.c1, .int .i64 y.c2, .int .i64 y.c3, .int .i64 y.c4, .int .i64 y.c5, .int .i64 y.c6, .int .i64 y.c7, .int .i64 y.c8, .int .i64 y.c9, .slice none 0 0]) ?_ 10 _ rfl; refine blk_put (cs := #[.int .i64 y.c0, .int .i64 y.c1, .int .i64 y.c2, .int .i64 y.c3, .int .i64 y.c4, .int .i64 y.c5, .int .i64 y.c6, .int .i64 y.c7, .int .i64 y.c8, .int .i64 0, .slice none 0 0]) ?_ 9 _ rfl; refine blk_put (cs := #[.int .i64 y.c0, .int .i64 y.c1, .int .i64 y.c2, .int .i64 y.c3, .int .i64 y.c4, .int .i64 y.c5, .int .i64 y.c6, .int .i64 y.c7, .int .i64 0, .int .i64 0, .slice none 0 0]) ?_ 8 _ rfl; refine blk_put (cs := #[.int .i64 y.c0, .int .i64 y.c1, .int .i64 y.c2, .int .i64 y.c3, .int .i64 y.c4, .int .i64 y.c5, .int .i64 y.c6, .int .i64 0, .int .i64 0, .int .i64 0, .slice none 0 0]) ?_ 7 _ rfl; refine blk_put (cs := #[.int .i64 y.c0, .int .i64 y.c1, .int .i64 y.c2, .int .i64 y.c3, .int .i64 y.c4, .int .i64 y.c5, .int .i64 0, .int .i64 0, .int .i64 0, .int .i64 0, .slice none 0 0]) ?_ 6 _ rfl; refine blk_put (cs := #[.int .i64 y.c0, .int .i64 y.c1, .int .i64 y.c2, .int .i64 y.c3, .int .i64 y.c4, .int .i64 0, .int .i64 0, .int .i64 0, .int .i64 0, .int .i64 0, .slice none 0 0]) ?_ 5 _ rfl; refine blk_put (cs := #[.int .i64 y.c0, .int .i64 y.c1, .int .i64 y.c2, .int .i64 y.c3, .int .i64 0, .int .i64 0, .int .i64 0, .int .i64 0, .int .i64 0, .int .i64 0, .slice none 0 0]) ?_ 4 _ rfl; refine blk_put (cs := #[.int .i64 y.c0, .int .i64 y.c1, .int .i64 y.c2, .int .i64 0, .int .i64 0, .int .i64 0, .int .i64 0, .int .i64 0, .int .i64 0, .int .i64 0, .slice none 0 0]) ?_ 3 _ rfl; refine blk_put (cs := #[.int .i64 y.c0, .int .i64 y.c1, .int .i64 0, .int .i64 0, .int .i64 0, .int .i64 0, .int .i64 0, .int .i64 0, .int .i64 0, .int .i64 0, .slice none 0 0]) ?_ 2 _ rfl; refine blk_put (cs := #[.int .i64 y.c0, .int .i64 0, .int .i64 0, .int .i64 0, .int .i64 0, .int .i64 0, .int .i64 0, .int .i64 0, .int .i64 0, .int .i64 0, .slice none 0 0]) ?_ 1 _ rfl; refine blk_put (cs := #[.int .i64 0, .int .i64 0, .int .i64 0, .int .i64 0, .int .i64 0, .int .i64 0, .int .i64 0, .int .i64 0, .int .i64 0, .int .i64 0, .slice none 0 0]) ?_ 0 _ rfl; exact HXr.out.2) Tryz.underlying46 rfl (by kernel_rfl)) rfl ?_
        refine ⟨by with_reducible (repeat refine below_set ?_ HXr.out.1); with_reducible exact HX6.out.bel, (fun h => by cases h), fun _ => ⟨some ⟨g4, 0, none⟩, c4, by rw [← HN.out]; rfl, ?_⟩⟩
        refine HFin.out _ ?_
        with_reducible (repeat refine N_farA ?_ hlt2)
        with_reducible exact HT6.out
end Go.Proofs.YtmbnomlkhmcmaaaGreat.A
end
section
namespace Go.Proofs.YtmbnomlkhmcmaaaGreat.A
open Go.RowKit Go.Shelf Go.Proofs.YtmbnomlkhmcmaaaGreatW.PrintWords Go.Proofs.YtmbnomlkhmcmaaaGreatW.PrintLast Go.Proofs.YtmbnomlkhmcmaaaGreatW.PrintMore Go.Proofs.YtmbnomlkhmcmaaaGreat.B
set_option linter.unusedVariables false
set_option linter.unusedSimpArgs false
theorem size_set (w : World) (p : Addr) (u : Value) : (w.setCell p u).heap.size = w.heap.size := by simp [World.setCell]
theorem size_le {w : World} {p : Addr} {u : Value} {n : Nat} (h : n ≤ w.heap.size) : n ≤ (w.setCell p u).heap.size := by rw [size_set]; exact h
theorem blk11 {w : World} {g : Nat} {t : TypeId} {z0 z1 z2 z3 z4 z5 z6 z7 z8 z9 z10 u0 u1 u2 u3 u4 u5 u6 u7 u8 u9 u10 : Value} (h : w.heap[g]? = some (.cells #[z0, z1, z2, z3, z4, z5, z6, z7, z8, z9, z10] t (0, 0))) : (((((((((((w.setCell ⟨g, 0, none⟩ u0).setCell ⟨g, 1, none⟩ u1).setCell ⟨g, 2, none⟩ u2).setCell ⟨g, 3, none⟩ u3).setCell ⟨g, 4, none⟩ u4).setCell ⟨g, 5, none⟩ u5).setCell ⟨g, 6, none⟩ u6).setCell ⟨g, 7, none⟩ u7).setCell ⟨g, 8, none⟩ u8).setCell ⟨g, 9, none⟩ u9).setCell ⟨g, 10, none⟩ u10).heap[g]? = some (.cells #[u0, u1, u2, u3, u4, u5, u6, u7, u8, u9, u10] t (0, 0)) := by
  refine blk_put (cs := #[u0, u1, u2, u3, u4, u5, u6, u7, u8, u9, z10]) ?_ 10 _ rfl
  refine blk_put (cs := #[u0, u1, u2, u3, u4, u5, u6, u7, u8, z9, z10]) ?_ 9 _ rfl
  refine blk_put (cs := #[u0, u1, u2, u3, u4, u5, u6, u7, z8, z9, z10]) ?_ 8 _ rfl
  refine blk_put (cs := #[u0, u1, u2, u3, u4, u5, u6, z7, z8, z9, z10]) ?_ 7 _ rfl
  refine blk_put (cs := #[u0, u1, u2, u3, u4, u5, z6, z7, z8, z9, z10]) ?_ 6 _ rfl
  refine blk_put (cs := #[u0, u1, u2, u3, u4, z5, z6, z7, z8, z9, z10]) ?_ 5 _ rfl
  refine blk_put (cs := #[u0, u1, u2, u3, z4, z5, z6, z7, z8, z9, z10]) ?_ 4 _ rfl
  refine blk_put (cs := #[u0, u1, u2, z3, z4, z5, z6, z7, z8, z9, z10]) ?_ 3 _ rfl
  refine blk_put (cs := #[u0, u1, z2, z3, z4, z5, z6, z7, z8, z9, z10]) ?_ 2 _ rfl
  refine blk_put (cs := #[u0, z1, z2, z3, z4, z5, z6, z7, z8, z9, z10]) ?_ 1 _ rfl
  refine blk_put (cs := #[z0, z1, z2, z3, z4, z5, z6, z7, z8, z9, z10]) ?_ 0 _ rfl
  exact h
theorem Sr.set11 {w0 w : World} {rows : List (Nat × Obj)} {g : Nat} {t : TypeId} {z0 z1 z2 z3 z4 z5 z6 z7 z8 z9 z10 u0 u1 u2 u3 u4 u5 u6 u7 u8 u9 u10 : Value} (h : Sr w0 ((g, .cells #[z0, z1, z2, z3, z4, z5, z6, z7, z8, z9, z10] t (0, 0)) :: rows) w) (hne : ∀ r ∈ rows, r.1 ≠ g) : Sr w0 ((g, .cells #[u0, u1, u2, u3, u4, u5, u6, u7, u8, u9, u10] t (0, 0)) :: rows) (((((((((((w.setCell ⟨g, 0, none⟩ u0).setCell ⟨g, 1, none⟩ u1).setCell ⟨g, 2, none⟩ u2).setCell ⟨g, 3, none⟩ u3).setCell ⟨g, 4, none⟩ u4).setCell ⟨g, 5, none⟩ u5).setCell ⟨g, 6, none⟩ u6).setCell ⟨g, 7, none⟩ u7).setCell ⟨g, 8, none⟩ u8).setCell ⟨g, 9, none⟩ u9).setCell ⟨g, 10, none⟩ u10) := by
  refine ⟨by with_reducible (repeat refine below_set ?_ h.head.1); with_reducible exact h.bel, fun r hm => ?_⟩
  rcases List.mem_cons.1 hm with rfl | hm
  · exact ⟨h.head.1, blk11 h.head.2⟩
  · refine ⟨(h.2 r (mt hm)).1, Eq.trans ?_ (h.2 r (mt hm)).2⟩
    repeat rw [Below.heap_setCell _ _ _ r.1 (hne r hm)]
def CfgPost (y : Ly) (b : Bool) (w : World) (e : Ending) (w' : World) : Prop :=
  Below w.heap.size w w' ∧ (b = false → e = .returned (.tuple #[lay0, .bool false])) ∧ (b = true → ∃ A cap, e = .returned (.tuple #[(y.at A cap).v, .bool true]) ∧ (y.at A cap).FR w' w.heap.size w'.heap.size)
abbrev oCfK0  : Obj := Obj.cells #[.int .i64 0, .int .i64 0, .int .i64 0, .int .i64 0, .int .i64 0, .int .i64 0, .int .i64 0, .int .i64 0, .int .i64 0, .int .i64 0, .slice none 0 0] 46
abbrev oCfK1 (y : Ly) (YA : Option Addr) (nT : Nat) : Obj := Obj.cells #[.int .i64 y.c0, .int .i64 y.c1, .int .i64 y.c2, .int .i64 y.c3, .int .i64 y.c4, .int .i64 y.c5, .int .i64 y.c6, .int .i64 y.c7, .int .i64 y.c8, .int .i64 y.c9, .slice YA nT y.cap] 24
set_option maxHeartbeats 1000000 in
set_option maxRecDepth 100000 in
theorem config_call {y : Ly} {w : World} (hy : y.R w) {rf r : Bool} (hf : fewT y.l = rf) (hr : mayB y = r) : Calls Tryz.prog 10 #[y.v] w (CfgPost y (rf && r) w) := by
  obtain ⟨nT, hnT⟩ : ∃ n, y.l.length = n := ⟨_, rfl⟩
  obtain ⟨YA, hYA⟩ : ∃ p, y.A = p := ⟨_, rfl⟩
  have HN := Lib.hid hnT
  have HF := Lib.hid (show ∀ W, Below w.heap.size w W → Calls Tryz.prog 42 #[.agg #[.int .i64 y.c0, .int .i64 y.c1, .int .i64 y.c2, .int .i64 y.c3, .int .i64 y.c4, .int .i64 y.c5, .int .i64 y.c6, .int .i64 y.c7, .int .i64 y.c8, .int .i64 y.c9, .slice YA nT y.cap]] W (fun e w' => e = .returned (.bool rf) ∧ Below W.heap.size W w') from by rw [← hnT, ← hYA, ← hf]; exact fun W hb => Few_ly (hy.below hb))
  have HO := Lib.hid (show ∀ W, Below w.heap.size w W → Calls Tryz.prog 43 #[.agg #[.int .i64 y.c0, .int .i64 y.c1, .int .i64 y.c2, .int .i64 y.c3, .int .i64 y.c4, .int .i64 y.c5, .int .i64 y.c6, .int .i64 y.c7, .int .i64 y.c8, .int .i64 y.c9, .slice YA nT y.cap]] W (OfPost y r W) from by rw [← hnT, ← hYA]; exact fun W hb => Of_call (hy.below hb) hr)
  show Calls _ _ #[.agg #[.int .i64 y.c0, .int .i64 y.c1, .int .i64 y.c2, .int .i64 y.c3, .int .i64 y.c4, .int .i64 y.c5, .int .i64 y.c6, .int .i64 y.c7, .int .i64 y.c8, .int .i64 y.c9, .slice y.A y.l.length y.cap]] _ _
  rw [hnT, hYA]
  clear hy hf hr hnT hYA
  go_enter Tryz.func10, Tryz.ntmps10
  go_wp2_with (first
    | ((with_reducible refine gate_dst (N := 1) rfl ?_); refine box_event ?hg (N := 1) ?hd (cs := #[.int .i64 y.c0, .int .i64 y.c1, .int .i64 y.c2, .int .i64 y.c3, .int .i64 y.c4, .int .i64 y.c5, .int .i64 y.c6, .int .i64 y.c7, .int .i64 y.c8, .int .i64 y.c9, .slice YA nT y.cap]) (t := 24) ?hr ?_; (case hd => rfl); (case hg => rfl); (case hr => first | (go_simp; done) | (go_simp; rfl)); intro gl hg_ w1 hbox_ hb_; have HX1 := Lib.hid (Sr.box (Sr.nil w) hg_ hbox_ hb_); have ql0 := HX1.out.cell mh 0 rfl; clear hbox_ hb_ hg_)
    | ((with_reducible refine gate_dst (N := 2) rfl ?_); refine box_event ?hg (N := 2) ?hd (cs := #[.int .i64 0, .int .i64 0, .int .i64 0, .int .i64 0, .int .i64 0, .int .i64 0, .int .i64 0, .int .i64 0, .int .i64 0, .int .i64 0, .slice none 0 0]) (t := 46) ?hr ?_; (case hd => rfl); (case hg => rfl); (case hr => first | (go_simp; done) | (go_simp; rfl)); intro gr hg_ w2 hbox_ hb_; have HX2 := Lib.hid (Sr.box HX1.out hg_ hbox_ hb_); have ql0 := HX2.out.cell (mt mh) 0 rfl; have ql1 := HX2.out.cell (mt mh) 1 rfl; have ql2 := HX2.out.cell (mt mh) 2 rfl; have ql3 := HX2.out.cell (mt mh) 3 rfl; have ql4 := HX2.out.cell (mt mh) 4 rfl; have ql5 := HX2.out.cell (mt mh) 5 rfl; have ql6 := HX2.out.cell (mt mh) 6 rfl; have ql7 := HX2.out.cell (mt mh) 7 rfl; have ql8 := HX2.out.cell (mt mh) 8 rfl; have ql9 := HX2.out.cell (mt mh) 9 rfl; have ql10 := HX2.out.cell (mt mh) 10 rfl; clear hbox_ hb_ hg_)
    | fail)
  with_reducible refine (HF.out _ HX2.out.bel).mono ?_
  rintro e w3 ⟨rfl, hb⟩
  have HX3 := Lib.hid (HX2.out.below hb)
  clear hb ql0 ql1 ql2 ql3 ql4 ql5 ql6 ql7 ql8 ql9 ql10 HX1 HX2 HF
  cases rf with
  | false =>
    have z0 := HX3.out.cell mh 0 rfl
    have f0 := blk_frozen HX3.out.head.2 0
    have z1 := HX3.out.cell mh 1 rfl
    have f1 := blk_frozen HX3.out.head.2 1
    have z2 := HX3.out.cell mh 2 rfl
    have f2 := blk_frozen HX3.out.head.2 2
    have z3 := HX3.out.cell mh 3 rfl
    have f3 := blk_frozen HX3.out.head.2 3
    have z4 := HX3.out.cell mh 4 rfl
    have f4 := blk_frozen HX3.out.head.2 4
    have z5 := HX3.out.cell mh 5 rfl
    have f5 := blk_frozen HX3.out.head.2 5
    have z6 := HX3.out.cell mh 6 rfl
    have f6 := blk_frozen HX3.out.head.2 6
    have z7 := HX3.out.cell mh 7 rfl
    have f7 := blk_frozen HX3.out.head.2 7
    have z8 := HX3.out.cell mh 8 rfl
    have f8 := blk_frozen HX3.out.head.2 8
    have z9 := HX3.out.cell mh 9 rfl
    have f9 := blk_frozen HX3.out.head.2 9
    have z10 := HX3.out.cell mh 10 rfl
    have f10 := blk_frozen HX3.out.head.2 10
    go_wp2_with fail
    refine bodyPost_ret (results_ct rfl _ _ gr 46 #[.int .i64 0, .int .i64 0, .int .i64 0, .int .i64 0, .int .i64 0, .int .i64 0, .int .i64 0, .int .i64 0, .int .i64 0, .int .i64 0, .slice none 0 0] (0, 0) _ rfl (blk11 HX3.out.head.2) Tryz.underlying46 rfl (by kernel_rfl)) rfl ?_
    exact ⟨by with_reducible (repeat refine below_set ?_ HX3.out.head.1); with_reducible exact HX3.out.bel, (fun _ => rfl), (fun h => by cases h)⟩
  | true =>
    have ql0 := HX3.out.cell (mt mh) 0 rfl
    have ql1 := HX3.out.cell (mt mh) 1 rfl
    have ql2 := HX3.out.cell (mt mh) 2 rfl
    have ql3 := HX3.out.cell (mt mh) 3 rfl
    have ql4 := HX3.out.cell (mt mh) 4 rfl
    have ql5 := HX3.out.cell (mt mh) 5 rfl
    have ql6 := HX3.out.cell (mt mh) 6 rfl
    have ql7 := HX3.out.cell (mt mh) 7 rfl
    have ql8 := HX3.out.cell (mt mh) 8 rfl
    have ql9 := HX3.out.cell (mt mh) 9 rfl
    have ql10 := HX3.out.cell (mt mh) 10 rfl
    go_wp2_with fail
    with_reducible refine (HO.out _ HX3.out.bel).mono ?_
    intro e w4 hp
    obtain ⟨hb4, h0, h1⟩ := hp
    have HX4 := Lib.hid (HX3.out.below hb4)
    have HLt := Lib.hid (And.intro HX3.out.bel.size (show gr < w3.heap.size from HX3.out.lt mh))
    clear HX3 HO hb4 ql0 ql1 ql2 ql3 ql4 ql5 ql6 ql7 ql8 ql9 ql10
    cases r with
    | false =>
      have he := h0 rfl
      subst he
      clear h0 h1
      go_upto_region 4 with (first
        | ((with_reducible refine gate_dst (N := 4) rfl ?_); refine box_event ?hg (N := 4) ?hd (cs := #[.int .i64 0, .int .i64 0, .int .i64 0, .int .i64 0, .int .i64 0, .int .i64 0, .int .i64 0, .int .i64 0, .int .i64 0, .int .i64 0, .slice none 0 0]) (t := 46) ?hr ?_; (case hd => rfl); (case hg => rfl); (case hr => first | (go_simp; done) | (go_simp; rfl)); intro g4 hg_ w5 hbox_ hb_; have HN5 := Lib.hid (HX4.out.nes hg_); have HX5 := Lib.hid (Sr.box HX4.out hg_ hbox_ hb_); have z0 := HX5.out.cell mh 0 rfl; have f0 := blk_frozen HX5.out.head.2 0; have z1 := HX5.out.cell mh 1 rfl; have f1 := blk_frozen HX5.out.head.2 1; have z2 := HX5.out.cell mh 2 rfl; have f2 := blk_frozen HX5.out.head.2 2; have z3 := HX5.out.cell mh 3 rfl; have f3 := blk_frozen HX5.out.head.2 3; have z4 := HX5.out.cell mh 4 rfl; have f4 := blk_frozen HX5.out.head.2 4; have z5 := HX5.out.cell mh 5 rfl; have f5 := blk_frozen HX5.out.head.2 5; have z6 := HX5.out.cell mh 6 rfl; have f6 := blk_frozen HX5.out.head.2 6; have z7 := HX5.out.cell mh 7 rfl; have f7 := blk_frozen HX5.out.head.2 7; have z8 := HX5.out.cell mh 8 rfl; have f8 := blk_frozen HX5.out.head.2 8; have z9 := HX5.out.cell mh 9 rfl; have f9 := blk_frozen HX5.out.head.2 9; have z10 := HX5.out.cell mh 10 rfl; have f10 := blk_frozen HX5.out.head.2 10; clear hbox_ hb_ hg_)
        | fail)
      have HX6 := Lib.hid (show Sr w [(g4, oCfK0), (gr, oCfK0), (gl, (oCfK1 y YA nT))] (((((((((((w5.setCell ⟨g4, 0, none⟩ (.int .i64 0)).setCell ⟨g4, 1, none⟩ (.int .i64 0)).setCell ⟨g4, 2, none⟩ (.int .i64 0)).setCell ⟨g4, 3, none⟩ (.int .i64 0)).setCell ⟨g4, 4, none⟩ (.int .i64 0)).setCell ⟨g4, 5, none⟩ (.int .i64 0)).setCell ⟨g4, 6, none⟩ (.int .i64 0)).setCell ⟨g4, 7, none⟩ (.int .i64 0)).setCell ⟨g4, 8, none⟩ (.int .i64 0)).setCell ⟨g4, 9, none⟩ (.int .i64 0)).setCell ⟨g4, 10, none⟩ (.slice none 0 0)) from HX5.out.set11 HN5.out)
      skip
      clear HX5 HX4 z0 f0 z1 f1 z2 f2 z3 f3 z4 f4 z5 f5 z6 f6 z7 f7 z8 f8 z9 f9 z10 f10
      generalize (((((((((((w5.setCell ⟨g4, 0, none⟩ (.int .i64 0)).setCell ⟨g4, 1, none⟩ (.int .i64 0)).setCell ⟨g4, 2, none⟩ (.int .i64 0)).setCell ⟨g4, 3, none⟩ (.int .i64 0)).setCell ⟨g4, 4, none⟩ (.int .i64 0)).setCell ⟨g4, 5, none⟩ (.int .i64 0)).setCell ⟨g4, 6, none⟩ (.int .i64 0)).setCell ⟨g4, 7, none⟩ (.int .i64 0)).setCell ⟨g4, 8, none⟩ (.int .i64 0)).setCell ⟨g4, 9, none⟩ (.int .i64 0)).setCell ⟨g4, 10, none⟩ (.slice none 0 0)) = w6 at HX6 ⊢
      have q0 := HX6.out.cell mh 0 rfl
      have q1 := HX6.out.cell mh 1 rfl
      have q2 := HX6.out.cell mh 2 rfl
      have q3 := HX6.out.cell mh 3 rfl
      have q4 := HX6.out.cell mh 4 rfl
      have q5 := HX6.out.cell mh 5 rfl
      have q6 := HX6.out.cell mh 6 rfl
      have q7 := HX6.out.cell mh 7 rfl
      have q8 := HX6.out.cell mh 8 rfl
      have q9 := HX6.out.cell mh 9 rfl
      have q10 := HX6.out.cell mh 10 rfl
      have HXr := Lib.hid (show w.heap.size ≤ gr ∧ w6.heap[gr]? = some (.cells #[.int .i64 0, .int .i64 0, .int .i64 0, .int .i64 0, .int .i64 0, .int .i64 0, .int .i64 0, .int .i64 0, .int .i64 0, .int .i64 0, .slice none 0 0] 46 (0, 0)) from HX6.out.2 _ (mt mh))
      have z0 := HX6.out.cell (mt mh) 0 rfl
      have f0 := blk_frozen HXr.out.2 0
      have z1 := HX6.out.cell (mt mh) 1 rfl
      have f1 := blk_frozen HXr.out.2 1
      have z2 := HX6.out.cell (mt mh) 2 rfl
      have f2 := blk_frozen HXr.out.2 2
      have z3 := HX6.out.cell (mt mh) 3 rfl
      have f3 := blk_frozen HXr.out.2 3
      have z4 := HX6.out.cell (mt mh) 4 rfl
      have f4 := blk_frozen HXr.out.2 4
      have z5 := HX6.out.cell (mt mh) 5 rfl
      have f5 := blk_frozen HXr.out.2 5
      have z6 := HX6.out.cell (mt mh) 6 rfl
      have f6 := blk_frozen HXr.out.2 6
      have z7 := HX6.out.cell (mt mh) 7 rfl
      have f7 := blk_frozen HXr.out.2 7
      have z8 := HX6.out.cell (mt mh) 8 rfl
      have f8 := blk_frozen HXr.out.2 8
      have z9 := HX6.out.cell (mt mh) 9 rfl
      have f9 := blk_frozen HXr.out.2 9
      have z10 := HX6.out.cell (mt mh) 10 rfl
      have f10 := blk_frozen HXr.out.2 10
      go_wp2_with fail
      refine bodyPost_ret (results_ct rfl _ _ gr 46 #[.int .i64 0, .int .i64 0, .int .i64 0, .int .i64 0, .int .i64 0, .int .i64 0, .int .i64 0, .int .i64 0, .int .i64 0, .int .i64 0, .slice none 0 0] (0, 0) _ rfl (blk11 HXr.out.2) Tryz.underlying46 rfl (by kernel_rfl)) rfl ?_
      exact ⟨by with_reducible (repeat refine below_set ?_ HXr.out.1); with_reducible exact HX6.out.bel, (fun _ => rfl), (fun h => by cases h)⟩
    | true =>
      obtain ⟨A4, c4, he, hR4⟩ := h1 rfl
      rw [show (y.at A4 c4).v = .agg #[.int .i64 y.c0, .int .i64 y.c1, .int .i64 y.c2, .int .i64 y.c3, .int .i64 y.c4, .int .i64 y.c5, .int .i64 y.c6, .int .i64 y.c7, .int .i64 y.c8, .int .i64 y.c9, .slice A4 nT c4] from by rw [← HN.out]; rfl] at he
      subst he
      have HW := Lib.hid hR4
      clear h0 h1 hR4
      go_upto_region 4 with (first
        | ((with_reducible refine gate_dst (N := 4) rfl ?_); refine box_event ?hg (N := 4) ?hd (cs := #[.int .i64 0, .int .i64 0, .int .i64 0, .int .i64 0, .int .i64 0, .int .i64 0, .int .i64 0, .int .i64 0, .int .i64 0, .int .i64 0, .slice none 0 0]) (t := 46) ?hr ?_; (case hd => rfl); (case hg => rfl); (case hr => first | (go_simp; done) | (go_simp; rfl)); intro g4 hg_ w5 hbox_ hb_; have HW5 := Lib.hid (HW.out.below hb_); have HG5 := Lib.hid hg_; have HS5 := Lib.hid hb_.size; have HN5 := Lib.hid (HX4.out.nes hg_); have HX5 := Lib.hid (Sr.box HX4.out hg_ hbox_ hb_); have z0 := HX5.out.cell mh 0 rfl; have f0 := blk_frozen HX5.out.head.2 0; have z1 := HX5.out.cell mh 1 rfl; have f1 := blk_frozen HX5.out.head.2 1; have z2 := HX5.out.cell mh 2 rfl; have f2 := blk_frozen HX5.out.head.2 2; have z3 := HX5.out.cell mh 3 rfl; have f3 := blk_frozen HX5.out.head.2 3; have z4 := HX5.out.cell mh 4 rfl; have f4 := blk_frozen HX5.out.head.2 4; have z5 := HX5.out.cell mh 5 rfl; have f5 := blk_frozen HX5.out.head.2 5; have z6 := HX5.out.cell mh 6 rfl; have f6 := blk_frozen HX5.out.head.2 6; have z7 := HX5.out.cell mh 7 rfl; have f7 := blk_frozen HX5.out.head.2 7; have z8 := HX5.out.cell mh 8 rfl; have f8 := blk_frozen HX5.out.head.2 8; have z9 := HX5.out.cell mh 9 rfl; have f9 := blk_frozen HX5.out.head.2 9; have z10 := HX5.out.cell mh 10 rfl; have f10 := blk_frozen HX5.out.head.2 10; clear hbox_ hb_ hg_)
        | fail)
      have HX6 := Lib.hid (show Sr w [(g4, Obj.cells #[.int .i64 y.c0, .int .i64 y.c1, .int .i64 y.c2, .int .i64 y.c3, .int .i64 y.c4, .int .i64 y.c5, .int .i64 y.c6, .int .i64 y.c7, .int .i64 y.c8, .int .i64 y.c9, .slice A4 nT c4] 46), (gr, oCfK0), (gl, (oCfK1 y YA nT))] (((((((((((w5.setCell ⟨g4, 0, none⟩ (.int .i64 y.c0)).setCell ⟨g4, 1, none⟩ (.int .i64 y.c1)).setCell ⟨g4, 2, none⟩ (.int .i64 y.c2)).setCell ⟨g4, 3, none⟩ (.int .i64 y.c3)).setCell ⟨g4, 4, none⟩ (.int .i64 y.c4)).setCell ⟨g4, 5, none⟩ (.int .i64 y.c5)).setCell ⟨g4, 6, none⟩ (.int .i64 y.c6)).setCell ⟨g4, 7, none⟩ (.int .i64 y.c7)).setCell ⟨g4, 8, none⟩ (.int .i64 y.c8)).setCell ⟨g4, 9, none⟩ (.int .i64 y.c9)).setCell ⟨g4, 10, none⟩ (.slice A4 nT c4)) from HX5.out.set11 HN5.out)
      skip
      have HW6 := Lib.hid (show (y.at A4 c4).FR (((((((((((w5.setCell ⟨g4, 0, none⟩ (.int .i64 y.c0)).setCell ⟨g4, 1, none⟩ (.int .i64 y.c1)).setCell ⟨g4, 2, none⟩ (.int .i64 y.c2)).setCell ⟨g4, 3, none⟩ (.int .i64 y.c3)).setCell ⟨g4, 4, none⟩ (.int .i64 y.c4)).setCell ⟨g4, 5, none⟩ (.int .i64 y.c5)).setCell ⟨g4, 6, none⟩ (.int .i64 y.c6)).setCell ⟨g4, 7, none⟩ (.int .i64 y.c7)).setCell ⟨g4, 8, none⟩ (.int .i64 y.c8)).setCell ⟨g4, 9, none⟩ (.int .i64 y.c9)).setCell ⟨g4, 10, none⟩ (.slice A4 nT c4)) w3.heap.size w4.heap.size from by with_reducible (repeat refine Ly.FR.far ?_ (Or.inr (Nat.le_of_eq HG5.out.symm))); with_reducible exact HW5.out)
      have HLe6 := Lib.hid (show w4.heap.size ≤ ((((((((((((w5.setCell ⟨g4, 0, none⟩ (.int .i64 y.c0)).setCell ⟨g4, 1, none⟩ (.int .i64 y.c1)).setCell ⟨g4, 2, none⟩ (.int .i64 y.c2)).setCell ⟨g4, 3, none⟩ (.int .i64 y.c3)).setCell ⟨g4, 4, none⟩ (.int .i64 y.c4)).setCell ⟨g4, 5, none⟩ (.int .i64 y.c5)).setCell ⟨g4, 6, none⟩ (.int .i64 y.c6)).setCell ⟨g4, 7, none⟩ (.int .i64 y.c7)).setCell ⟨g4, 8, none⟩ (.int .i64 y.c8)).setCell ⟨g4, 9, none⟩ (.int .i64 y.c9)).setCell ⟨g4, 10, none⟩ (.slice A4 nT c4))).heap.size from by simp only [size_set]; exact HS5.out)
      clear HX5 HX4 z0 f0 z1 f1 z2 f2 z3 f3 z4 f4 z5 f5 z6 f6 z7 f7 z8 f8 z9 f9 z10 f10
      generalize (((((((((((w5.setCell ⟨g4, 0, none⟩ (.int .i64 y.c0)).setCell ⟨g4, 1, none⟩ (.int .i64 y.c1)).setCell ⟨g4, 2, none⟩ (.int .i64 y.c2)).setCell ⟨g4, 3, none⟩ (.int .i64 y.c3)).setCell ⟨g4, 4, none⟩ (.int .i64 y.c4)).setCell ⟨g4, 5, none⟩ (.int .i64 y.c5)).setCell ⟨g4, 6, none⟩ (.int .i64 y.c6)).setCell ⟨g4, 7, none⟩ (.int .i64 y.c7)).setCell ⟨g4, 8, none⟩ (.int .i64 y.c8)).setCell ⟨g4, 9, none⟩ (.int .i64 y.c9)).setCell ⟨g4, 10, none⟩ (.slice A4 nT c4)) = w6 at HX6 HW6 HLe6 ⊢
      have q0 := HX6.out.cell mh 0 rfl
      have q1 := HX6.out.cell mh 1 rfl
      have q2 := HX6.out.cell mh 2 rfl
      have q3 := HX6.out.cell mh 3 rfl
      have q4 := HX6.out.cell mh 4 rfl
      have q5 := HX6.out.cell mh 5 rfl
      have q6 := HX6.out.cell mh 6 rfl
      have q7 := HX6.out.cell mh 7 rfl
      have q8 := HX6.out.cell mh 8 rfl
      have q9 := HX6.out.cell mh 9 rfl
      have q10 := HX6.out.cell mh 10 rfl
      have HF2 := Lib.hid (show ∀ W : World, w6.heap.size ≤ W.heap.size → (y.at A4 c4).FR W w3.heap.size w4.heap.size → (y.at A4 c4).FR W w.heap.size W.heap.size from fun W hs hf => hf.less HLt.out.1 (Nat.le_trans HLe6.out hs))
      have HXr := Lib.hid (show w.heap.size ≤ gr ∧ w6.heap[gr]? = some (.cells #[.int .i64 0, .int .i64 0, .int .i64 0, .int .i64 0, .int .i64 0, .int .i64 0, .int .i64 0, .int .i64 0, .int .i64 0, .int .i64 0, .slice none 0 0] 46 (0, 0)) from HX6.out.2 _ (mt mh))
      have z0 := HX6.out.cell (mt mh) 0 rfl
      have f0 := blk_frozen HXr.out.2 0
      have z1 := HX6.out.cell (mt mh) 1 rfl
      have f1 := blk_frozen HXr.out.2 1
      have z2 := HX6.out.cell (mt mh) 2 rfl
      have f2 := blk_frozen HXr.out.2 2
      have z3 := HX6.out.cell (mt mh) 3 rfl
      have f3 := blk_frozen HXr.out.2 3
      have z4 := HX6.out.cell (mt mh) 4 rfl
      have f4 := blk_frozen HXr.out.2 4
      have z5 := HX6.out.cell (mt mh) 5 rfl
      have f5 := blk_frozen HXr.out.2 5
      have z6 := HX6.out.cell (mt mh) 6 rfl
      have f6 := blk_frozen HXr.out.2 6
      have z7 := HX6.out.cell (mt mh) 7 rfl
      have f7 := blk_frozen HXr.out.2 7
      have z8 := HX6.out.cell (mt mh) 8 rfl
      have f8 := blk_frozen HXr.out.2 8
      have z9 := HX6.out.cell (mt mh) 9 rfl
      have f9 := blk_frozen HXr.out.2 9
      have z10 := HX6.out.cell (mt mh) 10 rfl
      have f10 := blk_frozen HXr.out.2 10
      go_wp2_with fail
      refine bodyPost_ret (results_ct rfl _ _ gr 46 #[.int .i64 y.c0, .int .i64 y.c1, .int .i64 y.c2, .int .i64 y.c3, .int .i64 y.c4, .int .i64 y.c5, .int .i64 y.c6, .int .i64 y.c7, .int .i64 y.c8, .int .i64 y.c9, .slice A4 nT c4] (0, 0) _ rfl (blk11 HXr.out.2) Tryz.underlying46 rfl (by kernel_rfl)) rfl ?_
      refine ⟨by with_reducible (repeat refine below_set ?_ HXr.out.1); with_reducible exact HX6.out.bel, (fun h => by cases h), fun _ => ⟨A4, c4, by rw [← HN.out]; rfl, ?_⟩⟩
      refine HF2.out _ (by with_reducible (repeat refine size_le ?_); exact Nat.le_refl _) ?_
      with_reducible (repeat refine Ly.FR.far ?_ (Or.inl HLt.out.2))
      exact HW6.out
end Go.Proofs.YtmbnomlkhmcmaaaGreat.A
end
section
namespace Go.Proofs.YtmbnomlkhmcmaaaGreat.A
open Go.RowKit Go.Shelf Go.Proofs.YtmbnomlkhmcmaaaGreatW.PrintWords Go.Proofs.YtmbnomlkhmcmaaaGreatW.PrintLast Go.Proofs.YtmbnomlkhmcmaaaGreatW.PrintMore Go.Proofs.YtmbnomlkhmcmaaaGreat.B
set_option linter.unusedVariables false
set_option linter.unusedSimpArgs false
def firstB : List Int := [0, 0, 0, 0, 1, 0, 0, 0, 0, 2] ++ List.replicate 28 0
theorem firstB_fill : fill (bes 5 [1, 2]) 38 = firstB := by decide +kernel
theorem firstB_len : firstB.length = 38 := by decide +kernel
theorem firstB_n1 : numV (firstB.take 5) = 1 := by decide +kernel
theorem firstB_n2 : numV ((firstB.drop 5).take 5) = 2 := by decide +kernel
theorem first_dec {y : Ly} (h : y.c1 = 1) : decC y firstB = true := by
  unfold decC
  rw [firstB_n1, firstB_n2, h, show ((1 : Int) * 38).toNat = 38 from rfl, firstB_fill, show okC 1 2 = true by decide +kernel]
  unfold eqB
  simp
theorem first_enc {y : Ly} (h : y.c1 = 1) : fill (bes 5 [1, 2]) (y.c1 * 38).toNat = firstB := by
  rw [h]
  exact firstB_fill
end Go.Proofs.YtmbnomlkhmcmaaaGreat.A
end
