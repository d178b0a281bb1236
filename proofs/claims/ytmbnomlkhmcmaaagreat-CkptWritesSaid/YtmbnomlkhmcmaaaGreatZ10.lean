/- Part of the proof of LawCkptWrites. -/
import Derived.Test.YtmbnomlkhmcmaaaGreatZ9
section
namespace Go.Proofs.YtmbnomlkhmcmaaaGreat.A
open Go.RowKit Go.Shelf Go.Proofs.YtmbnomlkhmcmaaaGreatW.PrintWords Go.Proofs.YtmbnomlkhmcmaaaGreatW.PrintLast Go.Proofs.YtmbnomlkhmcmaaaGreatW.PrintMore Go.Proofs.YtmbnomlkhmcmaaaGreat.C Go.Proofs.YtmbnomlkhmcmaaaGreat.Z
set_option linter.unusedVariables false
set_option linter.unusedSimpArgs false
theorem MayCommitQ_r (s e0 : Int) (r : Bool) (hr : okC s e0 = r) (w : World) : Calls Tryz.prog 76 #[.agg #[.int .i64 s, .int .i64 e0]] w fun e w' => e = .returned (.bool r) ∧ Below w.heap.size w w' := hr ▸ MayCommitQ_call s e0 w
abbrev Cq := S141
abbrev Eq' := S143
structure Dq where
 (s e : Int)
 (L : List Int) (P : List Cq) (D : List Eq') (K : List Bq)
 (LA PA DA KA : Option Addr) (Lc Pc Dc Kc : Nat)
abbrev Dq.v (d : Dq) : Value := .agg #[.int .i64 d.s, .int .i64 d.e, .slice d.LA d.L.length d.Lc, .slice d.PA d.P.length d.Pc, .slice d.DA d.D.length d.Dc, .slice d.KA d.K.length d.Kc]
structure Dq.R (d : Dq) (w : World) : Prop where
 rl : Kd.C (Kd.int .i64) w d.LA d.L.length d.L
 rp : Kd.C k141 w d.PA d.P.length d.P
 rd : Kd.C k143 w d.DA d.D.length d.D
 rk : Kd.C k214 w d.KA d.K.length d.K
theorem Dq.R.below {d : Dq} {w W : World} (hd : d.R w) (hb : Below w.heap.size w W) : d.R W := ⟨Kd.C_below hd.rl hb, Kd.C_below hd.rp hb, Kd.C_below hd.rd hb, Kd.C_below hd.rk hb⟩
def cqOk (y : Ly) (p : Cq) : Bool := amB p.f0 (y.c2 - 1) && plB y p.f1.f0 p.f1.f1
def dqOk (y : Ly) (x : Eq') : Bool := enB y x.f1.f0 x.f1.f1
def okDQ (y : Ly) (d : Dq) : Bool := lfB y d.L && (d.P.all (cqOk y) && (d.D.all (dqOk y) && ((decide ((d.L.length : Int) ≤ y.slots) && (decide ((d.P.length : Int) ≤ y.slots) && decide ((d.D.length : Int) ≤ y.c5))) && (okC d.s d.e && (risB (d.P.map (·.f0)) && (risS (d.D.map (·.f1.f0)) && stQ y d.K))))))
theorem okDQ_iff {y : Ly} {d : Dq} : okDQ y d = true ↔ lfB y d.L = true ∧ d.P.all (cqOk y) = true ∧ d.D.all (dqOk y) = true ∧ ((d.L.length : Int) ≤ y.slots ∧ (d.P.length : Int) ≤ y.slots ∧ (d.D.length : Int) ≤ y.c5) ∧ okC d.s d.e = true ∧ risB (d.P.map (·.f0)) = true ∧ risS (d.D.map (·.f1.f0)) = true ∧ stQ y d.K = true := by
 unfold okDQ
 simp only [Bool.and_eq_true, decide_eq_true_eq]
theorem no_of {b : Bool} (h : b = true → False) : b = false := by cases b with | false => rfl | true => exact (h rfl).elim
theorem ris_snoc {l : List Int} {k : Nat} (h : ∀ j, j + 1 < k → l.getD j 0 < l.getD (j + 1) 0) (h2 : ∀ m, k = m + 1 → l.getD m 0 < l.getD k 0) : ∀ j, j + 1 < k + 1 → l.getD j 0 < l.getD (j + 1) 0 := fun j hj => by
 by_cases e : j + 1 < k
 ·exact h j e
 ·obtain rfl : k = j + 1 := by omega
  exact h2 j rfl
theorem risS_snoc {l : List ByteArray} {k : Nat} (h : ∀ j, j + 1 < k → ltS (l.getD j ByteArray.empty) (l.getD (j + 1) ByteArray.empty) = true) (h2 : ∀ m, k = m + 1 → ltS (l.getD m ByteArray.empty) (l.getD k ByteArray.empty) = true) : ∀ j, j + 1 < k + 1 → ltS (l.getD j ByteArray.empty) (l.getD (j + 1) ByteArray.empty) = true := fun j hj => by
 by_cases e : j + 1 < k
 ·exact h j e
 ·obtain rfl : k = j + 1 := by omega
  exact h2 j rfl
abbrev oRfG0 (q : Dq) (LA : Option Addr) (nL : Nat) (PA : Option Addr) (nP : Nat) (DA : Option Addr) (nD : Nat) (nK : Nat) : Obj := Obj.cells #[.int .i64 q.s, .int .i64 q.e, .slice LA nL q.Lc, .slice PA nP q.Pc, .slice DA nD q.Dc, .slice q.KA nK q.Kc] 68
abbrev sRfG1 (gd : Nat) (q : Dq) (LA : Option Addr) (nL : Nat) (PA : Option Addr) (nP : Nat) (DA : Option Addr) (nD : Nat) (nK : Nat) (gl : Nat) (y : Ly) : World → Prop := fun w' => w'.cell? ⟨gd, 0, none⟩ = some (.int .i64 q.s) ∧ w'.cell? ⟨gd, 1, none⟩ = some (.int .i64 q.e) ∧ w'.cell? ⟨gd, 2, none⟩ = some (.slice LA nL q.Lc) ∧ w'.cell? ⟨gd, 3, none⟩ = some (.slice PA nP q.Pc) ∧ w'.cell? ⟨gd, 4, none⟩ = some (.slice DA nD q.Dc) ∧ w'.cell? ⟨gd, 5, none⟩ = some (.slice q.KA nK q.Kc) ∧ w'.cell? ⟨gl, 0, none⟩ = some (.int .i64 y.c0) ∧ w'.cell? ⟨gl, 1, none⟩ = some (.int .i64 y.c1) ∧ w'.cell? ⟨gl, 2, none⟩ = some (.int .i64 y.c2) ∧ w'.cell? ⟨gl, 3, none⟩ = some (.int .i64 y.c3) ∧ w'.cell? ⟨gl, 4, none⟩ = some (.int .i64 y.c4) ∧ w'.cell? ⟨gl, 5, none⟩ = some (.int .i64 y.c5) ∧ w'.cell? ⟨gl, 6, none⟩ = some (.int .i64 y.c6) ∧ w'.cell? ⟨gl, 7, none⟩ = some (.int .i64 y.c7) ∧ w'.cell? ⟨gl, 8, none⟩ = some (.int .i64 y.c8) ∧ w'.cell? ⟨gl, 9, none⟩ = some (.int .i64 y.c9) ∧ w'.cell? ⟨gl, 10, none⟩ = some (.slice y.A y.l.length y.cap)
abbrev sRfG2 (wr : World) (id : Int) (lf : Int) (tg : Int) (gl : Nat) (y : Ly) (gd : Nat) (ad : Addr) (nP : Nat) (q : Dq) : World → Prop := fun w' => w'.cell? ⟨wr.heap.size, 0, none⟩ = some (.int .i64 id) ∧ w'.cell? ⟨wr.heap.size, 1, none⟩ = some (.int .i64 lf) ∧ w'.cell? ⟨wr.heap.size, 2, none⟩ = some (.int .i64 tg) ∧ w'.cell? ⟨gl, 0, none⟩ = some (.int .i64 y.c0) ∧ w'.cell? ⟨gl, 1, none⟩ = some (.int .i64 y.c1) ∧ w'.cell? ⟨gl, 2, none⟩ = some (.int .i64 y.c2) ∧ w'.cell? ⟨gl, 3, none⟩ = some (.int .i64 y.c3) ∧ w'.cell? ⟨gl, 4, none⟩ = some (.int .i64 y.c4) ∧ w'.cell? ⟨gl, 5, none⟩ = some (.int .i64 y.c5) ∧ w'.cell? ⟨gl, 6, none⟩ = some (.int .i64 y.c6) ∧ w'.cell? ⟨gl, 7, none⟩ = some (.int .i64 y.c7) ∧ w'.cell? ⟨gl, 8, none⟩ = some (.int .i64 y.c8) ∧ w'.cell? ⟨gl, 9, none⟩ = some (.int .i64 y.c9) ∧ w'.cell? ⟨gl, 10, none⟩ = some (.slice y.A y.l.length y.cap) ∧ w'.cell? ⟨gd, 3, none⟩ = some (.slice (some ad) nP q.Pc)
set_option maxHeartbeats 16000000 in
set_option maxRecDepth 100000 in
theorem MayDeltaQ_call {y : Ly} {w : World} (hy : y.R w) (ok : y.Ok) (q : Dq) (hd : q.R w) (hL : q.L.length ≤ 300) (hP : q.P.length ≤ 300) (hD : q.D.length ≤ 300) (hK : q.K.length ≤ 300) (hKc : q.K.length ≤ q.Kc) :
  Calls Tryz.prog 64 #[y.v, q.v] w fun e w' => e = .returned (.bool (okDQ y q)) ∧ Below w.heap.size w w' := by
 have HY := Lib.hid hy
 have HK := Lib.hid ok
 have HD := Lib.hid hd
 have H3 := Lib.hid (And.intro hL (And.intro hP (And.intro hD (And.intro hK hKc))))
 obtain ⟨nL, hnL⟩ : ∃ n, q.L.length = n := ⟨_, rfl⟩
 obtain ⟨nP, hnP⟩ : ∃ n, q.P.length = n := ⟨_, rfl⟩
 obtain ⟨nD, hnD⟩ : ∃ n, q.D.length = n := ⟨_, rfl⟩
 obtain ⟨nK, hnK⟩ : ∃ n, q.K.length = n := ⟨_, rfl⟩
 obtain ⟨LA, hLA⟩ : ∃ p, q.LA = p := ⟨_, rfl⟩
 obtain ⟨PA, hPA⟩ : ∃ p, q.PA = p := ⟨_, rfl⟩
 obtain ⟨DA, hDA⟩ : ∃ p, q.DA = p := ⟨_, rfl⟩
 have HRL := Lib.hid (show Kd.C (Kd.int .i64) w LA q.L.length q.L from hLA ▸ hd.rl)
 have HRP := Lib.hid (show Kd.C k141 w PA q.P.length q.P from hPA ▸ hd.rp)
 have HRD := Lib.hid (show Kd.C k143 w DA q.D.length q.D from hDA ▸ hd.rd)
 have NL := Lib.hid hnL
 have NP := Lib.hid hnP
 have ND := Lib.hid hnD
 have NK := Lib.hid hnK
 show Calls _ _ #[y.v, .agg #[.int .i64 q.s, .int .i64 q.e, .slice q.LA q.L.length q.Lc, .slice q.PA q.P.length q.Pc, .slice q.DA q.D.length q.Dc, .slice q.KA q.K.length q.Kc]] _ _
 rw [hnL, hnP, hnD, hnK, hLA, hPA, hDA]
 clear hy ok hd hL hP hD hK hKc hnL hnP hnD hnK hLA hPA hDA
 go_enter Tryz.func64, Tryz.ntmps64
 go_upto_region 1 with (first
  | ((with_reducible refine gate_dst (N := 2) rfl ?_); refine box_event ?hg (N := 2) ?hd (cs := #[.int .i64 y.c0, .int .i64 y.c1, .int .i64 y.c2, .int .i64 y.c3, .int .i64 y.c4, .int .i64 y.c5, .int .i64 y.c6, .int .i64 y.c7, .int .i64 y.c8, .int .i64 y.c9, .slice y.A y.l.length y.cap]) (t := 24) ?hr ?_; (case hd => rfl); (case hg => rfl); (case hr => first | (go_simp; done) | (go_simp; rfl)); intro gl hg_ w1 hbox_ hb_; have HX1 := Lib.hid (Sr.box (Sr.nil w) hg_ hbox_ hb_); clear hbox_ hb_ hg_)
  | ((with_reducible refine gate_dst (N := 3) rfl ?_); refine box_event ?hg (N := 3) ?hd (cs := #[.int .i64 q.s, .int .i64 q.e, .slice LA nL q.Lc, .slice PA nP q.Pc, .slice DA nD q.Dc, .slice q.KA nK q.Kc]) (t := 68) ?hr ?_; (case hd => rfl); (case hg => rfl); (case hr => first | (go_simp; done) | (go_simp; rfl)); intro gd hg_ w2 hbox_ hb_; have HX2 := Lib.hid (Sr.box HX1.out hg_ hbox_ hb_); clear hbox_ hb_ hg_)
  | fail)
 have HS : ∀ w', Sr w [(gd, (oRfG0 q LA nL PA nP DA nD nK)), (gl, y.cobj)] w' → w'.cell? ⟨gd, 0, none⟩ = some (.int .i64 q.s) ∧ w'.cell? ⟨gd, 1, none⟩ = some (.int .i64 q.e) ∧ w'.cell? ⟨gd, 2, none⟩ = some (.slice LA nL q.Lc) ∧ w'.cell? ⟨gd, 3, none⟩ = some (.slice PA nP q.Pc) ∧ w'.cell? ⟨gd, 4, none⟩ = some (.slice DA nD q.Dc) ∧ w'.cell? ⟨gd, 5, none⟩ = some (.slice q.KA nK q.Kc) ∧ w'.cell? ⟨gl, 0, none⟩ = some (.int .i64 y.c0) ∧ w'.cell? ⟨gl, 1, none⟩ = some (.int .i64 y.c1) ∧ w'.cell? ⟨gl, 2, none⟩ = some (.int .i64 y.c2) ∧ w'.cell? ⟨gl, 3, none⟩ = some (.int .i64 y.c3) ∧ w'.cell? ⟨gl, 4, none⟩ = some (.int .i64 y.c4) ∧ w'.cell? ⟨gl, 5, none⟩ = some (.int .i64 y.c5) ∧ w'.cell? ⟨gl, 6, none⟩ = some (.int .i64 y.c6) ∧ w'.cell? ⟨gl, 7, none⟩ = some (.int .i64 y.c7) ∧ w'.cell? ⟨gl, 8, none⟩ = some (.int .i64 y.c8) ∧ w'.cell? ⟨gl, 9, none⟩ = some (.int .i64 y.c9) ∧ w'.cell? ⟨gl, 10, none⟩ = some (.slice y.A y.l.length y.cap) := fun w' h => ⟨h.cell mh 0 rfl, h.cell mh 1 rfl, h.cell mh 2 rfl, h.cell mh 3 rfl, h.cell mh 4 rfl, h.cell mh 5 rfl, h.cell (mt mh) 0 rfl, h.cell (mt mh) 1 rfl, h.cell (mt mh) 2 rfl, h.cell (mt mh) 3 rfl, h.cell (mt mh) 4 rfl, h.cell (mt mh) 5 rfl, h.cell (mt mh) 6 rfl, h.cell (mt mh) 7 rfl, h.cell (mt mh) 8 rfl, h.cell (mt mh) 9 rfl, h.cell (mt mh) 10 rfl⟩
 obtain ⟨b1, hb1⟩ : ∃ b, okC q.s q.e = b := ⟨_, rfl⟩
 have B1 := Lib.hid hb1
 clear hb1
 cases b1 with
 | false =>
  as_aux_lemma =>
   refine stq 35 0 (sRfG1 gd q LA nL PA nP DA nD nK gl y) (HS _ (HX2.out.below (drewB _))) (fun hHeld => ?_)
   refine pq 0 10 35 1 ?_
   refine tq 1 11 35 3 hHeld ?_
   refine oq 2 12 35 7 (fun K hK => ?_)
   refine gq Tryz.func76 #[.agg #[.int .i64 q.s, .int .i64 q.e]] ?_
   with_reducible refine ((MayCommitQ_r q.s q.e _ B1.out _)).mono ?_
   rintro e wa ⟨rfl, hb_⟩
   refine ⟨_, rfl, ?_⟩
   have HA1 := Lib.hid (Sr.below (HX2.out.below (drewB _)) hb_)
   clear hb_
   refine hK.out _ _ (HS _ HA1.out) (fun hHeld => ?_)
   clear hK K
   refine nx 12 ?_
   refine pq 3 13 35 15 ?_
   refine pq 4 14 35 31 ?_
   refine pqo 5 15 35 63 ?_
   refine pqo 6 16 35 127 ?_
   refine pqo 7 17 35 255 ?_
   refine pqo 8 18 35 511 ?_
   refine pqo 9 19 35 1023 ?_
   refine pqo 10 20 35 2047 ?_
   refine pq 11 21 35 4095 ?_
   refine pq 12 22 35 8191 ?_
   refine pqo 13 23 35 16383 ?_
   refine pqo 14 24 35 32767 ?_
   refine pqo 15 25 35 65535 ?_
   refine pqo 16 26 35 131071 ?_
   refine pqo 17 27 35 262143 ?_
   refine pqo 18 28 35 524287 ?_
   refine pq 19 29 35 1048575 ?_
   refine pq 20 30 35 2097151 ?_
   refine pqo 21 31 35 4194303 ?_
   refine pqo 22 32 35 8388607 ?_
   refine pqo 23 33 35 16777215 ?_
   refine pqo 24 34 35 33554431 ?_
   refine pqo 25 35 35 67108863 ?_
   refine pqo 26 36 35 134217727 ?_
   refine pq 27 37 35 268435455 ?_
   refine pq 28 38 35 536870911 ?_
   refine pqo 29 39 35 1073741823 ?_
   refine pqo 30 40 35 2147483647 ?_
   refine pqo 31 41 35 4294967295 ?_
   refine pqo 32 42 35 8589934591 ?_
   refine pqo 33 43 35 17179869183 ?_
   refine pq 34 44 35 34359738367 ?_
   refine done_ (by kernel_rfl) ?_
   have HV := Lib.hid (show okDQ y q = false from no_of fun h => by
    obtain ⟨h1, h2, h3, ⟨h4, h5, h6⟩, h7, h8, h9, h10⟩ := okDQ_iff.1 h
    rw [B1.out] at h7; cases h7)
   go_wp2_with fail
   go_ret
   exact ⟨by rw [HV.out]; rfl, HA1.out.bel⟩
 | true =>
  by_cases c2 : (nL : Int) ≤ y.slots
  ·have e2 : decide (y.slots < (nL : Int)) = false := decide_eq_false (by omega)
   by_cases c3 : (nP : Int) ≤ y.slots
   ·have e3 : decide (y.slots < (nP : Int)) = false := decide_eq_false (by omega)
    by_cases c4 : (nD : Int) ≤ y.c5
    ·have e4 : decide (y.c5 < (nD : Int)) = false := decide_eq_false (by omega)
     obtain ⟨b5, hb5⟩ : ∃ b, stQ y q.K = b := ⟨_, rfl⟩
     have B5 := Lib.hid hb5
     clear hb5
     cases b5 with
     | false =>
      as_aux_lemma =>
       refine stq 35 0 (sRfG1 gd q LA nL PA nP DA nD nK gl y) (HS _ (HX2.out.below (drewB _))) (fun hHeld => ?_)
       refine pq 0 10 35 1 ?_
       refine tq 1 11 35 3 hHeld ?_
       refine oq 2 12 35 7 (fun K hK => ?_)
       refine gq Tryz.func76 #[.agg #[.int .i64 q.s, .int .i64 q.e]] ?_
       with_reducible refine ((MayCommitQ_r q.s q.e _ B1.out _)).mono ?_
       rintro e wa ⟨rfl, hb_⟩
       refine ⟨_, rfl, ?_⟩
       have HA1 := Lib.hid (Sr.below (HX2.out.below (drewB _)) hb_)
       clear hb_
       refine hK.out _ _ (HS _ HA1.out) (fun hHeld => ?_)
       clear hK K
       refine nx 12 ?_
       refine pq 3 13 35 15 ?_
       refine pq 4 14 35 31 ?_
       refine pq 5 15 35 63 ?_
       refine tq 6 16 35 127 hHeld ?_
       refine pq 7 17 35 255 ?_
       refine tq 8 18 35 511 hHeld ?_
       refine oq 9 19 35 1023 (fun K hK => ?_)
       refine gq Tryz.func65 #[y.v] ?_
       with_reducible refine ((SlotsQ_call (HY.out.below HA1.out.bel) HK.out)).mono ?_
       rintro e wb ⟨rfl, hb_⟩
       refine ⟨_, rfl, ?_⟩
       have HA2 := Lib.hid (HA1.out.below hb_)
       clear hb_
       refine hK.out _ _ (HS _ HA2.out) (fun hHeld => ?_)
       clear hK K
       refine nx 19 ?_
       refine pq 10 20 35 2047 ?_
       refine pq 11 21 35 4095 ?_
       refine pq 12 22 35 8191 ?_
       refine pq 13 23 35 16383 ?_
       refine tq 14 24 35 32767 hHeld ?_
       refine pq 15 25 35 65535 ?_
       refine tq 16 26 35 131071 hHeld ?_
       refine oq 17 27 35 262143 (fun K hK => ?_)
       refine gq Tryz.func65 #[y.v] ?_
       with_reducible refine ((SlotsQ_call (HY.out.below HA2.out.bel) HK.out)).mono ?_
       rintro e wc ⟨rfl, hb_⟩
       refine ⟨_, rfl, ?_⟩
       have HA3 := Lib.hid (HA2.out.below hb_)
       clear hb_
       refine hK.out _ _ (HS _ HA3.out) (fun hHeld => ?_)
       clear hK K
       refine nx 27 ?_
       refine pq 18 28 35 524287 ?_
       refine pq 19 29 35 1048575 ?_
       refine pq 20 30 35 2097151 ?_
       refine pq 21 31 35 4194303 ?_
       refine pq 24 34 35 20971519 ?_
       refine tq 22 32 35 25165823 hHeld ?_
       refine pq 23 33 35 33554431 ?_
       refine tq 25 35 35 67108863 hHeld ?_
       refine pq 26 36 35 134217727 ?_
       refine pq 27 37 35 268435455 ?_
       refine pq 28 38 35 536870911 ?_
       refine pq 30 40 35 1610612735 ?_
       refine tq 29 39 35 2147483647 hHeld ?_
       refine tq 31 41 35 4294967295 hHeld ?_
       refine oq 32 42 35 8589934591 (fun K hK => ?_)
       refine gq Tryz.func138 #[y.v, .slice q.KA nK q.Kc] ?_
       with_reducible refine ((mayStashQ_call (HY.out.below HA3.out.bel) q.KA nK q.Kc q.K NK.out (Kd.C_below HD.out.rk HA3.out.bel) H3.out.2.2.2.2 H3.out.2.2.2.1 _ B5.out)).mono ?_
       rintro e wd ⟨rfl, hb_⟩
       refine ⟨_, rfl, ?_⟩
       have HA4 := Lib.hid (HA3.out.below hb_)
       clear hb_
       refine hK.out _ _ (HS _ HA4.out) (fun hHeld => ?_)
       clear hK K
       refine nx 42 ?_
       refine pq 33 43 35 17179869183 ?_
       refine pq 34 44 35 34359738367 ?_
       refine done_ (by kernel_rfl) ?_
       have HV := Lib.hid (show okDQ y q = false from no_of fun h => by
        obtain ⟨h1, h2, h3, ⟨h4, h5, h6⟩, h7, h8, h9, h10⟩ := okDQ_iff.1 h
        rw [B5.out] at h10; cases h10)
       go_wp2_with fail
       go_ret
       exact ⟨by rw [HV.out]; rfl, HA4.out.bel⟩
     | true =>
      refine stq 35 0 (sRfG1 gd q LA nL PA nP DA nD nK gl y) (HS _ (HX2.out.below (drewB _))) (fun hHeld => ?_)
      refine pq 0 10 35 1 ?_
      refine tq 1 11 35 3 hHeld ?_
      refine oq 2 12 35 7 (fun K hK => ?_)
      refine gq Tryz.func76 #[.agg #[.int .i64 q.s, .int .i64 q.e]] ?_
      with_reducible refine ((MayCommitQ_r q.s q.e _ B1.out _)).mono ?_
      rintro e wa ⟨rfl, hb_⟩
      refine ⟨_, rfl, ?_⟩
      have HA1 := Lib.hid (Sr.below (HX2.out.below (drewB _)) hb_)
      clear hb_
      refine hK.out _ _ (HS _ HA1.out) (fun hHeld => ?_)
      clear hK K
      refine nx 12 ?_
      refine pq 3 13 35 15 ?_
      refine pq 4 14 35 31 ?_
      refine pq 5 15 35 63 ?_
      refine tq 6 16 35 127 hHeld ?_
      refine pq 7 17 35 255 ?_
      refine tq 8 18 35 511 hHeld ?_
      refine oq 9 19 35 1023 (fun K hK => ?_)
      refine gq Tryz.func65 #[y.v] ?_
      with_reducible refine ((SlotsQ_call (HY.out.below HA1.out.bel) HK.out)).mono ?_
      rintro e wb ⟨rfl, hb_⟩
      refine ⟨_, rfl, ?_⟩
      have HA2 := Lib.hid (HA1.out.below hb_)
      clear hb_
      refine hK.out _ _ (HS _ HA2.out) (fun hHeld => ?_)
      clear hK K
      refine nx 19 ?_
      refine pq 10 20 35 2047 ?_
      refine pq 11 21 35 4095 ?_
      refine pq 12 22 35 8191 ?_
      refine pq 13 23 35 16383 ?_
      refine tq 14 24 35 32767 hHeld ?_
      refine pq 15 25 35 65535 ?_
      refine tq 16 26 35 131071 hHeld ?_
      refine oq 17 27 35 262143 (fun K hK => ?_)
      refine gq Tryz.func65 #[y.v] ?_
      with_reducible refine ((SlotsQ_call (HY.out.below HA2.out.bel) HK.out)).mono ?_
      rintro e wc ⟨rfl, hb_⟩
      refine ⟨_, rfl, ?_⟩
      have HA3 := Lib.hid (HA2.out.below hb_)
      clear hb_
      refine hK.out _ _ (HS _ HA3.out) (fun hHeld => ?_)
      clear hK K
      refine nx 27 ?_
      refine pq 18 28 35 524287 ?_
      refine pq 19 29 35 1048575 ?_
      refine pq 20 30 35 2097151 ?_
      refine pq 21 31 35 4194303 ?_
      refine pq 24 34 35 20971519 ?_
      refine tq 22 32 35 25165823 hHeld ?_
      refine pq 23 33 35 33554431 ?_
      refine tq 25 35 35 67108863 hHeld ?_
      refine pq 26 36 35 134217727 ?_
      refine pq 27 37 35 268435455 ?_
      refine pq 28 38 35 536870911 ?_
      refine pq 30 40 35 1610612735 ?_
      refine tq 29 39 35 2147483647 hHeld ?_
      refine tq 31 41 35 4294967295 hHeld ?_
      refine oq 32 42 35 8589934591 (fun K hK => ?_)
      refine gq Tryz.func138 #[y.v, .slice q.KA nK q.Kc] ?_
      with_reducible refine ((mayStashQ_call (HY.out.below HA3.out.bel) q.KA nK q.Kc q.K NK.out (Kd.C_below HD.out.rk HA3.out.bel) H3.out.2.2.2.2 H3.out.2.2.2.1 _ B5.out)).mono ?_
      rintro e wd ⟨rfl, hb_⟩
      refine ⟨_, rfl, ?_⟩
      have HA4 := Lib.hid (HA3.out.below hb_)
      clear hb_
      refine hK.out _ _ (HS _ HA4.out) (fun hHeld => ?_)
      clear hK K
      refine nx 42 ?_
      refine pq 33 43 35 17179869183 ?_
      refine pq 34 44 35 34359738367 ?_
      refine done_ (by kernel_rfl) ?_
      have G4 := Lib.hid (show ((q.L.length : Int) ≤ y.slots ∧ (q.P.length : Int) ≤ y.slots ∧ (q.D.length : Int) ≤ y.c5) by rw [NL.out, NP.out, ND.out]; exact ⟨c2, c3, c4⟩)
      clear e2 e3 e4 c2 c3 c4
      have HL0 := Lib.hid (show Sr w [(gd, (oRfG0 q LA nL PA nP DA nD nK)), (gl, y.cobj)] wd from HA4.out)
      clear HS HX2 HX1
      go_wp2_with fail
      go_loopw [5] (fun i wr => ∃ k : Nat, k ≤ nL ∧ i = .int .i64 k ∧ Hid ((q.L.take k).all (fun n => amB n (y.lv - 1)) = true) ∧ Hid (Sr w [(gd, (oRfG0 q LA nL PA nP DA nD nK)), (gl, y.cobj)] wr)) (fun i _ => nL - (intOf i).toNat)
      case atStart =>
       exact ⟨0, Nat.zero_le _, rfl, (by simp : _ = true), HL0⟩
      case round =>
       clear HL0
       obtain ⟨k, hk, rfl, HR, HS0⟩ := hrel
       have qd2 := HS0.out.cell mh 2 rfl
       by_cases hlt : k < nL
       ·obtain ⟨ad, rfl, hcell⟩ := (Kd.reads_of_C (d := (0 : Int)) HRL.out).2.2 (by have := NL.out; omega)
        have hq := hcell k (by have := NL.out; omega)
        obtain ⟨n, hn⟩ : ∃ n, q.L[k]? = some n := ⟨q.L[k]'(by have := NL.out; omega), List.getElem?_eq_getElem _⟩
        have hnd : q.L.getD k 0 = n := by simp [List.getD_eq_getElem?_getD, hn]
        rw [hnd] at hq
        have HQ := Lib.hid hq
        have HDr := Lib.hid (show q.L.take (k + 1) = q.L.take k ++ [n] by rw [List.take_add_one, hn]; rfl)
        have HMm := Lib.hid (List.mem_of_getElem? hn)
        clear hcell hnd hn hq
        have HS6 : ∀ w', Sr w [(gd, Obj.cells #[.int .i64 q.s, .int .i64 q.e, .slice (some ad) nL q.Lc, .slice PA nP q.Pc, .slice DA nD q.Dc, .slice q.KA nK q.Kc] 68), (gl, y.cobj)] w' → w'.cell? ⟨gd, 2, none⟩ = some (.slice (some ad) nL q.Lc) ∧ w'.cell? ⟨gl, 0, none⟩ = some (.int .i64 y.c0) ∧ w'.cell? (ad.add k) = some (.int .i64 n) := fun w' h => ⟨h.cell mh 2 rfl, h.cell (mt mh) 0 rfl, (h.bel.cell (World.block_lt_of_cell? w _ HQ.out)).trans HQ.out⟩
        obtain ⟨b1, hb1⟩ : ∃ b, amB n (y.lv - 1) = b := ⟨_, rfl⟩
        have B1' := Lib.hid hb1
        have c0 : (0 : Int) ≤ (k : Int) := by omega
        clear hb1
        go_upto_region 6 with fail
        clear qd2
        cases b1 with
        | true =>
         refine stq 9 0 (fun w' => w'.cell? ⟨gd, 2, none⟩ = some (.slice (some ad) nL q.Lc) ∧ w'.cell? ⟨gl, 0, none⟩ = some (.int .i64 y.c0) ∧ w'.cell? (ad.add k) = some (.int .i64 n)) (HS6 _ (HS0.out.below (drewB _))) (fun hHeld => ?_)
         refine pq 0 52 9 1 ?_
         refine pq 2 54 9 5 ?_
         refine pq 4 56 9 21 ?_
         refine tq 1 53 9 23 hHeld ?_
         refine tq 3 55 9 31 hHeld ?_
         refine pq 5 57 9 63 ?_
         refine tq 6 58 9 127 hHeld ?_
         refine oq 7 59 9 255 (fun K hK => ?_)
         refine gq Tryz.func150 #[.int .i64 y.c0, .int .i64 n] ?_
         with_reducible refine ((MayLeaf_call HK.out n _ B1'.out _)).mono ?_
         rintro e wl ⟨rfl, hb_⟩
         refine ⟨_, rfl, ?_⟩
         have HS4 := Lib.hid (Sr.below (HS0.out.below (drewB _)) hb_)
         clear hb_
         refine hK.out _ _ (HS6 _ HS4.out) (fun hHeld => ?_)
         clear hK K
         refine nx 59 ?_
         refine pq 8 60 9 511 ?_
         refine done_ (by kernel_rfl) ?_
         go_wp2_with fail
         have ek : wrap64 ((k : Int) + 1) = ((k + 1 : Nat) : Int) := by have h1 := H3.out; have h2 := NL.out; rw [wr64 (by omega) (by omega)]; omega
         rw [ek]
         refine ⟨⟨k + 1, by omega, rfl, all_take _ HDr.out HR.out B1'.out, HS4⟩, ?_⟩
         simp only [intOf]
         omega
        | false =>
         refine stq 9 0 (fun w' => w'.cell? ⟨gd, 2, none⟩ = some (.slice (some ad) nL q.Lc) ∧ w'.cell? ⟨gl, 0, none⟩ = some (.int .i64 y.c0) ∧ w'.cell? (ad.add k) = some (.int .i64 n)) (HS6 _ (HS0.out.below (drewB _))) (fun hHeld => ?_)
         refine pq 0 52 9 1 ?_
         refine pq 2 54 9 5 ?_
         refine pq 4 56 9 21 ?_
         refine tq 1 53 9 23 hHeld ?_
         refine tq 3 55 9 31 hHeld ?_
         refine pq 5 57 9 63 ?_
         refine tq 6 58 9 127 hHeld ?_
         refine oq 7 59 9 255 (fun K hK => ?_)
         refine gq Tryz.func150 #[.int .i64 y.c0, .int .i64 n] ?_
         with_reducible refine ((MayLeaf_call HK.out n _ B1'.out _)).mono ?_
         rintro e wl ⟨rfl, hb_⟩
         refine ⟨_, rfl, ?_⟩
         have HS4 := Lib.hid (Sr.below (HS0.out.below (drewB _)) hb_)
         clear hb_
         refine hK.out _ _ (HS6 _ HS4.out) (fun hHeld => ?_)
         clear hK K
         refine nx 59 ?_
         refine pq 8 60 9 511 ?_
         refine done_ (by kernel_rfl) ?_
         have HV := Lib.hid (show okDQ y q = false from no_of fun h => by
          obtain ⟨h1, h2, h3, ⟨h4, h5, h6⟩, h7, h8, h9, h10⟩ := okDQ_iff.1 h
          have := all_no (fun n => amB n (y.lv - 1)) HMm.out B1'.out; unfold lfB at h1; rw [this] at h1; cases h1)
         go_wp2_with fail
         go_ret
         exact ⟨by rw [HV.out]; rfl, HS4.out.bel⟩
       ·obtain rfl : nL = k := by omega
        have HLf := Lib.hid (show lfB y q.L = true by unfold lfB; have h := HR.out; rwa [← NL.out, List.take_length] at h)
        clear HR
        go_wp2_with fail
        clear qd2
        have HL1 := Lib.hid (show Sr w [(gd, (oRfG0 q LA nL PA nP DA nD nK)), (gl, y.cobj)] wr from HS0.out)
        clear HS0
        go_loopw [6] (fun i wr => ∃ k : Nat, k ≤ nP ∧ i = .int .i64 k ∧ Hid ((q.P.take k).all (cqOk y) = true) ∧ Hid (∀ j, j + 1 < k → (q.P.map (·.f0)).getD j 0 < (q.P.map (·.f0)).getD (j + 1) 0) ∧ Hid (Sr w [(gd, (oRfG0 q LA nL PA nP DA nD nK)), (gl, y.cobj)] wr)) (fun i _ => nP - (intOf i).toNat)
        case atStart =>
         exact ⟨0, Nat.zero_le _, rfl, (by simp : _ = true), fun j hj => by omega, HL1⟩
        case round =>
         clear HL1
         obtain ⟨k, hk, rfl, HR, HI, HS0⟩ := hrel
         have qd3 := HS0.out.cell mh 3 rfl
         by_cases hlt : k < nP
         ·obtain ⟨⟨id, ⟨lf, tg⟩⟩, hb⟩ : ∃ b, rd_T141 q.P (k : Int) = b := ⟨_, rfl⟩
          have hks : k < q.P.length := by have := NP.out; omega
          have hel : q.P[k] = ⟨id, ⟨lf, tg⟩⟩ := by
           rw [← hb]
           unfold rd_T141
           rw [Int.toNat_natCast, List.getD_eq_getElem?_getD, List.getElem?_eq_getElem hks]
           rfl
          have HEl := Lib.hid (show q.P[k]? = some ⟨id, ⟨lf, tg⟩⟩ by rw [List.getElem?_eq_getElem hks, hel])
          have HDr := Lib.hid (show q.P.take (k + 1) = q.P.take k ++ [⟨id, ⟨lf, tg⟩⟩] by rw [List.take_succ_eq_append_getElem hks, hel])
          have HMm := Lib.hid (show (⟨id, ⟨lf, tg⟩⟩ : Cq) ∈ q.P from hel ▸ List.getElem_mem hks)
          obtain ⟨ad, rfl, q0, q1, q2⟩ := at_T141 HRP.out (k : Int) (by omega) (by omega)
          rw [hb] at q0 q1 q2
          simp only [Int.toNat_natCast] at q0 q1 q2
          replace q0 := (HS0.out.bel.cell (World.block_lt_of_cell? w _ q0)).trans q0
          replace q1 := (HS0.out.bel.cell (World.block_lt_of_cell? w _ q1)).trans q1
          replace q2 := (HS0.out.bel.cell (World.block_lt_of_cell? w _ q2)).trans q2
          have HS1 := Lib.hid (HS0.out.row (.cells #[.int .i64 id, .int .i64 lf, .int .i64 tg] 141))
          have hgk : (q.P.map (·.f0)).getD k 0 = id := by rw [List.getD_eq_getElem?_getD, List.getElem?_map, HEl.out]; rfl
          have HGk := Lib.hid hgk
          have c0 : (0 : Int) ≤ (k : Int) := by omega
          clear hb hks hel hgk
          go_upto_region 12 with fail
          clear qd3 q0 q1 q2
          generalize wr.alloc (.cells #[.int .i64 id, .int .i64 lf, .int .i64 tg] 141) = W1 at HS1 ⊢
          have HS : ∀ w', Sr w ((wr.heap.size, Obj.cells #[.int .i64 id, .int .i64 lf, .int .i64 tg] 141) :: [(gd, Obj.cells #[.int .i64 q.s, .int .i64 q.e, .slice LA nL q.Lc, .slice (some ad) nP q.Pc, .slice DA nD q.Dc, .slice q.KA nK q.Kc] 68), (gl, y.cobj)]) w' → w'.cell? ⟨wr.heap.size, 0, none⟩ = some (.int .i64 id) ∧ w'.cell? ⟨wr.heap.size, 1, none⟩ = some (.int .i64 lf) ∧ w'.cell? ⟨wr.heap.size, 2, none⟩ = some (.int .i64 tg) ∧ w'.cell? ⟨gl, 0, none⟩ = some (.int .i64 y.c0) ∧ w'.cell? ⟨gl, 1, none⟩ = some (.int .i64 y.c1) ∧ w'.cell? ⟨gl, 2, none⟩ = some (.int .i64 y.c2) ∧ w'.cell? ⟨gl, 3, none⟩ = some (.int .i64 y.c3) ∧ w'.cell? ⟨gl, 4, none⟩ = some (.int .i64 y.c4) ∧ w'.cell? ⟨gl, 5, none⟩ = some (.int .i64 y.c5) ∧ w'.cell? ⟨gl, 6, none⟩ = some (.int .i64 y.c6) ∧ w'.cell? ⟨gl, 7, none⟩ = some (.int .i64 y.c7) ∧ w'.cell? ⟨gl, 8, none⟩ = some (.int .i64 y.c8) ∧ w'.cell? ⟨gl, 9, none⟩ = some (.int .i64 y.c9) ∧ w'.cell? ⟨gl, 10, none⟩ = some (.slice y.A y.l.length y.cap) ∧ w'.cell? ⟨gd, 3, none⟩ = some (.slice (some ad) nP q.Pc) := fun w' h => ⟨h.cell mh 0 rfl, h.cell mh 1 rfl, h.cell mh 2 rfl, h.cell (mt (mt mh)) 0 rfl, h.cell (mt (mt mh)) 1 rfl, h.cell (mt (mt mh)) 2 rfl, h.cell (mt (mt mh)) 3 rfl, h.cell (mt (mt mh)) 4 rfl, h.cell (mt (mt mh)) 5 rfl, h.cell (mt (mt mh)) 6 rfl, h.cell (mt (mt mh)) 7 rfl, h.cell (mt (mt mh)) 8 rfl, h.cell (mt (mt mh)) 9 rfl, h.cell (mt (mt mh)) 10 rfl, h.cell (mt mh) 3 rfl⟩
          as_aux_lemma =>
           by_cases a1 : id < 0
           ·have e1 : decide (id < 0) = true := decide_eq_true a1
            refine stq 33 0 (sRfG2 wr id lf tg gl y gd ad nP q) (HS _ (HS1.out.below (drewB _))) (fun hHeld => ?_)
            refine pq 0 73 33 1 ?_
            refine tq 1 74 33 3 hHeld ?_
            refine pq 2 75 33 7 ?_
            refine pq 3 76 33 15 ?_
            refine pqo 4 77 33 31 ?_
            refine pqo 5 78 33 63 ?_
            refine pqo 6 79 33 127 ?_
            refine pqo 7 80 33 255 ?_
            refine pqo 8 81 33 511 ?_
            refine pq 9 82 33 1023 ?_
            refine pq 10 83 33 2047 ?_
            refine pqo 11 84 33 4095 ?_
            refine pqo 12 85 33 8191 ?_
            refine pqo 13 86 33 16383 ?_
            refine pqo 14 87 33 32767 ?_
            refine pqo 15 88 33 65535 ?_
            refine pq 16 89 33 131071 ?_
            refine pq 17 90 33 262143 ?_
            refine pqo 18 91 33 524287 ?_
            refine pqo 19 92 33 1048575 ?_
            refine pqo 20 93 33 2097151 ?_
            refine pqo 21 94 33 4194303 ?_
            refine pqo 22 95 33 8388607 ?_
            refine pqo 23 96 33 16777215 ?_
            refine pqo 24 97 33 33554431 ?_
            refine pqo 25 98 33 67108863 ?_
            refine pqo 26 99 33 134217727 ?_
            refine pqo 27 100 33 268435455 ?_
            refine pqo 28 101 33 536870911 ?_
            refine pqo 29 102 33 1073741823 ?_
            refine pqo 30 103 33 2147483647 ?_
            refine pqo 31 104 33 4294967295 ?_
            refine pq 32 105 33 8589934591 ?_
            refine done_ (by kernel_rfl) ?_
            have HV := Lib.hid (show okDQ y q = false from no_of fun h => by
             obtain ⟨h1, h2, h3, ⟨h4, h5, h6⟩, h7, h8, h9, h10⟩ := okDQ_iff.1 h
             have h0 : q.P.all (cqOk y) = false := all_no _ HMm.out (by unfold cqOk; rw [show amB id (y.c2 - 1) = false from decide_eq_false (by omega)]; rfl)
             rw [h0] at h2; cases h2)
            go_wp2_with fail
            go_ret
            exact ⟨by rw [HV.out]; rfl, (HS1.out.bel).drew⟩
           ·have e1 : decide (id < 0) = false := decide_eq_false a1
            by_cases a2 : y.c2 ≤ id
            ·have e2 : decide (y.c2 ≤ id) = true := decide_eq_true a2
             refine stq 33 0 (sRfG2 wr id lf tg gl y gd ad nP q) (HS _ (HS1.out.below (drewB _))) (fun hHeld => ?_)
             refine pq 0 73 33 1 ?_
             refine tq 1 74 33 3 hHeld ?_
             refine pq 2 75 33 7 ?_
             refine pq 3 76 33 15 ?_
             refine pq 4 77 33 31 ?_
             refine pq 6 79 33 95 ?_
             refine tq 5 78 33 127 hHeld ?_
             refine tq 7 80 33 255 hHeld ?_
             refine pq 8 81 33 511 ?_
             refine pq 9 82 33 1023 ?_
             refine pq 10 83 33 2047 ?_
             refine pqo 11 84 33 4095 ?_
             refine pqo 12 85 33 8191 ?_
             refine pqo 13 86 33 16383 ?_
             refine pqo 14 87 33 32767 ?_
             refine pqo 15 88 33 65535 ?_
             refine pq 16 89 33 131071 ?_
             refine pq 17 90 33 262143 ?_
             refine pqo 18 91 33 524287 ?_
             refine pqo 19 92 33 1048575 ?_
             refine pqo 20 93 33 2097151 ?_
             refine pqo 21 94 33 4194303 ?_
             refine pqo 22 95 33 8388607 ?_
             refine pqo 23 96 33 16777215 ?_
             refine pqo 24 97 33 33554431 ?_
             refine pqo 25 98 33 67108863 ?_
             refine pqo 26 99 33 134217727 ?_
             refine pqo 27 100 33 268435455 ?_
             refine pqo 28 101 33 536870911 ?_
             refine pqo 29 102 33 1073741823 ?_
             refine pqo 30 103 33 2147483647 ?_
             refine pqo 31 104 33 4294967295 ?_
             refine pq 32 105 33 8589934591 ?_
             refine done_ (by kernel_rfl) ?_
             have HV := Lib.hid (show okDQ y q = false from no_of fun h => by
              obtain ⟨h1, h2, h3, ⟨h4, h5, h6⟩, h7, h8, h9, h10⟩ := okDQ_iff.1 h
              have h0 : q.P.all (cqOk y) = false := all_no _ HMm.out (by unfold cqOk; rw [show amB id (y.c2 - 1) = false from decide_eq_false (by omega)]; rfl)
              rw [h0] at h2; cases h2)
             go_wp2_with fail
             go_ret
             exact ⟨by rw [HV.out]; rfl, (HS1.out.bel).drew⟩
            ·have e2 : decide (y.c2 ≤ id) = false := decide_eq_false a2
             obtain ⟨bp, hbp⟩ : ∃ b, plB y lf tg = b := ⟨_, rfl⟩
             have BP := Lib.hid hbp
             clear hbp
             cases bp with
             | false =>
              refine stq 33 0 (sRfG2 wr id lf tg gl y gd ad nP q) (HS _ (HS1.out.below (drewB _))) (fun hHeld => ?_)
              refine pq 0 73 33 1 ?_
              refine tq 1 74 33 3 hHeld ?_
              refine pq 2 75 33 7 ?_
              refine pq 3 76 33 15 ?_
              refine pq 4 77 33 31 ?_
              refine pq 6 79 33 95 ?_
              refine tq 5 78 33 127 hHeld ?_
              refine tq 7 80 33 255 hHeld ?_
              refine pq 8 81 33 511 ?_
              refine pq 9 82 33 1023 ?_
              refine pq 10 83 33 2047 ?_
              refine pq 12 85 33 6143 ?_
              refine tq 11 84 33 8191 hHeld ?_
              refine tq 13 86 33 16383 hHeld ?_
              refine oq 14 87 33 32767 (fun K hK => ?_)
              refine gq Tryz.func139 #[y.v, .agg #[.int .i64 lf, .int .i64 tg]] ?_
              with_reducible refine ((placeQ_call _ HK.out lf tg _ BP.out)).mono ?_
              rintro e wp ⟨rfl, hb_⟩
              refine ⟨_, rfl, ?_⟩
              have HSp := Lib.hid (Sr.below (HS1.out.below (drewB _)) hb_)
              clear hb_
              refine hK.out _ _ (HS _ HSp.out) (fun hHeld => ?_)
              clear hK K
              refine nx 87 ?_
              refine pq 15 88 33 65535 ?_
              refine pq 16 89 33 131071 ?_
              refine pq 17 90 33 262143 ?_
              refine pqo 18 91 33 524287 ?_
              refine pqo 19 92 33 1048575 ?_
              refine pqo 20 93 33 2097151 ?_
              refine pqo 21 94 33 4194303 ?_
              refine pqo 22 95 33 8388607 ?_
              refine pqo 23 96 33 16777215 ?_
              refine pqo 24 97 33 33554431 ?_
              refine pqo 25 98 33 67108863 ?_
              refine pqo 26 99 33 134217727 ?_
              refine pqo 27 100 33 268435455 ?_
              refine pqo 28 101 33 536870911 ?_
              refine pqo 29 102 33 1073741823 ?_
              refine pqo 30 103 33 2147483647 ?_
              refine pqo 31 104 33 4294967295 ?_
              refine pq 32 105 33 8589934591 ?_
              refine done_ (by kernel_rfl) ?_
              have HV := Lib.hid (show okDQ y q = false from no_of fun h => by
               obtain ⟨h1, h2, h3, ⟨h4, h5, h6⟩, h7, h8, h9, h10⟩ := okDQ_iff.1 h
               have h0 : q.P.all (cqOk y) = false := all_no _ HMm.out (by unfold cqOk; rw [BP.out, Bool.and_false])
               rw [h0] at h2; cases h2)
              go_wp2_with fail
              go_ret
              exact ⟨by rw [HV.out]; rfl, HSp.out.bel⟩
             | true =>
              cases k with
              | zero =>
               have e3 : decide ((0 : Int) < ((0 : Nat) : Int)) = false := by decide
               refine stq 33 0 (sRfG2 wr id lf tg gl y gd ad nP q) (HS _ (HS1.out.below (drewB _))) (fun hHeld => ?_)
               refine pq 0 73 33 1 ?_
               refine tq 1 74 33 3 hHeld ?_
               refine pq 2 75 33 7 ?_
               refine pq 3 76 33 15 ?_
               refine pq 4 77 33 31 ?_
               refine pq 6 79 33 95 ?_
               refine tq 5 78 33 127 hHeld ?_
               refine tq 7 80 33 255 hHeld ?_
               refine pq 8 81 33 511 ?_
               refine pq 9 82 33 1023 ?_
               refine pq 10 83 33 2047 ?_
               refine pq 12 85 33 6143 ?_
               refine tq 11 84 33 8191 hHeld ?_
               refine tq 13 86 33 16383 hHeld ?_
               refine oq 14 87 33 32767 (fun K hK => ?_)
               refine gq Tryz.func139 #[y.v, .agg #[.int .i64 lf, .int .i64 tg]] ?_
               with_reducible refine ((placeQ_call _ HK.out lf tg _ BP.out)).mono ?_
               rintro e wp ⟨rfl, hb_⟩
               refine ⟨_, rfl, ?_⟩
               have HSp := Lib.hid (Sr.below (HS1.out.below (drewB _)) hb_)
               clear hb_
               refine hK.out _ _ (HS _ HSp.out) (fun hHeld => ?_)
               clear hK K
               refine nx 87 ?_
               refine pq 15 88 33 65535 ?_
               refine pq 16 89 33 131071 ?_
               refine pq 17 90 33 262143 ?_
               refine pq 18 91 33 524287 ?_
               refine pq 19 92 33 1048575 ?_
               refine pq 20 93 33 2097151 ?_
               refine pqo 21 94 33 4194303 ?_
               refine pqo 22 95 33 8388607 ?_
               refine pqo 23 96 33 16777215 ?_
               refine pqo 24 97 33 33554431 ?_
               refine pqo 25 98 33 67108863 ?_
               refine pqo 26 99 33 134217727 ?_
               refine pqo 27 100 33 268435455 ?_
               refine pqo 28 101 33 536870911 ?_
               refine pqo 29 102 33 1073741823 ?_
               refine pqo 30 103 33 2147483647 ?_
               refine pq 31 104 33 4294967295 ?_
               refine pq 32 105 33 8589934591 ?_
               refine done_ (by kernel_rfl) ?_
               go_wp2_with fail
               refine ⟨⟨0 + 1, by omega, rfl, all_take _ HDr.out HR.out (by unfold cqOk; rw [show amB id (y.c2 - 1) = true from decide_eq_true (by omega), BP.out]; rfl), ris_snoc HI.out (fun m hm => by omega), HSp.out.less (fun _ hr => mt hr)⟩, ?_⟩
               simp only [intOf]
               omega
              | succ m =>
               obtain ⟨pid, hpid⟩ : ∃ z, (q.P.map (·.f0)).getD m 0 = z := ⟨_, rfl⟩
               have HPi := Lib.hid hpid
               obtain ⟨ad', e', p0, _, _⟩ := at_T141 HRP.out (m : Int) (by omega) (by have := NP.out; omega)
               cases e'
               simp only [Int.toNat_natCast] at p0
               rw [show (rd_T141 q.P (m : Int)).f0 = pid by
                rw [← hpid]
                unfold rd_T141
                rw [Int.toNat_natCast, List.getD_eq_getElem?_getD, List.getD_eq_getElem?_getD, List.getElem?_map, List.getElem?_eq_getElem (by have := NP.out; omega)]
                rfl] at p0
               have HP0 := Lib.hid p0
               have HSv : ∀ w', Sr w ((wr.heap.size, Obj.cells #[.int .i64 id, .int .i64 lf, .int .i64 tg] 141) :: [(gd, Obj.cells #[.int .i64 q.s, .int .i64 q.e, .slice LA nL q.Lc, .slice (some ad) nP q.Pc, .slice DA nD q.Dc, .slice q.KA nK q.Kc] 68), (gl, y.cobj)]) w' → w'.cell? ⟨wr.heap.size, 0, none⟩ = some (.int .i64 id) ∧ w'.cell? ⟨wr.heap.size, 1, none⟩ = some (.int .i64 lf) ∧ w'.cell? ⟨wr.heap.size, 2, none⟩ = some (.int .i64 tg) ∧ w'.cell? ⟨gl, 0, none⟩ = some (.int .i64 y.c0) ∧ w'.cell? ⟨gl, 1, none⟩ = some (.int .i64 y.c1) ∧ w'.cell? ⟨gl, 2, none⟩ = some (.int .i64 y.c2) ∧ w'.cell? ⟨gl, 3, none⟩ = some (.int .i64 y.c3) ∧ w'.cell? ⟨gl, 4, none⟩ = some (.int .i64 y.c4) ∧ w'.cell? ⟨gl, 5, none⟩ = some (.int .i64 y.c5) ∧ w'.cell? ⟨gl, 6, none⟩ = some (.int .i64 y.c6) ∧ w'.cell? ⟨gl, 7, none⟩ = some (.int .i64 y.c7) ∧ w'.cell? ⟨gl, 8, none⟩ = some (.int .i64 y.c8) ∧ w'.cell? ⟨gl, 9, none⟩ = some (.int .i64 y.c9) ∧ w'.cell? ⟨gl, 10, none⟩ = some (.slice y.A y.l.length y.cap) ∧ w'.cell? ⟨gd, 3, none⟩ = some (.slice (some ad) nP q.Pc) ∧ w'.cell? (ad.add (m * 3)) = some (.int .i64 pid) := fun w' h => ⟨h.cell mh 0 rfl, h.cell mh 1 rfl, h.cell mh 2 rfl, h.cell (mt (mt mh)) 0 rfl, h.cell (mt (mt mh)) 1 rfl, h.cell (mt (mt mh)) 2 rfl, h.cell (mt (mt mh)) 3 rfl, h.cell (mt (mt mh)) 4 rfl, h.cell (mt (mt mh)) 5 rfl, h.cell (mt (mt mh)) 6 rfl, h.cell (mt (mt mh)) 7 rfl, h.cell (mt (mt mh)) 8 rfl, h.cell (mt (mt mh)) 9 rfl, h.cell (mt (mt mh)) 10 rfl, h.cell (mt mh) 3 rfl, (h.bel.cell (World.block_lt_of_cell? w _ HP0.out)).trans HP0.out⟩
               have e3 : decide ((0 : Int) < ((m + 1 : Nat) : Int)) = true := decide_eq_true (by omega)
               have ew : wrap64 (m : Int) = (m : Int) := by have := H3.out; have := NP.out; exact wr64 (by omega) (by omega)
               have c1 : m < nP := by omega
               have c2 : (0 : Int) ≤ (m : Int) := by omega
               clear p0 hpid
               obtain ⟨bc, hbc⟩ : ∃ b, decide (id ≤ pid) = b := ⟨_, rfl⟩
               cases bc with
               | true =>
                refine stq 33 0 (fun w' => w'.cell? ⟨wr.heap.size, 0, none⟩ = some (.int .i64 id) ∧ w'.cell? ⟨wr.heap.size, 1, none⟩ = some (.int .i64 lf) ∧ w'.cell? ⟨wr.heap.size, 2, none⟩ = some (.int .i64 tg) ∧ w'.cell? ⟨gl, 0, none⟩ = some (.int .i64 y.c0) ∧ w'.cell? ⟨gl, 1, none⟩ = some (.int .i64 y.c1) ∧ w'.cell? ⟨gl, 2, none⟩ = some (.int .i64 y.c2) ∧ w'.cell? ⟨gl, 3, none⟩ = some (.int .i64 y.c3) ∧ w'.cell? ⟨gl, 4, none⟩ = some (.int .i64 y.c4) ∧ w'.cell? ⟨gl, 5, none⟩ = some (.int .i64 y.c5) ∧ w'.cell? ⟨gl, 6, none⟩ = some (.int .i64 y.c6) ∧ w'.cell? ⟨gl, 7, none⟩ = some (.int .i64 y.c7) ∧ w'.cell? ⟨gl, 8, none⟩ = some (.int .i64 y.c8) ∧ w'.cell? ⟨gl, 9, none⟩ = some (.int .i64 y.c9) ∧ w'.cell? ⟨gl, 10, none⟩ = some (.slice y.A y.l.length y.cap) ∧ w'.cell? ⟨gd, 3, none⟩ = some (.slice (some ad) nP q.Pc) ∧ w'.cell? (ad.add (m * 3)) = some (.int .i64 pid)) (HSv _ (HS1.out.below (drewB _))) (fun hHeld => ?_)
                refine pq 0 73 33 1 ?_
                refine tq 1 74 33 3 hHeld ?_
                refine pq 2 75 33 7 ?_
                refine pq 3 76 33 15 ?_
                refine pq 4 77 33 31 ?_
                refine pq 6 79 33 95 ?_
                refine tq 5 78 33 127 hHeld ?_
                refine tq 7 80 33 255 hHeld ?_
                refine pq 8 81 33 511 ?_
                refine pq 9 82 33 1023 ?_
                refine pq 10 83 33 2047 ?_
                refine pq 12 85 33 6143 ?_
                refine tq 11 84 33 8191 hHeld ?_
                refine tq 13 86 33 16383 hHeld ?_
                refine oq 14 87 33 32767 (fun K hK => ?_)
                refine gq Tryz.func139 #[y.v, .agg #[.int .i64 lf, .int .i64 tg]] ?_
                with_reducible refine ((placeQ_call _ HK.out lf tg _ BP.out)).mono ?_
                rintro e wp ⟨rfl, hb_⟩
                refine ⟨_, rfl, ?_⟩
                have HSp := Lib.hid (Sr.below (HS1.out.below (drewB _)) hb_)
                clear hb_
                refine hK.out _ _ (HSv _ HSp.out) (fun hHeld => ?_)
                clear hK K
                refine nx 87 ?_
                refine pq 15 88 33 65535 ?_
                refine pq 16 89 33 131071 ?_
                refine pq 17 90 33 262143 ?_
                refine pq 18 91 33 524287 ?_
                refine pq 19 92 33 1048575 ?_
                refine pq 20 93 33 2097151 ?_
                refine pq 21 94 33 4194303 ?_
                refine pq 23 96 33 12582911 ?_
                refine pq 25 98 33 46137343 ?_
                refine pq 26 99 33 113246207 ?_
                refine tq 22 95 33 117440511 hHeld ?_
                refine tq 24 97 33 134217727 hHeld ?_
                refine pq 27 100 33 268435455 ?_
                refine pq 28 101 33 536870911 ?_
                refine tq 29 102 33 1073741823 hHeld ?_
                refine pq 30 103 33 2147483647 ?_
                refine pq 31 104 33 4294967295 ?_
                refine pq 32 105 33 8589934591 ?_
                refine done_ (by kernel_rfl) ?_
                have HV := Lib.hid (show okDQ y q = false from no_of fun h => by
                 obtain ⟨h1, h2, h3, ⟨h4, h5, h6⟩, h7, h8, h9, h10⟩ := okDQ_iff.1 h
                 have h11 := (risB_iff _).1 h8 m (by rw [List.length_map, NP.out]; omega)
                 rw [HGk.out, HPi.out] at h11
                 have := of_decide_eq_true hbc
                 omega)
                go_wp2_with fail
                go_ret
                exact ⟨by rw [HV.out]; rfl, HSp.out.bel⟩
               | false =>
                refine stq 33 0 (fun w' => w'.cell? ⟨wr.heap.size, 0, none⟩ = some (.int .i64 id) ∧ w'.cell? ⟨wr.heap.size, 1, none⟩ = some (.int .i64 lf) ∧ w'.cell? ⟨wr.heap.size, 2, none⟩ = some (.int .i64 tg) ∧ w'.cell? ⟨gl, 0, none⟩ = some (.int .i64 y.c0) ∧ w'.cell? ⟨gl, 1, none⟩ = some (.int .i64 y.c1) ∧ w'.cell? ⟨gl, 2, none⟩ = some (.int .i64 y.c2) ∧ w'.cell? ⟨gl, 3, none⟩ = some (.int .i64 y.c3) ∧ w'.cell? ⟨gl, 4, none⟩ = some (.int .i64 y.c4) ∧ w'.cell? ⟨gl, 5, none⟩ = some (.int .i64 y.c5) ∧ w'.cell? ⟨gl, 6, none⟩ = some (.int .i64 y.c6) ∧ w'.cell? ⟨gl, 7, none⟩ = some (.int .i64 y.c7) ∧ w'.cell? ⟨gl, 8, none⟩ = some (.int .i64 y.c8) ∧ w'.cell? ⟨gl, 9, none⟩ = some (.int .i64 y.c9) ∧ w'.cell? ⟨gl, 10, none⟩ = some (.slice y.A y.l.length y.cap) ∧ w'.cell? ⟨gd, 3, none⟩ = some (.slice (some ad) nP q.Pc) ∧ w'.cell? (ad.add (m * 3)) = some (.int .i64 pid)) (HSv _ (HS1.out.below (drewB _))) (fun hHeld => ?_)
                refine pq 0 73 33 1 ?_
                refine tq 1 74 33 3 hHeld ?_
                refine pq 2 75 33 7 ?_
                refine pq 3 76 33 15 ?_
                refine pq 4 77 33 31 ?_
                refine pq 6 79 33 95 ?_
                refine tq 5 78 33 127 hHeld ?_
                refine tq 7 80 33 255 hHeld ?_
                refine pq 8 81 33 511 ?_
                refine pq 9 82 33 1023 ?_
                refine pq 10 83 33 2047 ?_
                refine pq 12 85 33 6143 ?_
                refine tq 11 84 33 8191 hHeld ?_
                refine tq 13 86 33 16383 hHeld ?_
                refine oq 14 87 33 32767 (fun K hK => ?_)
                refine gq Tryz.func139 #[y.v, .agg #[.int .i64 lf, .int .i64 tg]] ?_
                with_reducible refine ((placeQ_call _ HK.out lf tg _ BP.out)).mono ?_
                rintro e wp ⟨rfl, hb_⟩
                refine ⟨_, rfl, ?_⟩
                have HSp := Lib.hid (Sr.below (HS1.out.below (drewB _)) hb_)
                clear hb_
                refine hK.out _ _ (HSv _ HSp.out) (fun hHeld => ?_)
                clear hK K
                refine nx 87 ?_
                refine pq 15 88 33 65535 ?_
                refine pq 16 89 33 131071 ?_
                refine pq 17 90 33 262143 ?_
                refine pq 18 91 33 524287 ?_
                refine pq 19 92 33 1048575 ?_
                refine pq 20 93 33 2097151 ?_
                refine pq 21 94 33 4194303 ?_
                refine pq 23 96 33 12582911 ?_
                refine pq 25 98 33 46137343 ?_
                refine pq 26 99 33 113246207 ?_
                refine tq 22 95 33 117440511 hHeld ?_
                refine tq 24 97 33 134217727 hHeld ?_
                refine pq 27 100 33 268435455 ?_
                refine pq 28 101 33 536870911 ?_
                refine tq 29 102 33 1073741823 hHeld ?_
                refine pq 30 103 33 2147483647 ?_
                refine pq 31 104 33 4294967295 ?_
                refine pq 32 105 33 8589934591 ?_
                refine done_ (by kernel_rfl) ?_
                go_wp2_with fail
                have ek : wrap64 ((m : Int) + 1 + 1) = ((m + 1 + 1 : Nat) : Int) := by have h1 := H3.out; have h2 := NP.out; rw [wr64 (by omega) (by omega)]; omega
                rw [ek]
                refine ⟨⟨m + 1 + 1, by omega, rfl, all_take _ HDr.out HR.out (by unfold cqOk; rw [show amB id (y.c2 - 1) = true from decide_eq_true (by omega), BP.out]; rfl), ris_snoc HI.out (fun m' hm => by obtain rfl : m' = m := (by omega); rw [HGk.out, HPi.out]; have := of_decide_eq_false hbc; omega), HSp.out.less (fun _ hr => mt hr)⟩, ?_⟩
                simp only [intOf]
                omega
         ·obtain rfl : nP = k := by omega
          have HPf := Lib.hid (show q.P.all (cqOk y) = true by have h := HR.out; rwa [← NP.out, List.take_length] at h)
          have HPr := Lib.hid (show risB (q.P.map (·.f0)) = true from (risB_iff _).2 (fun j hj => HI.out j (by rw [List.length_map, NP.out] at hj; exact hj)))
          clear HR HI
          go_wp2_with fail
          clear qd3
          have HL1 := Lib.hid (show Sr w [(gd, (oRfG0 q LA nL PA nP DA nD nK)), (gl, y.cobj)] wr from HS0.out)
          clear HS0
          go_loopw [8] (fun i wr => ∃ k : Nat, k ≤ nD ∧ i = .int .i64 k ∧ Hid ((q.D.take k).all (dqOk y) = true) ∧ Hid (∀ j, j + 1 < k → ltS ((q.D.map (·.f1.f0)).getD j ByteArray.empty) ((q.D.map (·.f1.f0)).getD (j + 1) ByteArray.empty) = true) ∧ Hid (Sr w [(gd, (oRfG0 q LA nL PA nP DA nD nK)), (gl, y.cobj)] wr)) (fun i _ => nD - (intOf i).toNat)
          case atStart =>
           exact ⟨0, Nat.zero_le _, rfl, (by simp : _ = true), fun j hj => by omega, HL1⟩
          case round =>
           clear HL1
           obtain ⟨k, hk, rfl, HR, HI, HS0⟩ := hrel
           have qd4 := HS0.out.cell mh 4 rfl
           by_cases hlt : k < nD
           ·obtain ⟨⟨gn, ⟨key, id⟩⟩, hb⟩ : ∃ b, rd_T143 q.D (k : Int) = b := ⟨_, rfl⟩
            have hks : k < q.D.length := by have := ND.out; omega
            have hel : q.D[k] = ⟨gn, ⟨key, id⟩⟩ := by
             rw [← hb]
             unfold rd_T143
             rw [Int.toNat_natCast, List.getD_eq_getElem?_getD, List.getElem?_eq_getElem hks]
             rfl
            have HEl := Lib.hid (show q.D[k]? = some ⟨gn, ⟨key, id⟩⟩ by rw [List.getElem?_eq_getElem hks, hel])
            have HDr := Lib.hid (show q.D.take (k + 1) = q.D.take k ++ [⟨gn, ⟨key, id⟩⟩] by rw [List.take_succ_eq_append_getElem hks, hel])
            have HMm := Lib.hid (show (⟨gn, ⟨key, id⟩⟩ : Eq') ∈ q.D from hel ▸ List.getElem_mem hks)
            obtain ⟨ad, rfl, q0, q1, q2⟩ := at_T143 HRD.out (k : Int) (by omega) (by omega)
            rw [hb] at q0 q1 q2
            simp only [Int.toNat_natCast] at q0 q1 q2
            replace q0 := (HS0.out.bel.cell (World.block_lt_of_cell? w _ q0)).trans q0
            replace q1 := (HS0.out.bel.cell (World.block_lt_of_cell? w _ q1)).trans q1
            replace q2 := (HS0.out.bel.cell (World.block_lt_of_cell? w _ q2)).trans q2
            have HS1 := Lib.hid (HS0.out.row (.cells #[.bool gn, .string key, .int .i64 id] 143))
            have hgk : (q.D.map (·.f1.f0)).getD k ByteArray.empty = key := by rw [List.getD_eq_getElem?_getD, List.getElem?_map, HEl.out]; rfl
            have HGk := Lib.hid hgk
            have c0 : (0 : Int) ≤ (k : Int) := by omega
            clear hb hks hel hgk
            go_upto_region 18 with fail
            clear qd4 q0 q1 q2
            generalize wr.alloc (.cells #[.bool gn, .string key, .int .i64 id] 143) = W1 at HS1 ⊢
            have HS : ∀ w', Sr w ((wr.heap.size, Obj.cells #[.bool gn, .string key, .int .i64 id] 143) :: [(gd, Obj.cells #[.int .i64 q.s, .int .i64 q.e, .slice LA nL q.Lc, .slice PA nP q.Pc, .slice (some ad) nD q.Dc, .slice q.KA nK q.Kc] 68), (gl, y.cobj)]) w' → w'.cell? ⟨wr.heap.size, 0, none⟩ = some (.bool gn) ∧ w'.cell? ⟨wr.heap.size, 1, none⟩ = some (.string key) ∧ w'.cell? ⟨wr.heap.size, 2, none⟩ = some (.int .i64 id) ∧ w'.cell? ⟨gl, 2, none⟩ = some (.int .i64 y.c2) ∧ w'.cell? ⟨gd, 4, none⟩ = some (.slice (some ad) nD q.Dc) := fun w' h => ⟨h.cell mh 0 rfl, h.cell mh 1 rfl, h.cell mh 2 rfl, h.cell (mt (mt mh)) 2 rfl, h.cell (mt mh) 4 rfl⟩
            as_aux_lemma =>
             by_cases a1 : id < 0
             ·have e1 : decide (id < 0) = true := decide_eq_true a1
              refine stq 37 0 (fun w' => w'.cell? ⟨wr.heap.size, 0, none⟩ = some (.bool gn) ∧ w'.cell? ⟨wr.heap.size, 1, none⟩ = some (.string key) ∧ w'.cell? ⟨wr.heap.size, 2, none⟩ = some (.int .i64 id) ∧ w'.cell? ⟨gl, 2, none⟩ = some (.int .i64 y.c2) ∧ w'.cell? ⟨gd, 4, none⟩ = some (.slice (some ad) nD q.Dc)) (HS _ (HS1.out.below (drewB _))) (fun hHeld => ?_)
              refine pq 0 118 37 1 ?_
              refine pq 1 119 37 3 ?_
              refine tq 2 120 37 7 hHeld ?_
              refine pq 3 121 37 15 ?_
              refine pq 4 122 37 31 ?_
              refine pqo 5 123 37 63 ?_
              refine pqo 6 124 37 127 ?_
              refine pqo 7 125 37 255 ?_
              refine pqo 8 126 37 511 ?_
              refine pqo 9 127 37 1023 ?_
              refine pqo 10 128 37 2047 ?_
              refine pq 11 129 37 4095 ?_
              refine pq 12 130 37 8191 ?_
              refine pqo 13 131 37 16383 ?_
              refine pqo 14 132 37 32767 ?_
              refine pqo 15 133 37 65535 ?_
              refine pqo 16 134 37 131071 ?_
              refine pqo 17 135 37 262143 ?_
              refine pq 18 136 37 524287 ?_
              refine pq 19 137 37 1048575 ?_
              refine pqo 20 138 37 2097151 ?_
              refine pqo 21 139 37 4194303 ?_
              refine pqo 22 140 37 8388607 ?_
              refine pqo 23 141 37 16777215 ?_
              refine pqo 24 142 37 33554431 ?_
              refine pqo 25 143 37 67108863 ?_
              refine pqo 26 144 37 134217727 ?_
              refine pqo 27 145 37 268435455 ?_
              refine pqo 28 146 37 536870911 ?_
              refine pqo 29 147 37 1073741823 ?_
              refine pqo 30 148 37 2147483647 ?_
              refine pqo 31 149 37 4294967295 ?_
              refine pqo 32 150 37 8589934591 ?_
              refine pqo 33 151 37 17179869183 ?_
              refine pqo 34 152 37 34359738367 ?_
              refine pqo 35 153 37 68719476735 ?_
              refine pq 36 154 37 137438953471 ?_
              refine done_ (by kernel_rfl) ?_
              have HV := Lib.hid (show okDQ y q = false from no_of fun h => by
               obtain ⟨h1, h2, h3, ⟨h4, h5, h6⟩, h7, h8, h9, h10⟩ := okDQ_iff.1 h
               have h0 : q.D.all (dqOk y) = false := all_no _ HMm.out (by unfold dqOk enB; rw [show amB id (y.c2 - 1) = false from decide_eq_false (by omega), Bool.and_false])
               rw [h0] at h3; cases h3)
              go_wp2_with fail
              go_ret
              exact ⟨by rw [HV.out]; rfl, (HS1.out.bel).drew⟩
             ·have e1 : decide (id < 0) = false := decide_eq_false a1
              by_cases a2 : y.c2 ≤ id
              ·have e2 : decide (y.c2 ≤ id) = true := decide_eq_true a2
               refine stq 37 0 (fun w' => w'.cell? ⟨wr.heap.size, 0, none⟩ = some (.bool gn) ∧ w'.cell? ⟨wr.heap.size, 1, none⟩ = some (.string key) ∧ w'.cell? ⟨wr.heap.size, 2, none⟩ = some (.int .i64 id) ∧ w'.cell? ⟨gl, 2, none⟩ = some (.int .i64 y.c2) ∧ w'.cell? ⟨gd, 4, none⟩ = some (.slice (some ad) nD q.Dc)) (HS _ (HS1.out.below (drewB _))) (fun hHeld => ?_)
               refine pq 0 118 37 1 ?_
               refine pq 1 119 37 3 ?_
               refine tq 2 120 37 7 hHeld ?_
               refine pq 3 121 37 15 ?_
               refine pq 4 122 37 31 ?_
               refine pq 5 123 37 63 ?_
               refine pq 6 124 37 127 ?_
               refine pq 8 126 37 383 ?_
               refine tq 7 125 37 511 hHeld ?_
               refine tq 9 127 37 1023 hHeld ?_
               refine pq 10 128 37 2047 ?_
               refine pq 11 129 37 4095 ?_
               refine pq 12 130 37 8191 ?_
               refine pqo 13 131 37 16383 ?_
               refine pqo 14 132 37 32767 ?_
               refine pqo 15 133 37 65535 ?_
               refine pqo 16 134 37 131071 ?_
               refine pqo 17 135 37 262143 ?_
               refine pq 18 136 37 524287 ?_
               refine pq 19 137 37 1048575 ?_
               refine pqo 20 138 37 2097151 ?_
               refine pqo 21 139 37 4194303 ?_
               refine pqo 22 140 37 8388607 ?_
               refine pqo 23 141 37 16777215 ?_
               refine pqo 24 142 37 33554431 ?_
               refine pqo 25 143 37 67108863 ?_
               refine pqo 26 144 37 134217727 ?_
               refine pqo 27 145 37 268435455 ?_
               refine pqo 28 146 37 536870911 ?_
               refine pqo 29 147 37 1073741823 ?_
               refine pqo 30 148 37 2147483647 ?_
               refine pqo 31 149 37 4294967295 ?_
               refine pqo 32 150 37 8589934591 ?_
               refine pqo 33 151 37 17179869183 ?_
               refine pqo 34 152 37 34359738367 ?_
               refine pqo 35 153 37 68719476735 ?_
               refine pq 36 154 37 137438953471 ?_
               refine done_ (by kernel_rfl) ?_
               have HV := Lib.hid (show okDQ y q = false from no_of fun h => by
                obtain ⟨h1, h2, h3, ⟨h4, h5, h6⟩, h7, h8, h9, h10⟩ := okDQ_iff.1 h
                have h0 : q.D.all (dqOk y) = false := all_no _ HMm.out (by unfold dqOk enB; rw [show amB id (y.c2 - 1) = false from decide_eq_false (by omega), Bool.and_false])
                rw [h0] at h3; cases h3)
               go_wp2_with fail
               go_ret
               exact ⟨by rw [HV.out]; rfl, (HS1.out.bel).drew⟩
              ·have e2 : decide (y.c2 ≤ id) = false := decide_eq_false a2
               by_cases a3 : (key.size : Int) = 10
               ·have e3 : ((key.size : Int) != 10) = false := by rw [a3]; rfl
                cases k with
                | zero =>
                 have e4 : decide ((0 : Int) < ((0 : Nat) : Int)) = false := by decide
                 refine stq 37 0 (fun w' => w'.cell? ⟨wr.heap.size, 0, none⟩ = some (.bool gn) ∧ w'.cell? ⟨wr.heap.size, 1, none⟩ = some (.string key) ∧ w'.cell? ⟨wr.heap.size, 2, none⟩ = some (.int .i64 id) ∧ w'.cell? ⟨gl, 2, none⟩ = some (.int .i64 y.c2) ∧ w'.cell? ⟨gd, 4, none⟩ = some (.slice (some ad) nD q.Dc)) (HS _ (HS1.out.below (drewB _))) (fun hHeld => ?_)
                 refine pq 0 118 37 1 ?_
                 refine pq 1 119 37 3 ?_
                 refine tq 2 120 37 7 hHeld ?_
                 refine pq 3 121 37 15 ?_
                 refine pq 4 122 37 31 ?_
                 refine pq 5 123 37 63 ?_
                 refine pq 6 124 37 127 ?_
                 refine pq 8 126 37 383 ?_
                 refine tq 7 125 37 511 hHeld ?_
                 refine tq 9 127 37 1023 hHeld ?_
                 refine pq 10 128 37 2047 ?_
                 refine pq 11 129 37 4095 ?_
                 refine pq 12 130 37 8191 ?_
                 refine pq 13 131 37 16383 ?_
                 refine pq 14 132 37 32767 ?_
                 refine tq 15 133 37 65535 hHeld ?_
                 refine pq 16 134 37 131071 ?_
                 refine pq 17 135 37 262143 ?_
                 refine pq 18 136 37 524287 ?_
                 refine pq 19 137 37 1048575 ?_
                 refine pq 20 138 37 2097151 ?_
                 refine pq 21 139 37 4194303 ?_
                 refine pq 22 140 37 8388607 ?_
                 refine pqo 23 141 37 16777215 ?_
                 refine pqo 24 142 37 33554431 ?_
                 refine pqo 25 143 37 67108863 ?_
                 refine pqo 26 144 37 134217727 ?_
                 refine pqo 27 145 37 268435455 ?_
                 refine pqo 28 146 37 536870911 ?_
                 refine pqo 29 147 37 1073741823 ?_
                 refine pqo 30 148 37 2147483647 ?_
                 refine pqo 31 149 37 4294967295 ?_
                 refine pqo 32 150 37 8589934591 ?_
                 refine pqo 33 151 37 17179869183 ?_
                 refine pqo 34 152 37 34359738367 ?_
                 refine pq 35 153 37 68719476735 ?_
                 refine pq 36 154 37 137438953471 ?_
                 refine done_ (by kernel_rfl) ?_
                 go_wp2_with fail
                 refine ⟨⟨0 + 1, by omega, rfl, all_take _ HDr.out HR.out (by unfold dqOk enB; rw [show amB id (y.c2 - 1) = true from decide_eq_true (by omega), decide_eq_true a3]; rfl), risS_snoc HI.out (fun m hm => by omega), (HS1.out.below (drewB _)).less (fun _ hr => mt hr)⟩, ?_⟩
                 simp only [intOf]
                 omega
                | succ m =>
                 obtain ⟨pk, hpk⟩ : ∃ z, (q.D.map (·.f1.f0)).getD m ByteArray.empty = z := ⟨_, rfl⟩
                 have HPi := Lib.hid hpk
                 obtain ⟨ad', e', _, p0, _⟩ := at_T143 HRD.out (m : Int) (by omega) (by have := ND.out; omega)
                 cases e'
                 simp only [Int.toNat_natCast] at p0
                 rw [show (rd_T143 q.D (m : Int)).f1.f0 = pk by
                  rw [← hpk]
                  unfold rd_T143
                  rw [Int.toNat_natCast, List.getD_eq_getElem?_getD, List.getD_eq_getElem?_getD, List.getElem?_map, List.getElem?_eq_getElem (by have := ND.out; omega)]
                  rfl] at p0
                 have HP0 := Lib.hid p0
                 have HSv : ∀ w', Sr w ((wr.heap.size, Obj.cells #[.bool gn, .string key, .int .i64 id] 143) :: [(gd, Obj.cells #[.int .i64 q.s, .int .i64 q.e, .slice LA nL q.Lc, .slice PA nP q.Pc, .slice (some ad) nD q.Dc, .slice q.KA nK q.Kc] 68), (gl, y.cobj)]) w' → w'.cell? ⟨wr.heap.size, 0, none⟩ = some (.bool gn) ∧ w'.cell? ⟨wr.heap.size, 1, none⟩ = some (.string key) ∧ w'.cell? ⟨wr.heap.size, 2, none⟩ = some (.int .i64 id) ∧ w'.cell? ⟨gl, 2, none⟩ = some (.int .i64 y.c2) ∧ w'.cell? ⟨gd, 4, none⟩ = some (.slice (some ad) nD q.Dc) ∧ w'.cell? ⟨(ad.add (m * 3)).block, (ad.add (m * 3)).off + 1, none⟩ = some (.string pk) := fun w' h => ⟨h.cell mh 0 rfl, h.cell mh 1 rfl, h.cell mh 2 rfl, h.cell (mt (mt mh)) 2 rfl, h.cell (mt mh) 4 rfl, (h.bel.cell (World.block_lt_of_cell? w _ HP0.out)).trans HP0.out⟩
                 have e4 : decide ((0 : Int) < ((m + 1 : Nat) : Int)) = true := decide_eq_true (by omega)
                 have ew : wrap64 (m : Int) = (m : Int) := by have := H3.out; have := ND.out; exact wr64 (by omega) (by omega)
                 have c1 : m < nD := by omega
                 have c2 : (0 : Int) ≤ (m : Int) := by omega
                 clear p0 hpk
                 refine stq 37 0 (fun w' => w'.cell? ⟨wr.heap.size, 0, none⟩ = some (.bool gn) ∧ w'.cell? ⟨wr.heap.size, 1, none⟩ = some (.string key) ∧ w'.cell? ⟨wr.heap.size, 2, none⟩ = some (.int .i64 id) ∧ w'.cell? ⟨gl, 2, none⟩ = some (.int .i64 y.c2) ∧ w'.cell? ⟨gd, 4, none⟩ = some (.slice (some ad) nD q.Dc) ∧ w'.cell? ⟨(ad.add (m * 3)).block, (ad.add (m * 3)).off + 1, none⟩ = some (.string pk)) (HSv _ (HS1.out.below (drewB _))) (fun hHeld => ?_)
                 refine pq 0 118 37 1 ?_
                 refine pq 1 119 37 3 ?_
                 refine tq 2 120 37 7 hHeld ?_
                 refine pq 3 121 37 15 ?_
                 refine pq 4 122 37 31 ?_
                 refine pq 5 123 37 63 ?_
                 refine pq 6 124 37 127 ?_
                 refine pq 8 126 37 383 ?_
                 refine tq 7 125 37 511 hHeld ?_
                 refine tq 9 127 37 1023 hHeld ?_
                 refine pq 10 128 37 2047 ?_
                 refine pq 11 129 37 4095 ?_
                 refine pq 12 130 37 8191 ?_
                 refine pq 13 131 37 16383 ?_
                 refine pq 14 132 37 32767 ?_
                 refine tq 15 133 37 65535 hHeld ?_
                 refine pq 16 134 37 131071 ?_
                 refine pq 17 135 37 262143 ?_
                 refine pq 18 136 37 524287 ?_
                 refine pq 19 137 37 1048575 ?_
                 refine pq 20 138 37 2097151 ?_
                 refine pq 21 139 37 4194303 ?_
                 refine pq 22 140 37 8388607 ?_
                 refine pq 23 141 37 16777215 ?_
                 refine pq 24 142 37 33554431 ?_
                 refine pq 26 144 37 100663295 ?_
                 refine pq 28 146 37 369098751 ?_
                 refine pq 29 147 37 905969663 ?_
                 refine tq 25 143 37 939524095 hHeld ?_
                 refine tq 27 145 37 1073741823 hHeld ?_
                 refine pq 30 148 37 2147483647 ?_
                 refine pq 31 149 37 4294967295 ?_
                 refine pq 32 150 37 8589934591 ?_
                 refine tq 33 151 37 17179869183 hHeld ?_
                 refine pq 34 152 37 34359738367 ?_
                 refine pq 35 153 37 68719476735 ?_
                 refine pq 36 154 37 137438953471 ?_
                 refine done_ (by kernel_rfl) ?_
                 cases hcb : (Op.bytesLess key.toList pk.toList || key.toList == pk.toList) with
                 | true =>
                  have HC := Lib.hid hcb
                  clear hcb
                  have HV := Lib.hid (show okDQ y q = false from no_of fun h => by
                   obtain ⟨h1, h2, h3, ⟨h4, h5, h6⟩, h7, h8, h9, h10⟩ := okDQ_iff.1 h
                   have h11 := (risS_iff _).1 h9 m (by rw [List.length_map, ND.out]; omega)
                   rw [HGk.out, HPi.out] at h11
                   have h12 := HC.out
                   rw [less_total, Bool.not_eq_true'] at h12
                   unfold ltS at h11
                   rw [h12] at h11
                   cases h11)
                  go_wp2_with fail
                  go_ret
                  exact ⟨by rw [HV.out]; rfl, (HS1.out.bel).drew⟩
                 | false =>
                  have HC := Lib.hid (show ltS pk key = true by
                   unfold ltS
                   rw [less_total] at hcb
                   simpa using hcb)
                  clear hcb
                  go_wp2_with fail
                  have ek : wrap64 ((m : Int) + 1 + 1) = ((m + 1 + 1 : Nat) : Int) := by have h1 := H3.out; have h2 := ND.out; rw [wr64 (by omega) (by omega)]; omega
                  rw [ek]
                  refine ⟨⟨m + 1 + 1, by omega, rfl, all_take _ HDr.out HR.out (by unfold dqOk enB; rw [show amB id (y.c2 - 1) = true from decide_eq_true (by omega), decide_eq_true a3]; rfl), risS_snoc HI.out (fun m' hm => by obtain rfl : m' = m := (by omega); rw [HGk.out, HPi.out]; exact HC.out), (HS1.out.below (drewB _)).less (fun _ hr => mt hr)⟩, ?_⟩
                  simp only [intOf]
                  omega
               ·have e3 : ((key.size : Int) != 10) = true := by rw [bne_iff_ne]; exact a3
                refine stq 37 0 (fun w' => w'.cell? ⟨wr.heap.size, 0, none⟩ = some (.bool gn) ∧ w'.cell? ⟨wr.heap.size, 1, none⟩ = some (.string key) ∧ w'.cell? ⟨wr.heap.size, 2, none⟩ = some (.int .i64 id) ∧ w'.cell? ⟨gl, 2, none⟩ = some (.int .i64 y.c2) ∧ w'.cell? ⟨gd, 4, none⟩ = some (.slice (some ad) nD q.Dc)) (HS _ (HS1.out.below (drewB _))) (fun hHeld => ?_)
                refine pq 0 118 37 1 ?_
                refine pq 1 119 37 3 ?_
                refine tq 2 120 37 7 hHeld ?_
                refine pq 3 121 37 15 ?_
                refine pq 4 122 37 31 ?_
                refine pq 5 123 37 63 ?_
                refine pq 6 124 37 127 ?_
                refine pq 8 126 37 383 ?_
                refine tq 7 125 37 511 hHeld ?_
                refine tq 9 127 37 1023 hHeld ?_
                refine pq 10 128 37 2047 ?_
                refine pq 11 129 37 4095 ?_
                refine pq 12 130 37 8191 ?_
                refine pq 13 131 37 16383 ?_
                refine pq 14 132 37 32767 ?_
                refine tq 15 133 37 65535 hHeld ?_
                refine pq 16 134 37 131071 ?_
                refine pq 17 135 37 262143 ?_
                refine pq 18 136 37 524287 ?_
                refine pq 19 137 37 1048575 ?_
                refine pqo 20 138 37 2097151 ?_
                refine pqo 21 139 37 4194303 ?_
                refine pqo 22 140 37 8388607 ?_
                refine pqo 23 141 37 16777215 ?_
                refine pqo 24 142 37 33554431 ?_
                refine pqo 25 143 37 67108863 ?_
                refine pqo 26 144 37 134217727 ?_
                refine pqo 27 145 37 268435455 ?_
                refine pqo 28 146 37 536870911 ?_
                refine pqo 29 147 37 1073741823 ?_
                refine pqo 30 148 37 2147483647 ?_
                refine pqo 31 149 37 4294967295 ?_
                refine pqo 32 150 37 8589934591 ?_
                refine pqo 33 151 37 17179869183 ?_
                refine pqo 34 152 37 34359738367 ?_
                refine pqo 35 153 37 68719476735 ?_
                refine pq 36 154 37 137438953471 ?_
                refine done_ (by kernel_rfl) ?_
                have HV := Lib.hid (show okDQ y q = false from no_of fun h => by
                 obtain ⟨h1, h2, h3, ⟨h4, h5, h6⟩, h7, h8, h9, h10⟩ := okDQ_iff.1 h
                 have h0 : q.D.all (dqOk y) = false := all_no _ HMm.out (by unfold dqOk enB; rw [decide_eq_false a3, Bool.false_and])
                 rw [h0] at h3; cases h3)
                go_wp2_with fail
                go_ret
                exact ⟨by rw [HV.out]; rfl, (HS1.out.bel).drew⟩
           ·obtain rfl : nD = k := by omega
            have HDf := Lib.hid (show q.D.all (dqOk y) = true by have h := HR.out; rwa [← ND.out, List.take_length] at h)
            have HDs := Lib.hid (show risS (q.D.map (·.f1.f0)) = true from (risS_iff _).2 (fun j hj => HI.out j (by rw [List.length_map, ND.out] at hj; exact hj)))
            clear HR HI
            have HV := Lib.hid (show okDQ y q = true from okDQ_iff.2 ⟨HLf.out, HPf.out, HDf.out, G4.out, B1.out, HPr.out, HDs.out, B5.out⟩)
            go_wp2_with fail
            go_ret
            exact ⟨by rw [HV.out]; rfl, HS0.out.bel⟩
    ·have e4 : decide (y.c5 < (nD : Int)) = true := decide_eq_true (by omega)
     as_aux_lemma =>
      refine stq 35 0 (sRfG1 gd q LA nL PA nP DA nD nK gl y) (HS _ (HX2.out.below (drewB _))) (fun hHeld => ?_)
      refine pq 0 10 35 1 ?_
      refine tq 1 11 35 3 hHeld ?_
      refine oq 2 12 35 7 (fun K hK => ?_)
      refine gq Tryz.func76 #[.agg #[.int .i64 q.s, .int .i64 q.e]] ?_
      with_reducible refine ((MayCommitQ_r q.s q.e _ B1.out _)).mono ?_
      rintro e wa ⟨rfl, hb_⟩
      refine ⟨_, rfl, ?_⟩
      have HA1 := Lib.hid (Sr.below (HX2.out.below (drewB _)) hb_)
      clear hb_
      refine hK.out _ _ (HS _ HA1.out) (fun hHeld => ?_)
      clear hK K
      refine nx 12 ?_
      refine pq 3 13 35 15 ?_
      refine pq 4 14 35 31 ?_
      refine pq 5 15 35 63 ?_
      refine tq 6 16 35 127 hHeld ?_
      refine pq 7 17 35 255 ?_
      refine tq 8 18 35 511 hHeld ?_
      refine oq 9 19 35 1023 (fun K hK => ?_)
      refine gq Tryz.func65 #[y.v] ?_
      with_reducible refine ((SlotsQ_call (HY.out.below HA1.out.bel) HK.out)).mono ?_
      rintro e wb ⟨rfl, hb_⟩
      refine ⟨_, rfl, ?_⟩
      have HA2 := Lib.hid (HA1.out.below hb_)
      clear hb_
      refine hK.out _ _ (HS _ HA2.out) (fun hHeld => ?_)
      clear hK K
      refine nx 19 ?_
      refine pq 10 20 35 2047 ?_
      refine pq 11 21 35 4095 ?_
      refine pq 12 22 35 8191 ?_
      refine pq 13 23 35 16383 ?_
      refine tq 14 24 35 32767 hHeld ?_
      refine pq 15 25 35 65535 ?_
      refine tq 16 26 35 131071 hHeld ?_
      refine oq 17 27 35 262143 (fun K hK => ?_)
      refine gq Tryz.func65 #[y.v] ?_
      with_reducible refine ((SlotsQ_call (HY.out.below HA2.out.bel) HK.out)).mono ?_
      rintro e wc ⟨rfl, hb_⟩
      refine ⟨_, rfl, ?_⟩
      have HA3 := Lib.hid (HA2.out.below hb_)
      clear hb_
      refine hK.out _ _ (HS _ HA3.out) (fun hHeld => ?_)
      clear hK K
      refine nx 27 ?_
      refine pq 18 28 35 524287 ?_
      refine pq 19 29 35 1048575 ?_
      refine pq 20 30 35 2097151 ?_
      refine pq 21 31 35 4194303 ?_
      refine pq 24 34 35 20971519 ?_
      refine tq 22 32 35 25165823 hHeld ?_
      refine pq 23 33 35 33554431 ?_
      refine tq 25 35 35 67108863 hHeld ?_
      refine pq 26 36 35 134217727 ?_
      refine pq 27 37 35 268435455 ?_
      refine pq 28 38 35 536870911 ?_
      refine pqo 29 39 35 1073741823 ?_
      refine pqo 30 40 35 2147483647 ?_
      refine pqo 31 41 35 4294967295 ?_
      refine pqo 32 42 35 8589934591 ?_
      refine pqo 33 43 35 17179869183 ?_
      refine pq 34 44 35 34359738367 ?_
      refine done_ (by kernel_rfl) ?_
      have HV := Lib.hid (show okDQ y q = false from no_of fun h => by
       obtain ⟨h1, h2, h3, ⟨h4, h5, h6⟩, h7, h8, h9, h10⟩ := okDQ_iff.1 h
       rw [ND.out] at h6; omega)
      go_wp2_with fail
      go_ret
      exact ⟨by rw [HV.out]; rfl, HA3.out.bel⟩
   ·have e3 : decide (y.slots < (nP : Int)) = true := decide_eq_true (by omega)
    as_aux_lemma =>
     refine stq 35 0 (sRfG1 gd q LA nL PA nP DA nD nK gl y) (HS _ (HX2.out.below (drewB _))) (fun hHeld => ?_)
     refine pq 0 10 35 1 ?_
     refine tq 1 11 35 3 hHeld ?_
     refine oq 2 12 35 7 (fun K hK => ?_)
     refine gq Tryz.func76 #[.agg #[.int .i64 q.s, .int .i64 q.e]] ?_
     with_reducible refine ((MayCommitQ_r q.s q.e _ B1.out _)).mono ?_
     rintro e wa ⟨rfl, hb_⟩
     refine ⟨_, rfl, ?_⟩
     have HA1 := Lib.hid (Sr.below (HX2.out.below (drewB _)) hb_)
     clear hb_
     refine hK.out _ _ (HS _ HA1.out) (fun hHeld => ?_)
     clear hK K
     refine nx 12 ?_
     refine pq 3 13 35 15 ?_
     refine pq 4 14 35 31 ?_
     refine pq 5 15 35 63 ?_
     refine tq 6 16 35 127 hHeld ?_
     refine pq 7 17 35 255 ?_
     refine tq 8 18 35 511 hHeld ?_
     refine oq 9 19 35 1023 (fun K hK => ?_)
     refine gq Tryz.func65 #[y.v] ?_
     with_reducible refine ((SlotsQ_call (HY.out.below HA1.out.bel) HK.out)).mono ?_
     rintro e wb ⟨rfl, hb_⟩
     refine ⟨_, rfl, ?_⟩
     have HA2 := Lib.hid (HA1.out.below hb_)
     clear hb_
     refine hK.out _ _ (HS _ HA2.out) (fun hHeld => ?_)
     clear hK K
     refine nx 19 ?_
     refine pq 10 20 35 2047 ?_
     refine pq 11 21 35 4095 ?_
     refine pq 12 22 35 8191 ?_
     refine pq 13 23 35 16383 ?_
     refine tq 14 24 35 32767 hHeld ?_
     refine pq 15 25 35 65535 ?_
     refine tq 16 26 35 131071 hHeld ?_
     refine oq 17 27 35 262143 (fun K hK => ?_)
     refine gq Tryz.func65 #[y.v] ?_
     with_reducible refine ((SlotsQ_call (HY.out.below HA2.out.bel) HK.out)).mono ?_
     rintro e wc ⟨rfl, hb_⟩
     refine ⟨_, rfl, ?_⟩
     have HA3 := Lib.hid (HA2.out.below hb_)
     clear hb_
     refine hK.out _ _ (HS _ HA3.out) (fun hHeld => ?_)
     clear hK K
     refine nx 27 ?_
     refine pq 18 28 35 524287 ?_
     refine pq 19 29 35 1048575 ?_
     refine pq 20 30 35 2097151 ?_
     refine pqo 21 31 35 4194303 ?_
     refine pqo 22 32 35 8388607 ?_
     refine pqo 23 33 35 16777215 ?_
     refine pqo 24 34 35 33554431 ?_
     refine pqo 25 35 35 67108863 ?_
     refine pqo 26 36 35 134217727 ?_
     refine pq 27 37 35 268435455 ?_
     refine pq 28 38 35 536870911 ?_
     refine pqo 29 39 35 1073741823 ?_
     refine pqo 30 40 35 2147483647 ?_
     refine pqo 31 41 35 4294967295 ?_
     refine pqo 32 42 35 8589934591 ?_
     refine pqo 33 43 35 17179869183 ?_
     refine pq 34 44 35 34359738367 ?_
     refine done_ (by kernel_rfl) ?_
     have HV := Lib.hid (show okDQ y q = false from no_of fun h => by
      obtain ⟨h1, h2, h3, ⟨h4, h5, h6⟩, h7, h8, h9, h10⟩ := okDQ_iff.1 h
      rw [NP.out] at h5; omega)
     go_wp2_with fail
     go_ret
     exact ⟨by rw [HV.out]; rfl, HA3.out.bel⟩
  ·have e2 : decide (y.slots < (nL : Int)) = true := decide_eq_true (by omega)
   as_aux_lemma =>
    refine stq 35 0 (sRfG1 gd q LA nL PA nP DA nD nK gl y) (HS _ (HX2.out.below (drewB _))) (fun hHeld => ?_)
    refine pq 0 10 35 1 ?_
    refine tq 1 11 35 3 hHeld ?_
    refine oq 2 12 35 7 (fun K hK => ?_)
    refine gq Tryz.func76 #[.agg #[.int .i64 q.s, .int .i64 q.e]] ?_
    with_reducible refine ((MayCommitQ_r q.s q.e _ B1.out _)).mono ?_
    rintro e wa ⟨rfl, hb_⟩
    refine ⟨_, rfl, ?_⟩
    have HA1 := Lib.hid (Sr.below (HX2.out.below (drewB _)) hb_)
    clear hb_
    refine hK.out _ _ (HS _ HA1.out) (fun hHeld => ?_)
    clear hK K
    refine nx 12 ?_
    refine pq 3 13 35 15 ?_
    refine pq 4 14 35 31 ?_
    refine pq 5 15 35 63 ?_
    refine tq 6 16 35 127 hHeld ?_
    refine pq 7 17 35 255 ?_
    refine tq 8 18 35 511 hHeld ?_
    refine oq 9 19 35 1023 (fun K hK => ?_)
    refine gq Tryz.func65 #[y.v] ?_
    with_reducible refine ((SlotsQ_call (HY.out.below HA1.out.bel) HK.out)).mono ?_
    rintro e wb ⟨rfl, hb_⟩
    refine ⟨_, rfl, ?_⟩
    have HA2 := Lib.hid (HA1.out.below hb_)
    clear hb_
    refine hK.out _ _ (HS _ HA2.out) (fun hHeld => ?_)
    clear hK K
    refine nx 19 ?_
    refine pq 10 20 35 2047 ?_
    refine pq 11 21 35 4095 ?_
    refine pq 12 22 35 8191 ?_
    refine pqo 13 23 35 16383 ?_
    refine pqo 14 24 35 32767 ?_
    refine pqo 15 25 35 65535 ?_
    refine pqo 16 26 35 131071 ?_
    refine pqo 17 27 35 262143 ?_
    refine pqo 18 28 35 524287 ?_
    refine pq 19 29 35 1048575 ?_
    refine pq 20 30 35 2097151 ?_
    refine pqo 21 31 35 4194303 ?_
    refine pqo 22 32 35 8388607 ?_
    refine pqo 23 33 35 16777215 ?_
    refine pqo 24 34 35 33554431 ?_
    refine pqo 25 35 35 67108863 ?_
    refine pqo 26 36 35 134217727 ?_
    refine pq 27 37 35 268435455 ?_
    refine pq 28 38 35 536870911 ?_
    refine pqo 29 39 35 1073741823 ?_
    refine pqo 30 40 35 2147483647 ?_
    refine pqo 31 41 35 4294967295 ?_
    refine pqo 32 42 35 8589934591 ?_
    refine pqo 33 43 35 17179869183 ?_
    refine pq 34 44 35 34359738367 ?_
    refine done_ (by kernel_rfl) ?_
    have HV := Lib.hid (show okDQ y q = false from no_of fun h => by
     obtain ⟨h1, h2, h3, ⟨h4, h5, h6⟩, h7, h8, h9, h10⟩ := okDQ_iff.1 h
     rw [NL.out] at h4; omega)
    go_wp2_with fail
    go_ret
    exact ⟨by rw [HV.out]; rfl, HA2.out.bel⟩
end Go.Proofs.YtmbnomlkhmcmaaaGreat.A
end
