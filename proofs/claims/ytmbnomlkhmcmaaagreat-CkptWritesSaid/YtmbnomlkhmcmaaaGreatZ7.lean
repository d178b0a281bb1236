/- Part of the proof of LawCkptWrites. -/
import Derived.Test.YtmbnomlkhmcmaaaGreatZ4
import Derived.Test.YtmbnomlkhmcmaaaGreatZ6
section
namespace Go.Proofs.YtmbnomlkhmcmaaaGreat.A
open Go.RowKit Go.Shelf Go.Proofs.YtmbnomlkhmcmaaaGreatW.PrintWords Go.Proofs.YtmbnomlkhmcmaaaGreatW.PrintLast Go.Proofs.YtmbnomlkhmcmaaaGreatW.PrintMore Go.Proofs.YtmbnomlkhmcmaaaGreat.B Go.Proofs.YtmbnomlkhmcmaaaGreat.C Go.Proofs.YtmbnomlkhmcmaaaGreat.Z
set_option linter.unusedVariables false
set_option linter.unusedSimpArgs false
theorem Leaves_call {y : Ly} (ok : y.Ok) (w : World) : Calls Tryz.prog 145 #[.int .i64 y.c0] w fun e w' => e = .returned (.int .i64 y.lv) ∧ Below w.heap.size w w' := by
 refine (tree_Leaves.calls y.c0 y.lv w (leaves_f ok.1 ok.2.1)).mono ?_
 rintro e w' ⟨rfl, h⟩
 exact ⟨rfl, h.below⟩
def lfB (y : Ly) (l : List Int) : Bool := l.all fun n => amB n (y.lv - 1)
def chOk (y : Ly) (p : Ch) : Bool := amB p.f0 (y.c2 - 1) && plB y p.f1.f0 p.f1.f1
def diOk (y : Ly) (x : Di) : Bool := enB y x.f1.f0 x.f1.f1
def fewD (y : Ly) (d : De) : Bool := decide ((d.L.length : Int) ≤ y.slots) && (decide ((d.P.length : Int) ≤ y.slots) && decide ((d.D.length : Int) ≤ y.c5))
def okDelta (y : Ly) (d : De) : Bool := lfB y d.L && (d.P.all (chOk y) && (d.D.all (diOk y) && (fewD y d && (okC d.s d.e && (risB (d.P.map (·.f0)) && (risS (d.D.map (·.f1.f0)) && stOk y d.K))))))
abbrev oEnU0 (d : De) (LA : Option Addr) (nL : Nat) (PA : Option Addr) (nP : Nat) (DA : Option Addr) (nD : Nat) (nK : Nat) : Obj := Obj.cells #[.int .i64 d.s, .int .i64 d.e, .slice LA nL d.Lc, .slice PA nP d.Pc, .slice DA nD d.Dc, .slice d.KA nK d.Kc] 37
abbrev sEnU1 (gd : Nat) (LA : Option Addr) (nL : Nat) (d : De) (PA : Option Addr) (nP : Nat) (DA : Option Addr) (nD : Nat) (gl : Nat) (y : Ly) : World → Prop := fun w' => w'.cell? ⟨gd, 2, none⟩ = some (.slice LA nL d.Lc) ∧ w'.cell? ⟨gd, 3, none⟩ = some (.slice PA nP d.Pc) ∧ w'.cell? ⟨gd, 4, none⟩ = some (.slice DA nD d.Dc) ∧ w'.cell? ⟨gl, 0, none⟩ = some (.int .i64 y.c0) ∧ w'.cell? ⟨gl, 1, none⟩ = some (.int .i64 y.c1) ∧ w'.cell? ⟨gl, 2, none⟩ = some (.int .i64 y.c2) ∧ w'.cell? ⟨gl, 3, none⟩ = some (.int .i64 y.c3) ∧ w'.cell? ⟨gl, 4, none⟩ = some (.int .i64 y.c4) ∧ w'.cell? ⟨gl, 5, none⟩ = some (.int .i64 y.c5) ∧ w'.cell? ⟨gl, 6, none⟩ = some (.int .i64 y.c6) ∧ w'.cell? ⟨gl, 7, none⟩ = some (.int .i64 y.c7) ∧ w'.cell? ⟨gl, 8, none⟩ = some (.int .i64 y.c8) ∧ w'.cell? ⟨gl, 9, none⟩ = some (.int .i64 y.c9) ∧ w'.cell? ⟨gl, 10, none⟩ = some (.slice y.A y.l.length y.cap)
set_option maxHeartbeats 16000000 in
set_option maxRecDepth 100000 in
theorem mayD_call {y : Ly} {w : World} (hy : y.R w) (ok : y.Ok) (d : De) (hd : d.R w) (hL : d.L.length ≤ 300) (hP : d.P.length ≤ 300) (hD : d.D.length ≤ 300) (hK : d.K.length ≤ 300) (hKc : d.K.length ≤ d.Kc) :
  Calls Tryz.prog 61 #[d.v, y.v] w fun e w' => e = .returned (.bool (okDelta y d)) ∧ Below w.heap.size w w' := by
 have HY := Lib.hid hy
 have HK := Lib.hid ok
 have HD := Lib.hid hd
 have H3 := Lib.hid (And.intro hL (And.intro hP (And.intro hD (And.intro hK hKc))))
 have HS1 := Lib.hid (wr64 (z := y.lv - 1) (by have := Ly.lv_le ok; omega) (by have := Ly.lv_le ok; omega))
 have HC1 := Lib.hid (wr64 (z := y.c2 - 1) (by unfold Ly.Ok at ok; omega) (by unfold Ly.Ok at ok; omega))
 obtain ⟨nL, hnL⟩ : ∃ n, d.L.length = n := ⟨_, rfl⟩
 obtain ⟨nP, hnP⟩ : ∃ n, d.P.length = n := ⟨_, rfl⟩
 obtain ⟨nD, hnD⟩ : ∃ n, d.D.length = n := ⟨_, rfl⟩
 obtain ⟨nK, hnK⟩ : ∃ n, d.K.length = n := ⟨_, rfl⟩
 obtain ⟨LA, hLA⟩ : ∃ p, d.LA = p := ⟨_, rfl⟩
 obtain ⟨PA, hPA⟩ : ∃ p, d.PA = p := ⟨_, rfl⟩
 obtain ⟨DA, hDA⟩ : ∃ p, d.DA = p := ⟨_, rfl⟩
 have HRL := Lib.hid (show Kd.C (Kd.int .i64) w LA d.L.length d.L from hLA ▸ hd.rl)
 have HRP := Lib.hid (show Kd.C k138 w PA d.P.length d.P from hPA ▸ hd.rp)
 have HRD := Lib.hid (show Kd.C k109 w DA d.D.length d.D from hDA ▸ hd.rd)
 have NL := Lib.hid hnL
 have NP := Lib.hid hnP
 have ND := Lib.hid hnD
 have NK := Lib.hid hnK
 show Calls _ _ #[.agg #[.int .i64 d.s, .int .i64 d.e, .slice d.LA d.L.length d.Lc, .slice d.PA d.P.length d.Pc, .slice d.DA d.D.length d.Dc, .slice d.KA d.K.length d.Kc], y.v] _ _
 rw [hnL, hnP, hnD, hnK, hLA, hPA, hDA]
 clear hy ok hd hL hP hD hK hKc hnL hnP hnD hnK hLA hPA hDA
 go_enter Tryz.func61, Tryz.ntmps61
 go_wp2_with (first
  | ((with_reducible refine gate_dst (N := 2) rfl ?_); refine box_event ?hg (N := 2) ?hd (cs := #[.int .i64 d.s, .int .i64 d.e, .slice LA nL d.Lc, .slice PA nP d.Pc, .slice DA nD d.Dc, .slice d.KA nK d.Kc]) (t := 37) ?hr ?_; (case hd => rfl); (case hg => rfl); (case hr => first | (go_simp; done) | (go_simp; rfl)); intro gd hg_ wgd hbox_ hb_; have HX1 := Lib.hid (Sr.box (Sr.nil w) hg_ hbox_ hb_); clear hbox_ hb_ hg_)
  | ((with_reducible refine gate_dst (N := 3) rfl ?_); refine box_event ?hg (N := 3) ?hd (cs := #[.int .i64 y.c0, .int .i64 y.c1, .int .i64 y.c2, .int .i64 y.c3, .int .i64 y.c4, .int .i64 y.c5, .int .i64 y.c6, .int .i64 y.c7, .int .i64 y.c8, .int .i64 y.c9, .slice y.A y.l.length y.cap]) (t := 46) ?hr ?_; (case hd => rfl); (case hg => rfl); (case hr => first | (go_simp; done) | (go_simp; rfl)); intro gl hg_ wgl hbox_ hb_; have HX2 := Lib.hid (Sr.box HX1.out hg_ hbox_ hb_); have qd := HX2.out.cell (mt mh) 2 rfl; clear hbox_ hb_ hg_)
  | fail)
 clear qd
 go_loopw [15] (fun i wr => ∃ k : Nat, k ≤ nL ∧ i = .int .i64 k ∧ Hid ((d.L.take k).all (fun n => amB n (y.lv - 1)) = true) ∧ Hid (Sr w [(gl, y.obj), (gd, (oEnU0 d LA nL PA nP DA nD nK))] wr)) (fun i _ => nL - (intOf i).toNat)
 case atStart =>
  exact ⟨0, Nat.zero_le _, rfl, (by simp : _ = true), HX2⟩
 case round =>
  obtain ⟨k, hk, rfl, HR, HS0⟩ := hrel
  clear HX1 HX2
  by_cases hlt : k < nL
  ·obtain ⟨ad, rfl, hcell⟩ := (Kd.reads_of_C (d := (0 : Int)) (Kd.C_below HRL.out HS0.out.bel)).2.2 (by have := NL.out; omega)
   have q := hcell k (by have := NL.out; omega)
   obtain ⟨n, hn⟩ : ∃ n, d.L[k]? = some n := ⟨d.L[k]'(by have := NL.out; omega), List.getElem?_eq_getElem _⟩
   have hnd : d.L.getD k 0 = n := by simp [List.getD_eq_getElem?_getD, hn]
   rw [hnd] at q
   have HDr := Lib.hid (show d.L.take (k + 1) = d.L.take k ++ [n] by rw [List.take_add_one, hn]; rfl)
   have HMm := Lib.hid (List.mem_of_getElem? hn)
   have q0 := HS0.out.cell mh 0 rfl
   clear hcell hnd hn
   go_wp2_with fail
   refine (Leaves_call HK.out _).mono ?_
   rintro e w3 ⟨rfl, hb_⟩
   have HS3 := Lib.hid (HS0.out.below hb_)
   clear hb_
   go_wp2_with fail
   obtain ⟨b1, hb1⟩ : ∃ b, amB n (y.lv - 1) = b := ⟨_, rfl⟩
   refine (among_call n (wrap64 (y.lv - 1)) b1 (by rw [HS1.out]; exact hb1) _).mono ?_
   rintro e w4 ⟨rfl, hb_⟩
   have HS4 := Lib.hid (HS3.out.below hb_)
   have HB1 := Lib.hid hb1
   clear hb_ hb1
   cases b1 with
   | true =>
    go_wp2_with fail
    have ek : wrap64 ((k : Int) + 1) = ((k + 1 : Nat) : Int) := by have h1 := H3.out; have h2 := NL.out; rw [wr64 (by omega) (by omega)]; omega
    rw [ek]
    refine ⟨⟨k + 1, by omega, rfl, all_take _ HDr.out HR.out HB1.out, HS4⟩, ?_⟩
    simp only [intOf]
    omega
   | false =>
    have HV := Lib.hid (show okDelta y d = false by
     unfold okDelta
     rw [show lfB y d.L = false from all_no _ HMm.out HB1.out]
     rfl)
    go_wp2_with fail
    go_ret
    exact ⟨by rw [HV.out]; rfl, HS4.out.bel⟩
  ·obtain rfl : nL = k := by omega
   have HLf := Lib.hid (show lfB y d.L = true by unfold lfB; have h := HR.out; rwa [← NL.out, List.take_length] at h)
   clear HR
   have qd := HS0.out.cell (mt mh) 3 rfl
   go_wp2_with fail
   clear qd
   go_loopw [31] (fun i wr => ∃ k : Nat, k ≤ nP ∧ i = .int .i64 k ∧ Hid ((d.P.take k).all (chOk y) = true) ∧ Hid (Sr w [(gl, y.obj), (gd, (oEnU0 d LA nL PA nP DA nD nK))] wr)) (fun i _ => nP - (intOf i).toNat)
   case atStart =>
    exact ⟨0, Nat.zero_le _, rfl, (by simp : _ = true), HS0⟩
   case round =>
    clear HS0
    obtain ⟨k, hk, rfl, HR, HS0⟩ := hrel
    by_cases hlt : k < nP
    ·obtain ⟨⟨id, ⟨lf, tg⟩⟩, hb⟩ : ∃ b, rd_T138 d.P (k : Int) = b := ⟨_, rfl⟩
     have hks : k < d.P.length := by have := NP.out; omega
     have hd : d.P.take (k + 1) = d.P.take k ++ [⟨id, ⟨lf, tg⟩⟩] := by
      rw [List.take_succ_eq_append_getElem hks, ← hb]
      congr 2
      unfold rd_T138
      rw [Int.toNat_natCast, List.getD_eq_getElem?_getD, List.getElem?_eq_getElem hks]
      rfl
     have HDr := Lib.hid hd
     have HMm := Lib.hid (show (⟨id, ⟨lf, tg⟩⟩ : Ch) ∈ d.P by
      have : (⟨id, ⟨lf, tg⟩⟩ : Ch) ∈ d.P.take (k + 1) := by rw [hd]; simp
      exact List.mem_of_mem_take this)
     obtain ⟨ad, rfl, q0, q1, q2⟩ := at_T138 (Kd.C_below HRP.out HS0.out.bel) (k : Int) (by omega) (by omega)
     rw [hb] at q0 q1 q2
     simp only [Int.toNat_natCast] at q0 q1 q2
     have HS1' := Lib.hid (HS0.out.row (.cells #[.int .i64 id, .int .i64 lf, .int .i64 tg] 138))
     have ql0 := HS1'.out.cell (mt mh) 0 rfl
     have ql1 := HS1'.out.cell (mt mh) 1 rfl
     have ql2 := HS1'.out.cell (mt mh) 2 rfl
     have ql3 := HS1'.out.cell (mt mh) 3 rfl
     have ql4 := HS1'.out.cell (mt mh) 4 rfl
     have ql5 := HS1'.out.cell (mt mh) 5 rfl
     have ql6 := HS1'.out.cell (mt mh) 6 rfl
     have ql7 := HS1'.out.cell (mt mh) 7 rfl
     have ql8 := HS1'.out.cell (mt mh) 8 rfl
     have ql9 := HS1'.out.cell (mt mh) 9 rfl
     have ql10 := HS1'.out.cell (mt mh) 10 rfl
     clear hb hd hks
     generalize hW1 : wr.alloc (.cells #[.int .i64 id, .int .i64 lf, .int .i64 tg] 138) = W1 at HS1' ql0 ql1 ql2 ql3 ql4 ql5 ql6 ql7 ql8 ql9 ql10
     have qx0 := HS1'.out.cell mh 0 rfl
     have qx1 := HS1'.out.cell mh 1 rfl
     have qx2 := HS1'.out.cell mh 2 rfl
     subst hW1
     go_wp2_with fail
     obtain ⟨b1, hb1⟩ : ∃ b, amB id (y.c2 - 1) = b := ⟨_, rfl⟩
     refine (among_call id (wrap64 (y.c2 - 1)) b1 (by rw [HC1.out]; exact hb1) _).mono ?_
     rintro e w4 ⟨rfl, hb_⟩
     have HS4 := Lib.hid (HS1'.out.below hb_)
     have HB1 := Lib.hid hb1
     clear hb_ hb1 qx0 qx1 qx2 ql0 ql1 ql2 ql3 ql4 ql5 ql6 ql7 ql8 ql9 ql10 HS1'
     cases b1 with
     | true =>
      have ql0 := HS4.out.cell (mt mh) 0 rfl
      have ql1 := HS4.out.cell (mt mh) 1 rfl
      have ql2 := HS4.out.cell (mt mh) 2 rfl
      have ql3 := HS4.out.cell (mt mh) 3 rfl
      have ql4 := HS4.out.cell (mt mh) 4 rfl
      have ql5 := HS4.out.cell (mt mh) 5 rfl
      have ql6 := HS4.out.cell (mt mh) 6 rfl
      have ql7 := HS4.out.cell (mt mh) 7 rfl
      have ql8 := HS4.out.cell (mt mh) 8 rfl
      have ql9 := HS4.out.cell (mt mh) 9 rfl
      have ql10 := HS4.out.cell (mt mh) 10 rfl
      have qx0 := HS4.out.cell mh 0 rfl
      have qx1 := HS4.out.cell mh 1 rfl
      have qx2 := HS4.out.cell mh 2 rfl
      go_wp2_with fail
      obtain ⟨b2, hb2⟩ : ∃ b, plB y lf tg = b := ⟨_, rfl⟩
      refine (place_call (HY.out.below HS4.out.bel) HK.out lf tg b2 hb2).mono ?_
      rintro e w5 ⟨rfl, hb_⟩
      have HS5 := Lib.hid (HS4.out.below hb_)
      have HB2 := Lib.hid (show chOk y ⟨id, ⟨lf, tg⟩⟩ = b2 by unfold chOk; rw [HB1.out]; exact hb2)
      clear hb_ hb2 qx0 qx1 qx2 ql0 ql1 ql2 ql3 ql4 ql5 ql6 ql7 ql8 ql9 ql10
      cases b2 with
      | true =>
       go_wp2_with fail
       have ek : wrap64 ((k : Int) + 1) = ((k + 1 : Nat) : Int) := by have h1 := H3.out; have h2 := NP.out; rw [wr64 (by omega) (by omega)]; omega
       rw [ek]
       refine ⟨⟨k + 1, by omega, rfl, all_take _ HDr.out HR.out HB2.out, HS5.out.less (fun _ hr => mt hr)⟩, ?_⟩
       simp only [intOf]
       omega
      | false =>
       have HV := Lib.hid (show okDelta y d = false by
        unfold okDelta
        rw [HLf.out, show d.P.all (chOk y) = false from all_no _ HMm.out HB2.out]
        rfl)
       go_wp2_with fail
       go_ret
       exact ⟨by rw [HV.out]; rfl, HS5.out.bel⟩
     | false =>
      have HV := Lib.hid (show okDelta y d = false by
       unfold okDelta
       rw [HLf.out, show d.P.all (chOk y) = false from all_no _ HMm.out (by unfold chOk; rw [HB1.out]; rfl)]
       rfl)
      go_wp2_with fail
      go_ret
      exact ⟨by rw [HV.out]; rfl, HS4.out.bel⟩
    ·obtain rfl : nP = k := by omega
     have HPf := Lib.hid (show d.P.all (chOk y) = true by have h := HR.out; rwa [← NP.out, List.take_length] at h)
     clear HR
     have qd := HS0.out.cell (mt mh) 4 rfl
     go_wp2_with fail
     clear qd
     go_loopw [54] (fun i wr => ∃ k : Nat, k ≤ nD ∧ i = .int .i64 k ∧ Hid ((d.D.take k).all (diOk y) = true) ∧ Hid (Sr w [(gl, y.obj), (gd, (oEnU0 d LA nL PA nP DA nD nK))] wr)) (fun i _ => nD - (intOf i).toNat)
     case atStart =>
      exact ⟨0, Nat.zero_le _, rfl, (by simp : _ = true), HS0⟩
     case round =>
      clear HS0
      obtain ⟨k, hk, rfl, HR, HS0⟩ := hrel
      by_cases hlt : k < nD
      ·obtain ⟨⟨gn, ⟨key, id⟩⟩, hb⟩ : ∃ b, rd_T109 d.D (k : Int) = b := ⟨_, rfl⟩
       have hks : k < d.D.length := by have := ND.out; omega
       have hd : d.D.take (k + 1) = d.D.take k ++ [⟨gn, ⟨key, id⟩⟩] := by
        rw [List.take_succ_eq_append_getElem hks, ← hb]
        congr 2
        unfold rd_T109
        rw [Int.toNat_natCast, List.getD_eq_getElem?_getD, List.getElem?_eq_getElem hks]
        rfl
       have HDr := Lib.hid hd
       have HMm := Lib.hid (show (⟨gn, ⟨key, id⟩⟩ : Di) ∈ d.D by
        have : (⟨gn, ⟨key, id⟩⟩ : Di) ∈ d.D.take (k + 1) := by rw [hd]; simp
        exact List.mem_of_mem_take this)
       obtain ⟨ad, rfl, q0, q1, q2⟩ := at_T109 (Kd.C_below HRD.out HS0.out.bel) (k : Int) (by omega) (by omega)
       rw [hb] at q0 q1 q2
       simp only [Int.toNat_natCast] at q0 q1 q2
       have HS1' := Lib.hid (HS0.out.row (.cells #[.bool gn, .string key, .int .i64 id] 109))
       have ql0 := HS1'.out.cell (mt mh) 0 rfl
       have ql1 := HS1'.out.cell (mt mh) 1 rfl
       have ql2 := HS1'.out.cell (mt mh) 2 rfl
       have ql3 := HS1'.out.cell (mt mh) 3 rfl
       have ql4 := HS1'.out.cell (mt mh) 4 rfl
       have ql5 := HS1'.out.cell (mt mh) 5 rfl
       have ql6 := HS1'.out.cell (mt mh) 6 rfl
       have ql7 := HS1'.out.cell (mt mh) 7 rfl
       have ql8 := HS1'.out.cell (mt mh) 8 rfl
       have ql9 := HS1'.out.cell (mt mh) 9 rfl
       have ql10 := HS1'.out.cell (mt mh) 10 rfl
       clear hb hd hks
       generalize hW1 : wr.alloc (.cells #[.bool gn, .string key, .int .i64 id] 109) = W1 at HS1' ql0 ql1 ql2 ql3 ql4 ql5 ql6 ql7 ql8 ql9 ql10
       have qx0 := HS1'.out.cell mh 0 rfl
       have qx1 := HS1'.out.cell mh 1 rfl
       have qx2 := HS1'.out.cell mh 2 rfl
       subst hW1
       go_wp2_with fail
       obtain ⟨b1, hb1⟩ : ∃ b, enB y key id = b := ⟨_, rfl⟩
       refine (entry_call (HY.out.below HS1'.out.bel) HK.out key id b1 hb1).mono ?_
       rintro e w4 ⟨rfl, hb_⟩
       have HS4 := Lib.hid (HS1'.out.below hb_)
       have HB1 := Lib.hid (show diOk y ⟨gn, ⟨key, id⟩⟩ = b1 from hb1)
       clear hb_ hb1 qx0 qx1 qx2 ql0 ql1 ql2 ql3 ql4 ql5 ql6 ql7 ql8 ql9 ql10 HS1'
       cases b1 with
       | true =>
        go_wp2_with fail
        have ek : wrap64 ((k : Int) + 1) = ((k + 1 : Nat) : Int) := by have h1 := H3.out; have h2 := ND.out; rw [wr64 (by omega) (by omega)]; omega
        rw [ek]
        refine ⟨⟨k + 1, by omega, rfl, all_take _ HDr.out HR.out HB1.out, HS4.out.less (fun _ hr => mt hr)⟩, ?_⟩
        simp only [intOf]
        omega
       | false =>
        have HV := Lib.hid (show okDelta y d = false by
         unfold okDelta
         rw [HLf.out, HPf.out, show d.D.all (diOk y) = false from all_no _ HMm.out HB1.out]
         rfl)
        go_wp2_with fail
        go_ret
        exact ⟨by rw [HV.out]; rfl, HS4.out.bel⟩
      ·obtain rfl : nD = k := by omega
       have HDf := Lib.hid (show d.D.all (diOk y) = true by have h := HR.out; rwa [← ND.out, List.take_length] at h)
       clear HR
       have HS : ∀ w', Sr w [(gl, y.obj), (gd, (oEnU0 d LA nL PA nP DA nD nK))] w' → w'.cell? ⟨gd, 2, none⟩ = some (.slice LA nL d.Lc) ∧ w'.cell? ⟨gd, 3, none⟩ = some (.slice PA nP d.Pc) ∧ w'.cell? ⟨gd, 4, none⟩ = some (.slice DA nD d.Dc) ∧ w'.cell? ⟨gl, 0, none⟩ = some (.int .i64 y.c0) ∧ w'.cell? ⟨gl, 1, none⟩ = some (.int .i64 y.c1) ∧ w'.cell? ⟨gl, 2, none⟩ = some (.int .i64 y.c2) ∧ w'.cell? ⟨gl, 3, none⟩ = some (.int .i64 y.c3) ∧ w'.cell? ⟨gl, 4, none⟩ = some (.int .i64 y.c4) ∧ w'.cell? ⟨gl, 5, none⟩ = some (.int .i64 y.c5) ∧ w'.cell? ⟨gl, 6, none⟩ = some (.int .i64 y.c6) ∧ w'.cell? ⟨gl, 7, none⟩ = some (.int .i64 y.c7) ∧ w'.cell? ⟨gl, 8, none⟩ = some (.int .i64 y.c8) ∧ w'.cell? ⟨gl, 9, none⟩ = some (.int .i64 y.c9) ∧ w'.cell? ⟨gl, 10, none⟩ = some (.slice y.A y.l.length y.cap) := fun w' h => ⟨h.cell (mt mh) 2 rfl, h.cell (mt mh) 3 rfl, h.cell (mt mh) 4 rfl, h.cell mh 0 rfl, h.cell mh 1 rfl, h.cell mh 2 rfl, h.cell mh 3 rfl, h.cell mh 4 rfl, h.cell mh 5 rfl, h.cell mh 6 rfl, h.cell mh 7 rfl, h.cell mh 8 rfl, h.cell mh 9 rfl, h.cell mh 10 rfl⟩
       go_upto_region 19 with fail
       by_cases c1 : (nL : Int) ≤ y.slots
       ·have e1 : decide ((nL : Int) ≤ y.slots) = true := decide_eq_true c1
        by_cases c2 : (nP : Int) ≤ y.slots
        ·have e2 : decide ((nP : Int) ≤ y.slots) = true := decide_eq_true c2
         obtain ⟨e3, he3⟩ : ∃ b, decide ((nD : Int) ≤ y.c5) = b := ⟨_, rfl⟩
         refine stq 24 0 (sEnU1 gd LA nL d PA nP DA nD gl y) (HS _ (HS0.out.below (drewB _))) (fun hHeld => ?_)
         refine pq 0 64 24 1 ?_
         refine tq 1 65 24 3 hHeld ?_
         refine pq 2 66 24 7 ?_
         refine tq 3 67 24 15 hHeld ?_
         refine oq 4 68 24 31 (fun K hK => ?_)
         refine gq Tryz.func62 #[y.v] ?_
         with_reducible refine ((Slots_call (HY.out.below (HS0.out.below (drewB _)).bel) HK.out)).mono ?_
         rintro e wa ⟨rfl, hb_⟩
         refine ⟨_, rfl, ?_⟩
         have HA0 := Lib.hid (Sr.below (HS0.out.below (drewB _)) hb_)
         clear hb_
         refine hK.out _ _ (HS _ HA0.out) (fun hHeld => ?_)
         clear hK K
         refine nx 68 ?_
         refine pq 5 69 24 63 ?_
         refine pq 6 70 24 127 ?_
         refine pq 7 71 24 255 ?_
         refine tq 8 72 24 511 hHeld ?_
         refine pq 9 73 24 1023 ?_
         refine tq 10 74 24 2047 hHeld ?_
         refine oq 11 75 24 4095 (fun K hK => ?_)
         refine gq Tryz.func62 #[y.v] ?_
         with_reducible refine ((Slots_call (HY.out.below HA0.out.bel) HK.out)).mono ?_
         rintro e wb ⟨rfl, hb_⟩
         refine ⟨_, rfl, ?_⟩
         have HA1 := Lib.hid (Sr.below HA0.out hb_)
         clear hb_
         refine hK.out _ _ (HS _ HA1.out) (fun hHeld => ?_)
         clear hK K
         refine nx 75 ?_
         refine pq 12 76 24 8191 ?_
         refine pq 13 77 24 16383 ?_
         refine pq 14 78 24 32767 ?_
         refine pq 15 79 24 65535 ?_
         refine pq 18 82 24 327679 ?_
         refine pq 19 83 24 851967 ?_
         refine tq 16 80 24 917503 hHeld ?_
         refine pq 17 81 24 1048575 ?_
         refine tq 20 84 24 2097151 hHeld ?_
         refine pq 21 85 24 4194303 ?_
         refine pq 22 86 24 8388607 ?_
         refine pq 23 11 24 16777215 ?_
         refine done_ (by kernel_rfl) ?_
         cases e3 with
         | false =>
          have HV := Lib.hid (show okDelta y d = false by
           unfold okDelta fewD
           rw [HLf.out, HPf.out, HDf.out, NL.out, NP.out, ND.out, e1, e2, he3]
           rfl)
          go_wp2_with fail
          go_ret
          exact ⟨by rw [HV.out]; rfl, HA1.out.bel⟩
         | true =>
          have HE := Lib.hid (show fewD y d = true by unfold fewD; rw [NL.out, NP.out, ND.out, e1, e2, he3]; rfl)
          clear e1 e2 he3 c1 c2
          have qd0 := HA1.out.cell (mt mh) 0 rfl
          have qd1 := HA1.out.cell (mt mh) 1 rfl
          have qd2 := HA1.out.cell (mt mh) 2 rfl
          have qd3 := HA1.out.cell (mt mh) 3 rfl
          have qd4 := HA1.out.cell (mt mh) 4 rfl
          have qd5 := HA1.out.cell (mt mh) 5 rfl
          have ql0 := HA1.out.cell mh 0 rfl
          have ql1 := HA1.out.cell mh 1 rfl
          have ql2 := HA1.out.cell mh 2 rfl
          have ql3 := HA1.out.cell mh 3 rfl
          have ql4 := HA1.out.cell mh 4 rfl
          have ql5 := HA1.out.cell mh 5 rfl
          have ql6 := HA1.out.cell mh 6 rfl
          have ql7 := HA1.out.cell mh 7 rfl
          have ql8 := HA1.out.cell mh 8 rfl
          have ql9 := HA1.out.cell mh 9 rfl
          have ql10 := HA1.out.cell mh 10 rfl
          go_wp2_with fail
          refine (Commit_may_call d.s d.e _).mono ?_
          rintro e wc ⟨rfl, hb_⟩
          have HA2 := Lib.hid (HA1.out.below hb_)
          clear hb_ qd0 qd1 qd2 qd3 qd4 qd5 ql0 ql1 ql2 ql3 ql4 ql5 ql6 ql7 ql8 ql9 ql10
          obtain ⟨b1, hb1⟩ : ∃ b, okC d.s d.e = b := ⟨_, rfl⟩
          have HB1 := Lib.hid hb1
          rw [hb1]
          clear hb1
          cases b1 with
          | false =>
           go_wp2_with fail
           go_ret
           refine ⟨?_, HA2.out.bel⟩
           unfold okDelta
           rw [HLf.out, HPf.out, HDf.out, HE.out, HB1.out]
           rfl
          | true =>
           have qd0 := HA2.out.cell (mt mh) 0 rfl
           have qd1 := HA2.out.cell (mt mh) 1 rfl
           have qd2 := HA2.out.cell (mt mh) 2 rfl
           have qd3 := HA2.out.cell (mt mh) 3 rfl
           have qd4 := HA2.out.cell (mt mh) 4 rfl
           have qd5 := HA2.out.cell (mt mh) 5 rfl
           have ql0 := HA2.out.cell mh 0 rfl
           have ql1 := HA2.out.cell mh 1 rfl
           have ql2 := HA2.out.cell mh 2 rfl
           have ql3 := HA2.out.cell mh 3 rfl
           have ql4 := HA2.out.cell mh 4 rfl
           have ql5 := HA2.out.cell mh 5 rfl
           have ql6 := HA2.out.cell mh 6 rfl
           have ql7 := HA2.out.cell mh 7 rfl
           have ql8 := HA2.out.cell mh 8 rfl
           have ql9 := HA2.out.cell mh 9 rfl
           have ql10 := HA2.out.cell mh 10 rfl
           go_wp2_with fail
           have hM := risP_call PA d.Pc d.P wc (Kd.C_below HRP.out HA2.out.bel) (by have := H3.out; omega)
           rw [NP.out] at hM
           refine hM.mono ?_
           clear hM
           rintro e wd ⟨rfl, hb_⟩
           have HA3 := Lib.hid (HA2.out.below hb_)
           clear hb_ qd0 qd1 qd2 qd3 qd4 qd5 ql0 ql1 ql2 ql3 ql4 ql5 ql6 ql7 ql8 ql9 ql10
           obtain ⟨b2, hb2⟩ : ∃ b, risB (d.P.map (·.f0)) = b := ⟨_, rfl⟩
           have HB2 := Lib.hid hb2
           rw [hb2]
           clear hb2
           cases b2 with
           | false =>
            go_wp2_with fail
            go_ret
            refine ⟨?_, HA3.out.bel⟩
            unfold okDelta
            rw [HLf.out, HPf.out, HDf.out, HE.out, HB1.out, HB2.out]
            rfl
           | true =>
            have qd0 := HA3.out.cell (mt mh) 0 rfl
            have qd1 := HA3.out.cell (mt mh) 1 rfl
            have qd2 := HA3.out.cell (mt mh) 2 rfl
            have qd3 := HA3.out.cell (mt mh) 3 rfl
            have qd4 := HA3.out.cell (mt mh) 4 rfl
            have qd5 := HA3.out.cell (mt mh) 5 rfl
            have ql0 := HA3.out.cell mh 0 rfl
            have ql1 := HA3.out.cell mh 1 rfl
            have ql2 := HA3.out.cell mh 2 rfl
            have ql3 := HA3.out.cell mh 3 rfl
            have ql4 := HA3.out.cell mh 4 rfl
            have ql5 := HA3.out.cell mh 5 rfl
            have ql6 := HA3.out.cell mh 6 rfl
            have ql7 := HA3.out.cell mh 7 rfl
            have ql8 := HA3.out.cell mh 8 rfl
            have ql9 := HA3.out.cell mh 9 rfl
            have ql10 := HA3.out.cell mh 10 rfl
            go_wp2_with fail
            have hM := risD_call DA d.Dc d.D wd (Kd.C_below HRD.out HA3.out.bel) (by have := H3.out; omega)
            rw [ND.out] at hM
            refine hM.mono ?_
            clear hM
            rintro e we ⟨rfl, hb_⟩
            have HA4 := Lib.hid (HA3.out.below hb_)
            clear hb_ qd0 qd1 qd2 qd3 qd4 qd5 ql0 ql1 ql2 ql3 ql4 ql5 ql6 ql7 ql8 ql9 ql10
            obtain ⟨b3, hb3⟩ : ∃ b, risS (d.D.map (·.f1.f0)) = b := ⟨_, rfl⟩
            have HB3 := Lib.hid hb3
            rw [hb3]
            clear hb3
            cases b3 with
            | false =>
             go_wp2_with fail
             go_ret
             refine ⟨?_, HA4.out.bel⟩
             unfold okDelta
             rw [HLf.out, HPf.out, HDf.out, HE.out, HB1.out, HB2.out, HB3.out]
             rfl
            | true =>
             have qd0 := HA4.out.cell (mt mh) 0 rfl
             have qd1 := HA4.out.cell (mt mh) 1 rfl
             have qd2 := HA4.out.cell (mt mh) 2 rfl
             have qd3 := HA4.out.cell (mt mh) 3 rfl
             have qd4 := HA4.out.cell (mt mh) 4 rfl
             have qd5 := HA4.out.cell (mt mh) 5 rfl
             have ql0 := HA4.out.cell mh 0 rfl
             have ql1 := HA4.out.cell mh 1 rfl
             have ql2 := HA4.out.cell mh 2 rfl
             have ql3 := HA4.out.cell mh 3 rfl
             have ql4 := HA4.out.cell mh 4 rfl
             have ql5 := HA4.out.cell mh 5 rfl
             have ql6 := HA4.out.cell mh 6 rfl
             have ql7 := HA4.out.cell mh 7 rfl
             have ql8 := HA4.out.cell mh 8 rfl
             have ql9 := HA4.out.cell mh 9 rfl
             have ql10 := HA4.out.cell mh 10 rfl
             go_wp2_with fail
             have hM := stash_call (HY.out.below HA4.out.bel) d.KA d.Kc d.K (Kd.C_below HD.out.rk HA4.out.bel) H3.out.2.2.2.2 H3.out.2.2.2.1
             rw [NK.out] at hM
             refine hM.mono ?_
             clear hM
             rintro e wf ⟨rfl, hb_⟩
             have HA5 := Lib.hid (HA4.out.below hb_)
             clear hb_ qd0 qd1 qd2 qd3 qd4 qd5 ql0 ql1 ql2 ql3 ql4 ql5 ql6 ql7 ql8 ql9 ql10
             obtain ⟨b4, hb4⟩ : ∃ b, stOk y d.K = b := ⟨_, rfl⟩
             have HB4 := Lib.hid hb4
             rw [hb4]
             clear hb4
             go_wp2_with fail
             go_ret
             refine ⟨?_, HA5.out.bel⟩
             unfold okDelta
             rw [HLf.out, HPf.out, HDf.out, HE.out, HB1.out, HB2.out, HB3.out, HB4.out]
             rfl
        ·have e2 : decide ((nP : Int) ≤ y.slots) = false := decide_eq_false c2
         refine stq 24 0 (sEnU1 gd LA nL d PA nP DA nD gl y) (HS _ (HS0.out.below (drewB _))) (fun hHeld => ?_)
         refine pq 0 64 24 1 ?_
         refine tq 1 65 24 3 hHeld ?_
         refine pq 2 66 24 7 ?_
         refine tq 3 67 24 15 hHeld ?_
         refine oq 4 68 24 31 (fun K hK => ?_)
         refine gq Tryz.func62 #[y.v] ?_
         with_reducible refine ((Slots_call (HY.out.below (HS0.out.below (drewB _)).bel) HK.out)).mono ?_
         rintro e wa ⟨rfl, hb_⟩
         refine ⟨_, rfl, ?_⟩
         have HA0 := Lib.hid (Sr.below (HS0.out.below (drewB _)) hb_)
         clear hb_
         refine hK.out _ _ (HS _ HA0.out) (fun hHeld => ?_)
         clear hK K
         refine nx 68 ?_
         refine pq 5 69 24 63 ?_
         refine pq 6 70 24 127 ?_
         refine pq 7 71 24 255 ?_
         refine tq 8 72 24 511 hHeld ?_
         refine pq 9 73 24 1023 ?_
         refine tq 10 74 24 2047 hHeld ?_
         refine oq 11 75 24 4095 (fun K hK => ?_)
         refine gq Tryz.func62 #[y.v] ?_
         with_reducible refine ((Slots_call (HY.out.below HA0.out.bel) HK.out)).mono ?_
         rintro e wb ⟨rfl, hb_⟩
         refine ⟨_, rfl, ?_⟩
         have HA1 := Lib.hid (Sr.below HA0.out hb_)
         clear hb_
         refine hK.out _ _ (HS _ HA1.out) (fun hHeld => ?_)
         clear hK K
         refine nx 75 ?_
         refine pq 12 76 24 8191 ?_
         refine pq 13 77 24 16383 ?_
         refine pq 14 78 24 32767 ?_
         refine pqo 15 79 24 65535 ?_
         refine pqo 16 80 24 131071 ?_
         refine pqo 17 81 24 262143 ?_
         refine pqo 18 82 24 524287 ?_
         refine pqo 19 83 24 1048575 ?_
         refine pqo 20 84 24 2097151 ?_
         refine pqo 21 85 24 4194303 ?_
         refine pq 22 86 24 8388607 ?_
         refine pq 23 11 24 16777215 ?_
         refine done_ (by kernel_rfl) ?_
         have HV := Lib.hid (show okDelta y d = false by
          unfold okDelta fewD
          rw [HLf.out, HPf.out, HDf.out, NL.out, NP.out, ND.out, e1, e2]
          rfl)
         go_wp2_with fail
         go_ret
         exact ⟨by rw [HV.out]; rfl, HA1.out.bel⟩
       ·have e1 : decide ((nL : Int) ≤ y.slots) = false := decide_eq_false c1
        refine stq 24 0 (sEnU1 gd LA nL d PA nP DA nD gl y) (HS _ (HS0.out.below (drewB _))) (fun hHeld => ?_)
        refine pq 0 64 24 1 ?_
        refine tq 1 65 24 3 hHeld ?_
        refine pq 2 66 24 7 ?_
        refine tq 3 67 24 15 hHeld ?_
        refine oq 4 68 24 31 (fun K hK => ?_)
        refine gq Tryz.func62 #[y.v] ?_
        with_reducible refine ((Slots_call (HY.out.below (HS0.out.below (drewB _)).bel) HK.out)).mono ?_
        rintro e wa ⟨rfl, hb_⟩
        refine ⟨_, rfl, ?_⟩
        have HA0 := Lib.hid (Sr.below (HS0.out.below (drewB _)) hb_)
        clear hb_
        refine hK.out _ _ (HS _ HA0.out) (fun hHeld => ?_)
        clear hK K
        refine nx 68 ?_
        refine pq 5 69 24 63 ?_
        refine pq 6 70 24 127 ?_
        refine pqo 7 71 24 255 ?_
        refine pqo 8 72 24 511 ?_
        refine pqo 9 73 24 1023 ?_
        refine pqo 10 74 24 2047 ?_
        refine pqo 11 75 24 4095 ?_
        refine pqo 12 76 24 8191 ?_
        refine pq 13 77 24 16383 ?_
        refine pq 14 78 24 32767 ?_
        refine pqo 15 79 24 65535 ?_
        refine pqo 16 80 24 131071 ?_
        refine pqo 17 81 24 262143 ?_
        refine pqo 18 82 24 524287 ?_
        refine pqo 19 83 24 1048575 ?_
        refine pqo 20 84 24 2097151 ?_
        refine pqo 21 85 24 4194303 ?_
        refine pq 22 86 24 8388607 ?_
        refine pq 23 11 24 16777215 ?_
        refine done_ (by kernel_rfl) ?_
        have HV := Lib.hid (show okDelta y d = false by
         unfold okDelta fewD
         rw [HLf.out, HPf.out, HDf.out, NL.out, NP.out, ND.out, e1]
         rfl)
        go_wp2_with fail
        go_ret
        exact ⟨by rw [HV.out]; rfl, HA0.out.bel⟩
end Go.Proofs.YtmbnomlkhmcmaaaGreat.A
end
section
namespace Go.Proofs.YtmbnomlkhmcmaaaGreat.A
open Go.RowKit Go.Shelf Go.Proofs.YtmbnomlkhmcmaaaGreatW.PrintWords Go.Proofs.YtmbnomlkhmcmaaaGreatW.PrintLast Go.Proofs.YtmbnomlkhmcmaaaGreatW.PrintMore Go.Proofs.YtmbnomlkhmcmaaaGreat.B Go.Proofs.YtmbnomlkhmcmaaaGreat.C Go.Proofs.YtmbnomlkhmcmaaaGreat.Z
set_option linter.unusedVariables false
set_option linter.unusedSimpArgs false
theorem Sr.grown {w0 W w1 : World} {rows : List (Nat × Obj)} {row : Option Nat} (h : Sr w0 rows W) (hb : Below w0.heap.size w0 w1) (hg : W.grownBy w1 row) (hne : ∀ r ∈ rows, some r.1 ≠ row) : Sr w0 rows w1 :=
 ⟨hb, fun r hr => ⟨(h.2 r hr).1, (hg.block r.1 (h.lt hr) (hne r hr)).trans (h.2 r hr).2⟩⟩
theorem Contains_call {w : World} {base : Nat} {ok : Nat → Prop} {v : Value} {xs : List Int} (h : Kd.R (Kd.int .i64) 3 w base ok v xs) (x : Int) (hl : xs.length ≤ 1000000) :
  Calls Tryz.prog 129 #[v, .int .i64 x] w fun e w' => e = .returned (.bool (xs.contains x)) ∧ w' = w := by
 obtain ⟨A, c, e, hc, hC⟩ := Kd.R_reads h
 obtain ⟨_, inner, ho, _⟩ := h
 subst e
 by_cases h0 : xs.length = 0
 ·obtain rfl := List.eq_nil_of_length_eq_zero h0
  exact Tryz.slices_Contains_int_empty A c x w
 ·obtain ⟨ad, rfl, hcell⟩ := (Kd.reads_of_C (d := (0 : Int)) hC).2.2 (by omega)
  rcases ho.2 with ⟨e, _⟩ | ⟨g, cap, cur, e, _⟩
  ·injection e with e1 _ _; cases e1
  ·injection e with e1 _ _
   injection e1 with e1
   subst e1
   have hT := Tryz.slices_Contains_int g 0 xs.length c xs x w (Nat.le_refl _) (by omega) (fun j hj => by
    have := hcell j hj
    rcases j with _ | j <;> simpa [Addr.add] using this)
   rwa [List.take_length] at hT
theorem Buckets_call {y : Ly} (ok : y.Ok) (w : World) (nb : Nat) (hn : (2 * y.lv - 1).toNat = nb) : Calls Tryz.prog 100 #[.int .i64 y.c0] w fun e w' => e = .returned (.int .i64 (nb : Int)) ∧ Below w.heap.size w w' := by
 have h1 := Ly.lv_le ok
 refine (tree_Buckets.calls y.c0 (2 * y.lv - 1) w (Buckets_f ok)).mono ?_
 rintro e w' ⟨rfl, h⟩
 exact ⟨by rw [show (nb : Int) = 2 * y.lv - 1 by omega], h⟩
theorem Parse_r {A : Option Addr} {c n : Nat} {b : List Int} {m : Nat} {w : World} (r : Bool) (hr : parB n b = r) (hm : b.length = m) (hC : Kd.C (Kd.int .u8) w A b.length b) (hc : b.length ≤ c) (h1 : 1 ≤ n) (h2 : n ≤ 127) (hb : b.length ≤ 1000000) :
  Calls Tryz.prog 130 #[.int .i64 n, .slice A m c] w fun e w' => ∃ p, e = .returned (.tuple #[p, .int .i64 (if r = true then 0 else 2)]) ∧ Below w.heap.size w w' := by
 subst hr hm
 exact Parse_call A c n b w hC hc h1 h2 hb
def okEs (y : Ly) : List Int → List Et → Bool
 | _, [] => true
 | ids, x :: r => if enB y x.f0 x.f1 = true then if ids.contains x.f1 = true then false else okEs y (ids ++ [x.f1]) r else false
def plOk (y : Ly) (p : Pl) : Bool := plB y p.f0 p.f1
def Ly.nb (y : Ly) : Nat := (2 * y.lv - 1).toNat
def okFull (y : Ly) (d : Fu) : Bool := okEs y [] d.E && (d.P.all (plOk y) && (parB y.nb d.V && (decide ((d.P.length : Int) = y.c2) && (okC d.s d.e && (risS (d.E.map (·.f0)) && stOk y d.K)))))
abbrev oEnV0 (d : Fu) (PA : Option Addr) (nP : Nat) (EA : Option Addr) (nE : Nat) (nV : Nat) (nK : Nat) : Obj := Obj.cells #[.int .i64 d.s, .int .i64 d.e, .slice PA nP d.Pc, .slice EA nE d.Ec, .slice d.VA nV d.Vc, .slice d.KA nK d.Kc] 32
set_option maxHeartbeats 16000000 in
set_option maxRecDepth 100000 in
theorem mayF_call {y : Ly} {w : World} (hy : y.R w) (ok : y.Ok) (d : Fu) (hd : d.R w) (hE : d.E.length ≤ 300) (hP : d.P.length ≤ 300) (hV : d.V.length ≤ 300) (hVc : d.V.length ≤ d.Vc) (hK : d.K.length ≤ 300) (hKc : d.K.length ≤ d.Kc) :
  Calls Tryz.prog 45 #[d.v, y.v] w fun e w' => e = .returned (.bool (okFull y d)) ∧ Below w.heap.size w w' := by
 have HY := Lib.hid hy
 have HK := Lib.hid ok
 have HD := Lib.hid hd
 have H3 := Lib.hid (And.intro hE (And.intro hP (And.intro hV (And.intro hVc (And.intro hK hKc)))))
 obtain ⟨nP, hnP⟩ : ∃ n, d.P.length = n := ⟨_, rfl⟩
 obtain ⟨nE, hnE⟩ : ∃ n, d.E.length = n := ⟨_, rfl⟩
 obtain ⟨nV, hnV⟩ : ∃ n, d.V.length = n := ⟨_, rfl⟩
 obtain ⟨nK, hnK⟩ : ∃ n, d.K.length = n := ⟨_, rfl⟩
 obtain ⟨PA, hPA⟩ : ∃ p, d.PA = p := ⟨_, rfl⟩
 obtain ⟨EA, hEA⟩ : ∃ p, d.EA = p := ⟨_, rfl⟩
 have HRP := Lib.hid (show Kd.C k39 w PA d.P.length d.P from hPA ▸ hd.rp)
 have HRE := Lib.hid (show Kd.C k107 w EA d.E.length d.E from hEA ▸ hd.re)
 have NP := Lib.hid hnP
 have NE := Lib.hid hnE
 have NV := Lib.hid hnV
 have NK := Lib.hid hnK
 show Calls _ _ #[.agg #[.int .i64 d.s, .int .i64 d.e, .slice d.PA d.P.length d.Pc, .slice d.EA d.E.length d.Ec, .slice d.VA d.V.length d.Vc, .slice d.KA d.K.length d.Kc], y.v] _ _
 rw [hnP, hnE, hnV, hnK, hPA, hEA]
 clear hy ok hd hE hP hV hVc hK hKc hnP hnE hnV hnK hPA hEA
 go_enter Tryz.func45, Tryz.ntmps45
 go_wp2_with (first
  | ((with_reducible refine gate_dst (N := 2) rfl ?_); refine box_event ?hg (N := 2) ?hd (cs := #[.int .i64 d.s, .int .i64 d.e, .slice PA nP d.Pc, .slice EA nE d.Ec, .slice d.VA nV d.Vc, .slice d.KA nK d.Kc]) (t := 32) ?hr ?_; (case hd => rfl); (case hg => rfl); (case hr => first | (go_simp; done) | (go_simp; rfl)); intro gd hg_ wgd hbox_ hb_; have HX1 := Lib.hid (Sr.box (Sr.nil w) hg_ hbox_ hb_); clear hbox_ hb_ hg_)
  | ((with_reducible refine gate_dst (N := 3) rfl ?_); refine box_event ?hg (N := 3) ?hd (cs := #[.int .i64 y.c0, .int .i64 y.c1, .int .i64 y.c2, .int .i64 y.c3, .int .i64 y.c4, .int .i64 y.c5, .int .i64 y.c6, .int .i64 y.c7, .int .i64 y.c8, .int .i64 y.c9, .slice y.A y.l.length y.cap]) (t := 46) ?hr ?_; (case hd => rfl); (case hg => rfl); (case hr => first | (go_simp; done) | (go_simp; rfl)); intro gl hg_ wgl hbox_ hb_; have HX2 := Lib.hid (Sr.box HX1.out hg_ hbox_ hb_); have qd := HX2.out.cell (mt mh) 3 rfl; clear hbox_ hb_ hg_)
  | fail)
 clear qd
 go_loopw [5, 15] (fun v i wr => ∃ k : Nat, k ≤ nE ∧ i = .int .i64 k ∧ Hid (okEs y [] d.E = okEs y ((d.E.take k).map (·.f1)) (d.E.drop k)) ∧ Hid (Kd.R (Kd.int .i64) 3 wr w.heap.size (fun k => k ≠ gl ∧ k ≠ gd) v ((d.E.take k).map (·.f1))) ∧ Hid (Sr w [(gl, y.obj), (gd, (oEnV0 d PA nP EA nE nV nK))] wr)) (fun _ i _ => nE - (intOf i).toNat)
 case atStart =>
  exact ⟨0, Nat.zero_le _, rfl, (by simp : _ = _), Kd.R_nil _ _ _ _ _, HX2⟩
 case round =>
  obtain ⟨k, hk, rfl, HR, HI, HS0⟩ := hrel
  clear HX1 HX2
  by_cases hlt : k < nE
  ·obtain ⟨⟨key, id⟩, hb⟩ : ∃ b, rd_T107 d.E (k : Int) = b := ⟨_, rfl⟩
   have hks : k < d.E.length := by have := NE.out; omega
   have hd : d.E.take (k + 1) = d.E.take k ++ [⟨key, id⟩] := by
    rw [List.take_succ_eq_append_getElem hks, ← hb]
    congr 2
    unfold rd_T107
    rw [Int.toNat_natCast, List.getD_eq_getElem?_getD, List.getElem?_eq_getElem hks]
    rfl
   have hdr : d.E.drop k = ⟨key, id⟩ :: d.E.drop (k + 1) := by
    rw [List.drop_eq_getElem_cons hks, ← hb]
    congr 1
    unfold rd_T107
    rw [Int.toNat_natCast, List.getD_eq_getElem?_getD, List.getElem?_eq_getElem hks]
    rfl
   have HDd := Lib.hid hdr
   have HDr := Lib.hid hd
   have HMm := Lib.hid (show (⟨key, id⟩ : Et) ∈ d.E by
    have : (⟨key, id⟩ : Et) ∈ d.E.take (k + 1) := by rw [hd]; simp
    exact List.mem_of_mem_take this)
   obtain ⟨ad, rfl, q0, q1⟩ := at_T107 (Kd.C_below HRE.out HS0.out.bel) (k : Int) (by omega) (by omega)
   rw [hb] at q0 q1
   simp only [Int.toNat_natCast] at q0 q1
   have HS1' := Lib.hid (HS0.out.row (.cells #[.string key, .int .i64 id] 107))
   clear hb hd hks hdr
   have HI1 := Lib.hid (Kd.R_below HI.out (allocB wr (.cells #[.string key, .int .i64 id] 107)))
   generalize hW1 : wr.alloc (.cells #[.string key, .int .i64 id] 107) = W1 at HS1' HI1
   have ql0 := HS1'.out.cell (mt mh) 0 rfl
   have ql1 := HS1'.out.cell (mt mh) 1 rfl
   have ql2 := HS1'.out.cell (mt mh) 2 rfl
   have ql3 := HS1'.out.cell (mt mh) 3 rfl
   have ql4 := HS1'.out.cell (mt mh) 4 rfl
   have ql5 := HS1'.out.cell (mt mh) 5 rfl
   have ql6 := HS1'.out.cell (mt mh) 6 rfl
   have ql7 := HS1'.out.cell (mt mh) 7 rfl
   have ql8 := HS1'.out.cell (mt mh) 8 rfl
   have ql9 := HS1'.out.cell (mt mh) 9 rfl
   have ql10 := HS1'.out.cell (mt mh) 10 rfl
   have qx0 := HS1'.out.cell mh 0 rfl
   have qx1 := HS1'.out.cell mh 1 rfl
   subst hW1
   go_wp2_with fail
   obtain ⟨b1, hb1⟩ : ∃ b, enB y key id = b := ⟨_, rfl⟩
   refine (entry_call (HY.out.below HS1'.out.bel) HK.out key id b1 hb1).mono ?_
   rintro e w4 ⟨rfl, hb_⟩
   have HS4 := Lib.hid (HS1'.out.below hb_)
   have HI4 := Lib.hid (Kd.R_below HI1.out hb_)
   have HB1 := Lib.hid hb1
   clear hb_ hb1 qx0 qx1 ql0 ql1 ql2 ql3 ql4 ql5 ql6 ql7 ql8 ql9 ql10 HS1' HI1
   cases b1 with
   | true =>
    have qx0 := HS4.out.cell mh 0 rfl
    have qx1 := HS4.out.cell mh 1 rfl
    have HLen := Lib.hid (show ((d.E.take k).map (·.f1)).length ≤ 300 by have := H3.out; simp; omega)
    go_wp2_with fail
    refine (Contains_call HI4.out id (by have := HLen.out; omega)).mono ?_
    rintro e w5 ⟨rfl, rfl⟩
    obtain ⟨b2, hb2⟩ : ∃ b, ((d.E.take k).map (·.f1)).contains id = b := ⟨_, rfl⟩
    have HB2 := Lib.hid hb2
    rw [hb2]
    clear hb2
    cases b2 with
    | true =>
     have HV := Lib.hid (show okFull y d = false by
      unfold okFull
      rw [show okEs y [] d.E = false by
       rw [HR.out, HDd.out]
       show (if enB y key id = true then if _ = true then false else _ else false) = _
       rw [if_pos HB1.out, HB2.out, if_pos rfl]]
      rfl)
     go_wp2_with fail
     go_ret
     exact ⟨by rw [HV.out]; rfl, HS4.out.bel⟩
    | false =>
     have HE2 := Lib.hid (show okEs y [] d.E = okEs y ((d.E.take (k + 1)).map (·.f1)) (d.E.drop (k + 1)) by
      rw [HR.out, HDd.out, HDr.out, List.map_append]
      show (if enB y key id = true then if _ = true then false else _ else false) = _
      rw [if_pos HB1.out, HB2.out, if_neg (by decide)]
      rfl)
     have HS6 := Lib.hid (HS4.out.less (rows' := [(gl, y.obj), (gd, Obj.cells #[.int .i64 d.s, .int .i64 d.e, .slice PA nP d.Pc, .slice (some ad) nE d.Ec, .slice d.VA nV d.Vc, .slice d.KA nK d.Kc] 32)]) (fun _ hr => mt hr))
     have HI6 := Lib.hid HI4.out
     go_wp2_with (first
      | (at_builtin; refine Kd.R_append (Kd.int .i64) (w0 := w) w.heap.size rfl (.tmp 29) (.tmp 32) 33 3 (.int .i64 0) 8 rfl Tryz.underlying33 infoi64 rfl (by decide) (by omega) u5 ((d.E.take k).map (·.f1)) id [.int .i64 id] (fun k => k ≠ gl ∧ k ≠ gd) (fun _ => False) rfl rfl ?aP (fun _ hk => hk.elim) ?aF ?aO ?aB ?aS ?aL ?_; (case aP => exact rfl); (case aB => exact HS6.out.bel); (case aF => have h1 := HS6.out.lt (r := (gl, y.obj)) mh; have h2 := HS6.out.lt (mt mh); intro k_ hk_; exact ⟨by omega, by omega⟩); (case aO => exact HI6.out); (case aS => exact HS6.out.bel.size); (case aL => have := HLen.out; omega); intro v1 w7 ho hb hg hn; have HI7 := Lib.hid ho; have HS7 := Lib.hid (Sr.grown HS6.out hb hg (by intro r hr e_; rcases List.mem_cons.1 hr with rfl | hr; (exact (HI6.out.1 _ e_.symm).1 rfl); (rw [List.mem_singleton.1 hr] at e_; exact (HI6.out.1 _ e_.symm).2 rfl))); clear ho hb hg hn)
      | fail)
     have ek : wrap64 ((k : Int) + 1) = ((k + 1 : Nat) : Int) := by have h1 := H3.out; have h2 := NE.out; rw [wr64 (by omega) (by omega)]; omega
     rw [ek]
     refine ⟨⟨k + 1, by omega, rfl, HE2, ?_, HS7⟩, ?_⟩
     ·have h := HI7.out
      rw [show (d.E.take (k + 1)).map (·.f1) = (d.E.take k).map (·.f1) ++ [id] by rw [HDr.out, List.map_append]; rfl]
      exact h
     ·simp only [intOf]
      omega
   | false =>
    have HV := Lib.hid (show okFull y d = false by
     unfold okFull
     rw [show okEs y [] d.E = false by
      rw [HR.out, HDd.out]
      show (if enB y key id = true then if _ = true then false else _ else false) = _
      rw [HB1.out]; rfl]
     rfl)
    go_wp2_with fail
    go_ret
    exact ⟨by rw [HV.out]; rfl, HS4.out.bel⟩
  ·obtain rfl : nE = k := by omega
   have HEf := Lib.hid (show okEs y [] d.E = true by rw [HR.out, ← NE.out, List.drop_length]; rfl)
   clear HR HI
   have qd := HS0.out.cell (mt mh) 2 rfl
   go_wp2_with fail
   clear qd
   go_loopw [38] (fun i wr => ∃ k : Nat, k ≤ nP ∧ i = .int .i64 k ∧ Hid ((d.P.take k).all (plOk y) = true) ∧ Hid (Sr w [(gl, y.obj), (gd, (oEnV0 d PA nP EA nE nV nK))] wr)) (fun i _ => nP - (intOf i).toNat)
   case atStart =>
    exact ⟨0, Nat.zero_le _, rfl, (by simp : _ = true), HS0⟩
   case round =>
    clear HS0
    obtain ⟨k, hk, rfl, HR, HS0⟩ := hrel
    by_cases hlt : k < nP
    ·obtain ⟨⟨lf, tg⟩, hb⟩ : ∃ b, rd_T39 d.P (k : Int) = b := ⟨_, rfl⟩
     have hks : k < d.P.length := by have := NP.out; omega
     have hd : d.P.take (k + 1) = d.P.take k ++ [⟨lf, tg⟩] := by
      rw [List.take_succ_eq_append_getElem hks, ← hb]
      congr 2
      unfold rd_T39
      rw [Int.toNat_natCast, List.getD_eq_getElem?_getD, List.getElem?_eq_getElem hks]
      rfl
     have hdr : d.P.drop k = ⟨lf, tg⟩ :: d.P.drop (k + 1) := by
      rw [List.drop_eq_getElem_cons hks, ← hb]
      congr 1
      unfold rd_T39
      rw [Int.toNat_natCast, List.getD_eq_getElem?_getD, List.getElem?_eq_getElem hks]
      rfl
     have HDd := Lib.hid hdr
     have HDr := Lib.hid hd
     have HMm := Lib.hid (show (⟨lf, tg⟩ : Pl) ∈ d.P by
      have : (⟨lf, tg⟩ : Pl) ∈ d.P.take (k + 1) := by rw [hd]; simp
      exact List.mem_of_mem_take this)
     obtain ⟨ad, rfl, q0, q1⟩ := at_T39 (Kd.C_below HRP.out HS0.out.bel) (k : Int) (by omega) (by omega)
     rw [hb] at q0 q1
     simp only [Int.toNat_natCast] at q0 q1
     have HS1' := Lib.hid (HS0.out.row (.cells #[.int .i64 lf, .int .i64 tg] 39))
     clear hb hd hks hdr
     generalize hW1 : wr.alloc (.cells #[.int .i64 lf, .int .i64 tg] 39) = W1 at HS1'
     have ql0 := HS1'.out.cell (mt mh) 0 rfl
     have ql1 := HS1'.out.cell (mt mh) 1 rfl
     have ql2 := HS1'.out.cell (mt mh) 2 rfl
     have ql3 := HS1'.out.cell (mt mh) 3 rfl
     have ql4 := HS1'.out.cell (mt mh) 4 rfl
     have ql5 := HS1'.out.cell (mt mh) 5 rfl
     have ql6 := HS1'.out.cell (mt mh) 6 rfl
     have ql7 := HS1'.out.cell (mt mh) 7 rfl
     have ql8 := HS1'.out.cell (mt mh) 8 rfl
     have ql9 := HS1'.out.cell (mt mh) 9 rfl
     have ql10 := HS1'.out.cell (mt mh) 10 rfl
     have qx0 := HS1'.out.cell mh 0 rfl
     have qx1 := HS1'.out.cell mh 1 rfl
     subst hW1
     go_wp2_with fail
     obtain ⟨b1, hb1⟩ : ∃ b, plB y lf tg = b := ⟨_, rfl⟩
     refine (place_call (HY.out.below HS1'.out.bel) HK.out lf tg b1 hb1).mono ?_
     rintro e w4 ⟨rfl, hb_⟩
     have HS4 := Lib.hid (HS1'.out.below hb_)
     have HB1 := Lib.hid (show plOk y ⟨lf, tg⟩ = b1 from hb1)
     clear hb_ hb1 qx0 qx1 ql0 ql1 ql2 ql3 ql4 ql5 ql6 ql7 ql8 ql9 ql10 HS1'
     cases b1 with
     | true =>
      go_wp2_with fail
      have ek : wrap64 ((k : Int) + 1) = ((k + 1 : Nat) : Int) := by have h1 := H3.out; have h2 := NP.out; rw [wr64 (by omega) (by omega)]; omega
      rw [ek]
      refine ⟨⟨k + 1, by omega, rfl, all_take _ HDr.out HR.out HB1.out, HS4.out.less (fun _ hr => mt hr)⟩, ?_⟩
      simp only [intOf]
      omega
     | false =>
      have HV := Lib.hid (show okFull y d = false by
       unfold okFull
       rw [HEf.out, show d.P.all (plOk y) = false from all_no _ HMm.out HB1.out]
       rfl)
      go_wp2_with fail
      go_ret
      exact ⟨by rw [HV.out]; rfl, HS4.out.bel⟩
    ·obtain rfl : nP = k := by omega
     have HPf := Lib.hid (show d.P.all (plOk y) = true by have h := HR.out; rwa [← NP.out, List.take_length] at h)
     clear HR
     have HNb := Lib.hid (show 1 ≤ y.nb ∧ y.nb ≤ 127 by have := Ly.lv_le HK.out; unfold Ly.nb; omega)
     have HS : ∀ w', Sr w [(gl, y.obj), (gd, (oEnV0 d PA nP EA nE nV nK))] w' → w'.cell? ⟨gd, 4, none⟩ = some (.slice d.VA nV d.Vc) ∧ w'.cell? ⟨gl, 0, none⟩ = some (.int .i64 y.c0) := fun w' h => ⟨h.cell (mt mh) 4 rfl, h.cell mh 0 rfl⟩
     go_upto_region 15 with fail
     obtain ⟨bp, hbp⟩ : ∃ b, parB y.nb d.V = b := ⟨_, rfl⟩
     have HP := Lib.hid hbp
     clear hbp
     cases bp with
     | false =>
      refine stq 12 0 (fun w' => w'.cell? ⟨gd, 4, none⟩ = some (.slice d.VA nV d.Vc) ∧ w'.cell? ⟨gl, 0, none⟩ = some (.int .i64 y.c0)) (HS _ (HS0.out.below (drewB _))) (fun hHeld => ?_)
      refine pq 0 48 12 1 ?_
      refine pq 1 49 12 3 ?_
      refine pq 4 52 12 19 ?_
      refine tq 2 50 12 23 hHeld ?_
      refine tq 5 53 12 55 hHeld ?_
      refine oq 3 51 12 63 (fun K hK => ?_)
      refine gq Tryz.func100 #[.int .i64 y.c0] ?_
      with_reducible refine ((Buckets_call HK.out _ y.nb rfl)).mono ?_
      rintro e wa ⟨rfl, hb_⟩
      refine ⟨_, rfl, ?_⟩
      have HA0 := Lib.hid (Sr.below (HS0.out.below (drewB _)) hb_)
      clear hb_
      refine hK.out _ _ (HS _ HA0.out) (fun hHeld => ?_)
      clear hK K
      refine nx 51 ?_
      refine oq 6 54 12 127 (fun K hK => ?_)
      refine gq Tryz.func130 #[.int .i64 (y.nb : Int), .slice d.VA nV d.Vc] ?_
      with_reducible refine ((Parse_r false HP.out NV.out (Kd.C_below HD.out.rv HA0.out.bel) H3.out.2.2.2.1 HNb.out.1 HNb.out.2 (by have := H3.out; omega))).mono ?_
      rintro e wb ⟨pp, rfl, hb_⟩
      refine ⟨_, rfl, ?_⟩
      have HA1 := Lib.hid (HA0.out.below hb_)
      clear hb_
      refine hK.out _ _ (HS _ HA1.out) (fun hHeld => ?_)
      clear hK K
      refine nx 54 ?_
      refine pq 7 47 12 255 ?_
      refine pq 8 55 12 511 ?_
      refine pq 9 56 12 1023 ?_
      refine pq 10 10 12 2047 ?_
      refine pq 11 11 12 4095 ?_
      refine done_ (by kernel_rfl) ?_
      go_wp2_with fail
      go_ret
      refine ⟨?_, HA1.out.bel⟩
      unfold okFull
      rw [HEf.out, HPf.out, HP.out]
      rfl
     | true =>
      refine stq 12 0 (fun w' => w'.cell? ⟨gd, 4, none⟩ = some (.slice d.VA nV d.Vc) ∧ w'.cell? ⟨gl, 0, none⟩ = some (.int .i64 y.c0)) (HS _ (HS0.out.below (drewB _))) (fun hHeld => ?_)
      refine pq 0 48 12 1 ?_
      refine pq 1 49 12 3 ?_
      refine pq 4 52 12 19 ?_
      refine tq 2 50 12 23 hHeld ?_
      refine tq 5 53 12 55 hHeld ?_
      refine oq 3 51 12 63 (fun K hK => ?_)
      refine gq Tryz.func100 #[.int .i64 y.c0] ?_
      with_reducible refine ((Buckets_call HK.out _ y.nb rfl)).mono ?_
      rintro e wa ⟨rfl, hb_⟩
      refine ⟨_, rfl, ?_⟩
      have HA0 := Lib.hid (Sr.below (HS0.out.below (drewB _)) hb_)
      clear hb_
      refine hK.out _ _ (HS _ HA0.out) (fun hHeld => ?_)
      clear hK K
      refine nx 51 ?_
      refine oq 6 54 12 127 (fun K hK => ?_)
      refine gq Tryz.func130 #[.int .i64 (y.nb : Int), .slice d.VA nV d.Vc] ?_
      with_reducible refine ((Parse_r true HP.out NV.out (Kd.C_below HD.out.rv HA0.out.bel) H3.out.2.2.2.1 HNb.out.1 HNb.out.2 (by have := H3.out; omega))).mono ?_
      rintro e wb ⟨pp, rfl, hb_⟩
      refine ⟨_, rfl, ?_⟩
      have HA1 := Lib.hid (HA0.out.below hb_)
      clear hb_
      refine hK.out _ _ (HS _ HA1.out) (fun hHeld => ?_)
      clear hK K
      refine nx 54 ?_
      refine pq 7 47 12 255 ?_
      refine pq 8 55 12 511 ?_
      refine pq 9 56 12 1023 ?_
      refine pq 10 10 12 2047 ?_
      refine pq 11 11 12 4095 ?_
      refine done_ (by kernel_rfl) ?_
      have qd0 := HA1.out.cell (mt mh) 0 rfl
      have qd1 := HA1.out.cell (mt mh) 1 rfl
      have qd2 := HA1.out.cell (mt mh) 2 rfl
      have qd3 := HA1.out.cell (mt mh) 3 rfl
      have qd4 := HA1.out.cell (mt mh) 4 rfl
      have qd5 := HA1.out.cell (mt mh) 5 rfl
      have ql0 := HA1.out.cell mh 0 rfl
      have ql1 := HA1.out.cell mh 1 rfl
      have ql2 := HA1.out.cell mh 2 rfl
      have ql3 := HA1.out.cell mh 3 rfl
      have ql4 := HA1.out.cell mh 4 rfl
      have ql5 := HA1.out.cell mh 5 rfl
      have ql6 := HA1.out.cell mh 6 rfl
      have ql7 := HA1.out.cell mh 7 rfl
      have ql8 := HA1.out.cell mh 8 rfl
      have ql9 := HA1.out.cell mh 9 rfl
      have ql10 := HA1.out.cell mh 10 rfl
      by_cases c1 : (nP : Int) = y.c2
      ·have e1 : ((nP : Int) == y.c2) = true := by rw [beq_iff_eq]; exact c1
       have E1 := Lib.hid (show decide ((d.P.length : Int) = y.c2) = true from decide_eq_true (by rw [NP.out]; exact c1))
       go_wp2_with fail
       refine (Commit_may_call d.s d.e _).mono ?_
       rintro e wc ⟨rfl, hb_⟩
       have HA2 := Lib.hid (HA1.out.below hb_)
       clear hb_ qd0 qd1 qd2 qd3 qd4 qd5 ql0 ql1 ql2 ql3 ql4 ql5 ql6 ql7 ql8 ql9 ql10
       obtain ⟨b1, hb1⟩ : ∃ b, okC d.s d.e = b := ⟨_, rfl⟩
       have HB1 := Lib.hid hb1
       rw [hb1]
       clear hb1
       cases b1 with
       | false =>
        go_wp2_with fail
        go_ret
        refine ⟨?_, HA2.out.bel⟩
        unfold okFull
        rw [HEf.out, HPf.out, HP.out, E1.out, HB1.out]
        rfl
       | true =>
        have qd0 := HA2.out.cell (mt mh) 0 rfl
        have qd1 := HA2.out.cell (mt mh) 1 rfl
        have qd2 := HA2.out.cell (mt mh) 2 rfl
        have qd3 := HA2.out.cell (mt mh) 3 rfl
        have qd4 := HA2.out.cell (mt mh) 4 rfl
        have qd5 := HA2.out.cell (mt mh) 5 rfl
        have ql0 := HA2.out.cell mh 0 rfl
        have ql1 := HA2.out.cell mh 1 rfl
        have ql2 := HA2.out.cell mh 2 rfl
        have ql3 := HA2.out.cell mh 3 rfl
        have ql4 := HA2.out.cell mh 4 rfl
        have ql5 := HA2.out.cell mh 5 rfl
        have ql6 := HA2.out.cell mh 6 rfl
        have ql7 := HA2.out.cell mh 7 rfl
        have ql8 := HA2.out.cell mh 8 rfl
        have ql9 := HA2.out.cell mh 9 rfl
        have ql10 := HA2.out.cell mh 10 rfl
        go_wp2_with fail
        have hM := risE_call EA d.Ec d.E wc (Kd.C_below HRE.out HA2.out.bel) (by have := H3.out; omega)
        rw [NE.out] at hM
        refine hM.mono ?_
        clear hM
        rintro e wd ⟨rfl, hb_⟩
        have HA3 := Lib.hid (HA2.out.below hb_)
        clear hb_ qd0 qd1 qd2 qd3 qd4 qd5 ql0 ql1 ql2 ql3 ql4 ql5 ql6 ql7 ql8 ql9 ql10
        obtain ⟨b2, hb2⟩ : ∃ b, risS (d.E.map (·.f0)) = b := ⟨_, rfl⟩
        have HB2 := Lib.hid hb2
        rw [hb2]
        clear hb2
        cases b2 with
        | false =>
         go_wp2_with fail
         go_ret
         refine ⟨?_, HA3.out.bel⟩
         unfold okFull
         rw [HEf.out, HPf.out, HP.out, E1.out, HB1.out, HB2.out]
         rfl
        | true =>
         have qd0 := HA3.out.cell (mt mh) 0 rfl
         have qd1 := HA3.out.cell (mt mh) 1 rfl
         have qd2 := HA3.out.cell (mt mh) 2 rfl
         have qd3 := HA3.out.cell (mt mh) 3 rfl
         have qd4 := HA3.out.cell (mt mh) 4 rfl
         have qd5 := HA3.out.cell (mt mh) 5 rfl
         have ql0 := HA3.out.cell mh 0 rfl
         have ql1 := HA3.out.cell mh 1 rfl
         have ql2 := HA3.out.cell mh 2 rfl
         have ql3 := HA3.out.cell mh 3 rfl
         have ql4 := HA3.out.cell mh 4 rfl
         have ql5 := HA3.out.cell mh 5 rfl
         have ql6 := HA3.out.cell mh 6 rfl
         have ql7 := HA3.out.cell mh 7 rfl
         have ql8 := HA3.out.cell mh 8 rfl
         have ql9 := HA3.out.cell mh 9 rfl
         have ql10 := HA3.out.cell mh 10 rfl
         go_wp2_with fail
         have hM := stash_call (HY.out.below HA3.out.bel) d.KA d.Kc d.K (Kd.C_below HD.out.rk HA3.out.bel) H3.out.2.2.2.2.2 H3.out.2.2.2.2.1
         rw [NK.out] at hM
         refine hM.mono ?_
         clear hM
         rintro e wf ⟨rfl, hb_⟩
         have HA5 := Lib.hid (HA3.out.below hb_)
         clear hb_ qd0 qd1 qd2 qd3 qd4 qd5 ql0 ql1 ql2 ql3 ql4 ql5 ql6 ql7 ql8 ql9 ql10
         obtain ⟨b4, hb4⟩ : ∃ b, stOk y d.K = b := ⟨_, rfl⟩
         have HB4 := Lib.hid hb4
         rw [hb4]
         clear hb4
         go_wp2_with fail
         go_ret
         refine ⟨?_, HA5.out.bel⟩
         unfold okFull
         rw [HEf.out, HPf.out, HP.out, E1.out, HB1.out, HB2.out, HB4.out]
         rfl
      ·have e1 : ((nP : Int) == y.c2) = false := by rw [beq_eq_false_iff_ne]; exact c1
       have E1 := Lib.hid (show decide ((d.P.length : Int) = y.c2) = false from decide_eq_false (by rw [NP.out]; exact c1))
       go_wp2_with fail
       go_ret
       refine ⟨?_, HA1.out.bel⟩
       unfold okFull
       rw [HEf.out, HPf.out, HP.out, E1.out]
       rfl
end Go.Proofs.YtmbnomlkhmcmaaaGreat.A
end
