/- Part of the proof of LawCkptWrites. -/
import Derived.Test.YtmbnomlkhmcmaaaGreatZ13
import Derived.Below
import Derived.ChangeOld
import Derived.ChangeSame
import Derived.Deep.Slices
import Derived.OpenShut
import Derived.ProofKit
import Derived.ShutString
import Derived.SizedLaws
import Derived.WalkKit
section
namespace Go.Proofs.YtmbnomlkhmcmaaaGreat.A
open Go.RowKit Go.Shelf Go.Proofs.YtmbnomlkhmcmaaaGreatW.PrintWords Go.Proofs.YtmbnomlkhmcmaaaGreatW.PrintLast Go.Proofs.YtmbnomlkhmcmaaaGreatW.PrintMore Go.Proofs.YtmbnomlkhmcmaaaGreat.C Go.Proofs.YtmbnomlkhmcmaaaGreat.Z
set_option linter.unusedVariables false
set_option linter.unusedSimpArgs false
structure CwR (y : Ly) (f : Fu) (d : De) (w : World) : Prop where
  ry : y.R w
  rf : f.R w
  rd : d.R w
theorem CwR.below {y : Ly} {f : Fu} {d : De} {w w' : World} (h : CwR y f d w) (hb : Below w.heap.size w w') : CwR y f d w' := ⟨h.ry.below hb, h.rf.below hb, h.rd.below hb⟩
structure CwL (y : Ly) (A : Option Addr) (c : Nat) (f : Fu) (d : De) (w : World) : Prop where
  rl : (y.at A c).R w
  rr : CwR y f d w
theorem CwL.below {y : Ly} {A : Option Addr} {c : Nat} {f : Fu} {d : De} {w w' : World} (h : CwL y A c f d w) (hb : Below w.heap.size w w') : CwL y A c f d w' := ⟨h.rl.below hb, h.rr.below hb⟩
theorem deRow1 {d : De} {w : World} {b : Nat} (h2 : w.cell? ⟨b, 2, none⟩ = some (.slice d.LA d.L.length d.Lc)) (h3 : w.cell? ⟨b, 3, none⟩ = some (.slice d.PA d.P.length d.Pc)) (h4 : w.cell? ⟨b, 4, none⟩ = some (.slice d.DA d.D.length d.Dc)) (h5 : w.cell? ⟨b, 5, none⟩ = some (.slice d.KA d.K.length d.Kc)) (hr : d.R w) : DeRow [d] w (some ⟨b, 0, none⟩) := by
  intro i x hx
  rcases i with _ | i
  · simp only [List.getElem?_cons_zero, Option.some.injEq] at hx
    subst hx
    refine ⟨⟨b, 0, none⟩, rfl, ?_⟩
    rw [Nat.zero_mul, add_plain]
    exact ⟨h2, h3, h4, h5, hr⟩
  · simp at hx
structure CwB (f : Fu) (d : De) : Prop where
  f1 : f.P.length ≤ f.Pc
  f2 : f.E.length ≤ f.Ec
  f3 : f.V.length ≤ f.Vc
  f4 : f.K.length ≤ f.Kc
  d1 : d.L.length ≤ d.Lc
  d2 : d.P.length ≤ d.Pc
  d3 : d.D.length ≤ d.Dc
  d4 : d.K.length ≤ d.Kc
theorem h3full {f : Fu} {d : De} (h : CwB f d) (hf : f.few) : H3Full f := ⟨h.f1, hf.1, h.f2, hf.2.1, h.f3, hf.2.2.1, h.f4, by have := hf.2.2.2; omega⟩
theorem h3delta {f : Fu} {d : De} (h : CwB f d) (hd : d.few) : H3Delta d := ⟨h.d1, hd.1, h.d2, hd.2.1, h.d3, hd.2.2.1, h.d4, by have := hd.2.2.2; omega⟩
def CommitPost (s e0 : Int) (w : World) (e : Ending) (w' : World) : Prop := e = .returned (.agg #[.int .i64 s, .int .i64 e0]) ∧ Below w.heap.size w w'
def LogQPost (g : Lg) (w : World) (e : Ending) (w' : World) : Prop := e = .returned g.v ∧ Below w.heap.size w w'
abbrev oCwA0 (y : Ly) : Obj := Obj.cells #[.int .i64 y.c0, .int .i64 y.c1, .int .i64 y.c2, .int .i64 y.c3, .int .i64 y.c4, .int .i64 y.c5, .int .i64 y.c6, .int .i64 y.c7, .int .i64 y.c8, .int .i64 y.c9, .slice y.A y.l.length y.cap] 24
abbrev oCwA1 (y : Ly) (A4 : Option Addr) (c4 : Nat) : Obj := Obj.cells #[.int .i64 y.c0, .int .i64 y.c1, .int .i64 y.c2, .int .i64 y.c3, .int .i64 y.c4, .int .i64 y.c5, .int .i64 y.c6, .int .i64 y.c7, .int .i64 y.c8, .int .i64 y.c9, .slice A4 y.l.length c4] 46
abbrev oCwA2 (d : De) : Obj := Obj.cells #[.int .i64 d.s, .int .i64 d.e, .slice d.LA d.L.length d.Lc, .slice d.PA d.P.length d.Pc, .slice d.DA d.D.length d.Dc, .slice d.KA d.K.length d.Kc] 37
abbrev oCwA3 (f : Fu) : Obj := Obj.cells #[.int .i64 f.s, .int .i64 f.e, .slice f.PA f.P.length f.Pc, .slice f.EA f.E.length f.Ec, .slice f.VA f.V.length f.Vc, .slice f.KA f.K.length f.Kc] 32
abbrev oCwA4 (g : Lg) : Obj := Obj.cells #[.int .i64 g.s, .int .i64 g.i, .int .i64 g.d, .int .i64 g.f, .int .i64 g.t] 43
abbrev oCwA5 (y : Ly) : Value := .agg #[.int .i64 y.c0, .int .i64 y.c1, .int .i64 y.c2, .int .i64 y.c3, .int .i64 y.c4, .int .i64 y.c5, .int .i64 y.c6, .int .i64 y.c7, .int .i64 y.c8, .int .i64 y.c9, .slice y.A y.l.length y.cap]
abbrev oCwA6 (y : Ly) (A4 : Option Addr) (c4 : Nat) : Value := .agg #[.int .i64 y.c0, .int .i64 y.c1, .int .i64 y.c2, .int .i64 y.c3, .int .i64 y.c4, .int .i64 y.c5, .int .i64 y.c6, .int .i64 y.c7, .int .i64 y.c8, .int .i64 y.c9, .slice A4 y.l.length c4]
abbrev oCwA7 (f : Fu) : Value := .agg #[.int .i64 f.s, .int .i64 f.e, .slice f.PA f.P.length f.Pc, .slice f.EA f.E.length f.Ec, .slice f.VA f.V.length f.Vc, .slice f.KA f.K.length f.Kc]
abbrev oCwA8 (d : De) : Value := .agg #[.int .i64 d.s, .int .i64 d.e, .slice d.LA d.L.length d.Lc, .slice d.PA d.P.length d.Pc, .slice d.DA d.D.length d.Dc, .slice d.KA d.K.length d.Kc]
abbrev oCwA9 (g : Lg) : Value := .agg #[.int .i64 g.s, .int .i64 g.i, .int .i64 g.d, .int .i64 g.f, .int .i64 g.t]
set_option maxHeartbeats 8000000 in
set_option maxRecDepth 100000 in
theorem CkptWrites_call {y : Ly} {f : Fu} {d : De} {g : Lg} {w : World} (hr : CwR y f d w) (hb : CwB f d) (hg : -9223372036854775808 ≤ g.d ∧ g.d ≤ 9223372036854775807) :
    Calls Tryz.prog 3 #[y.v, f.v, d.v, g.v] w fun e w' => e = .returned (.bool true) ∧ Below w.heap.size w w' := by
  have HR := Lib.hid hr
  have HB := Lib.hid hb
  have HG := Lib.hid hg
  obtain ⟨b, HCf, HOk⟩ : ∃ b, Hid (∀ W, y.R W → Calls Tryz.prog 10 #[(oCwA5 y)] W (CfgPost y b W)) ∧ Hid (b = true → y.Ok) := by
    refine ⟨fewT y.l && mayB y, Lib.hid (fun W hW => config_call hW rfl rfl), Lib.hid (fun h => (mayB_ok ?_).1)⟩
    rw [Bool.and_eq_true] at h
    exact h.2
  clear hr hb hg
  show Calls _ _ #[(oCwA5 y), (oCwA7 f), (oCwA8 d), (oCwA9 g)] _ _
  go_enter Tryz.func3, Tryz.ntmps3
  go_wp2_with (first
    | ((with_reducible refine gate_dst (N := 4) rfl ?_); refine box_event ?hg (N := 4) ?hd (cs := #[.int .i64 y.c0, .int .i64 y.c1, .int .i64 y.c2, .int .i64 y.c3, .int .i64 y.c4, .int .i64 y.c5, .int .i64 y.c6, .int .i64 y.c7, .int .i64 y.c8, .int .i64 y.c9, .slice y.A y.l.length y.cap]) (t := 24) ?hr ?_; (case hd => rfl); (case hg => rfl); (case hr => first | (go_simp; done) | (go_simp; rfl)); intro gy hg_ w1 hbox_ hb_; have HX1 := Lib.hid (Sr.box (Sr.nil w) hg_ hbox_ hb_); clear hbox_ hb_ hg_)
    | ((with_reducible refine gate_dst (N := 5) rfl ?_); refine box_event ?hg (N := 5) ?hd (cs := #[.int .i64 f.s, .int .i64 f.e, .slice f.PA f.P.length f.Pc, .slice f.EA f.E.length f.Ec, .slice f.VA f.V.length f.Vc, .slice f.KA f.K.length f.Kc]) (t := 32) ?hr ?_; (case hd => rfl); (case hg => rfl); (case hr => first | (go_simp; done) | (go_simp; rfl)); intro gf hg_ w2 hbox_ hb_; have HX2 := Lib.hid (Sr.box HX1.out hg_ hbox_ hb_); clear hbox_ hb_ hg_)
    | ((with_reducible refine gate_dst (N := 6) rfl ?_); refine box_event ?hg (N := 6) ?hd (cs := #[.int .i64 d.s, .int .i64 d.e, .slice d.LA d.L.length d.Lc, .slice d.PA d.P.length d.Pc, .slice d.DA d.D.length d.Dc, .slice d.KA d.K.length d.Kc]) (t := 37) ?hr ?_; (case hd => rfl); (case hg => rfl); (case hr => first | (go_simp; done) | (go_simp; rfl)); intro gd hg_ w3 hbox_ hb_; have HX3 := Lib.hid (Sr.box HX2.out hg_ hbox_ hb_); clear hbox_ hb_ hg_)
    | ((with_reducible refine gate_dst (N := 7) rfl ?_); refine box_event ?hg (N := 7) ?hd (cs := #[.int .i64 g.s, .int .i64 g.i, .int .i64 g.d, .int .i64 g.f, .int .i64 g.t]) (t := 43) ?hr ?_; (case hd => rfl); (case hg => rfl); (case hr => first | (go_simp; done) | (go_simp; rfl)); intro gg hg_ w4 hbox_ hb_; have HX4 := Lib.hid (Sr.box HX3.out hg_ hbox_ hb_); clear hbox_ hb_ hg_)
    | fail)
  with_reducible refine (first_call _).mono ?_
  rintro e w5 ⟨rfl, hb⟩
  have HX5 := Lib.hid (HX4.out.below hb)
  have HP5 := Lib.hid (HR.out.below HX5.out.bel)
  clear hb HX1 HX2 HX3 HX4
  have qy0 := HX5.out.cell (mt (mt (mt mh))) 0 rfl
  have qy1 := HX5.out.cell (mt (mt (mt mh))) 1 rfl
  have qy2 := HX5.out.cell (mt (mt (mt mh))) 2 rfl
  have qy3 := HX5.out.cell (mt (mt (mt mh))) 3 rfl
  have qy4 := HX5.out.cell (mt (mt (mt mh))) 4 rfl
  have qy5 := HX5.out.cell (mt (mt (mt mh))) 5 rfl
  have qy6 := HX5.out.cell (mt (mt (mt mh))) 6 rfl
  have qy7 := HX5.out.cell (mt (mt (mt mh))) 7 rfl
  have qy8 := HX5.out.cell (mt (mt (mt mh))) 8 rfl
  have qy9 := HX5.out.cell (mt (mt (mt mh))) 9 rfl
  have qy10 := HX5.out.cell (mt (mt (mt mh))) 10 rfl
  go_wp2_with fail
  with_reducible refine (HCf.out _ HP5.out.ry).mono ?_
  intro e w6 hp
  obtain ⟨hb6, h0, h1⟩ := hp
  have HX6 := Lib.hid (HX5.out.below hb6)
  have HP6 := Lib.hid (HP5.out.below hb6)
  clear HX5 HP5 hb6 HCf qy0 qy1 qy2 qy3 qy4 qy5 qy6 qy7 qy8 qy9 qy10
  cases b with
  | false =>
    have he := h0 rfl
    subst he
    clear h0 h1
    go_upto_region 4 with (first
      | ((with_reducible refine gate_dst (N := 9) rfl ?_); refine box_event ?hg (N := 9) ?hd (cs := #[.int .i64 0, .int .i64 0, .int .i64 0, .int .i64 0, .int .i64 0, .int .i64 0, .int .i64 0, .int .i64 0, .int .i64 0, .int .i64 0, .slice none 0 0]) (t := 46) ?hr ?_; (case hd => rfl); (case hg => rfl); (case hr => first | (go_simp; done) | (go_simp; rfl)); intro g9 hg_ w7 hbox_ hb_; have HN7 := Lib.hid (HX6.out.nes hg_); have HX7 := Lib.hid (Sr.box HX6.out hg_ hbox_ hb_); have HP7 := Lib.hid (HP6.out.below hb_); have z0 := HX7.out.cell mh 0 rfl; have f0 := blk_frozen HX7.out.head.2 0; have z1 := HX7.out.cell mh 1 rfl; have f1 := blk_frozen HX7.out.head.2 1; have z2 := HX7.out.cell mh 2 rfl; have f2 := blk_frozen HX7.out.head.2 2; have z3 := HX7.out.cell mh 3 rfl; have f3 := blk_frozen HX7.out.head.2 3; have z4 := HX7.out.cell mh 4 rfl; have f4 := blk_frozen HX7.out.head.2 4; have z5 := HX7.out.cell mh 5 rfl; have f5 := blk_frozen HX7.out.head.2 5; have z6 := HX7.out.cell mh 6 rfl; have f6 := blk_frozen HX7.out.head.2 6; have z7 := HX7.out.cell mh 7 rfl; have f7 := blk_frozen HX7.out.head.2 7; have z8 := HX7.out.cell mh 8 rfl; have f8 := blk_frozen HX7.out.head.2 8; have z9 := HX7.out.cell mh 9 rfl; have f9 := blk_frozen HX7.out.head.2 9; have z10 := HX7.out.cell mh 10 rfl; have f10 := blk_frozen HX7.out.head.2 10; clear hbox_ hb_ hg_)
      | fail)
    have HX8 := Lib.hid (show Sr w [(g9, Obj.cells #[.int .i64 0, .int .i64 0, .int .i64 0, .int .i64 0, .int .i64 0, .int .i64 0, .int .i64 0, .int .i64 0, .int .i64 0, .int .i64 0, .slice none 0 0] 46), (gg, (oCwA4 g)), (gd, (oCwA2 d)), (gf, (oCwA3 f)), (gy, (oCwA0 y))] (((((((((((w7.setCell ⟨g9, 0, none⟩ (.int .i64 0)).setCell ⟨g9, 1, none⟩ (.int .i64 0)).setCell ⟨g9, 2, none⟩ (.int .i64 0)).setCell ⟨g9, 3, none⟩ (.int .i64 0)).setCell ⟨g9, 4, none⟩ (.int .i64 0)).setCell ⟨g9, 5, none⟩ (.int .i64 0)).setCell ⟨g9, 6, none⟩ (.int .i64 0)).setCell ⟨g9, 7, none⟩ (.int .i64 0)).setCell ⟨g9, 8, none⟩ (.int .i64 0)).setCell ⟨g9, 9, none⟩ (.int .i64 0)).setCell ⟨g9, 10, none⟩ (.slice none 0 0)) from HX7.out.set11 HN7.out)
    clear HX7 HP7 HP6 HX6 HN7  z0 z1 z2 z3 z4 z5 z6 z7 z8 z9 z10 f0 f1 f2 f3 f4 f5 f6 f7 f8 f9 f10
    generalize (((((((((((w7.setCell ⟨g9, 0, none⟩ (.int .i64 0)).setCell ⟨g9, 1, none⟩ (.int .i64 0)).setCell ⟨g9, 2, none⟩ (.int .i64 0)).setCell ⟨g9, 3, none⟩ (.int .i64 0)).setCell ⟨g9, 4, none⟩ (.int .i64 0)).setCell ⟨g9, 5, none⟩ (.int .i64 0)).setCell ⟨g9, 6, none⟩ (.int .i64 0)).setCell ⟨g9, 7, none⟩ (.int .i64 0)).setCell ⟨g9, 8, none⟩ (.int .i64 0)).setCell ⟨g9, 9, none⟩ (.int .i64 0)).setCell ⟨g9, 10, none⟩ (.slice none 0 0)) = w8 at HX8 ⊢
    go_wp2_with fail
    with_reducible refine (first_call _).mono ?_
    rintro e wz ⟨rfl, hb⟩
    have HZ := Lib.hid (HX8.out.below hb)
    clear hb
    go_wp2_with fail
    go_ret
    exact ⟨rfl, HZ.out.bel⟩
  | true =>
    obtain ⟨A4, c4, he, hL⟩ := h1 rfl
    replace he : e = .returned (.tuple #[(oCwA6 y A4 c4), .bool true]) := he
    subst he
    have HL6 := Lib.hid hL
    have HOK := Lib.hid (HOk.out rfl)
    clear h0 h1 hL HOk
    go_upto_region 4 with (first
      | ((with_reducible refine gate_dst (N := 9) rfl ?_); refine box_event ?hg (N := 9) ?hd (cs := #[.int .i64 0, .int .i64 0, .int .i64 0, .int .i64 0, .int .i64 0, .int .i64 0, .int .i64 0, .int .i64 0, .int .i64 0, .int .i64 0, .slice none 0 0]) (t := 46) ?hr ?_; (case hd => rfl); (case hg => rfl); (case hr => first | (go_simp; done) | (go_simp; rfl)); intro g9 hg_ w7 hbox_ hb_; have HN7 := Lib.hid (HX6.out.nes hg_); have HX7 := Lib.hid (Sr.box HX6.out hg_ hbox_ hb_); have HP7 := Lib.hid (HP6.out.below hb_); have HL7 := Lib.hid (HL6.out.below hb_); have HG7 := Lib.hid hg_; have z0 := HX7.out.cell mh 0 rfl; have f0 := blk_frozen HX7.out.head.2 0; have z1 := HX7.out.cell mh 1 rfl; have f1 := blk_frozen HX7.out.head.2 1; have z2 := HX7.out.cell mh 2 rfl; have f2 := blk_frozen HX7.out.head.2 2; have z3 := HX7.out.cell mh 3 rfl; have f3 := blk_frozen HX7.out.head.2 3; have z4 := HX7.out.cell mh 4 rfl; have f4 := blk_frozen HX7.out.head.2 4; have z5 := HX7.out.cell mh 5 rfl; have f5 := blk_frozen HX7.out.head.2 5; have z6 := HX7.out.cell mh 6 rfl; have f6 := blk_frozen HX7.out.head.2 6; have z7 := HX7.out.cell mh 7 rfl; have f7 := blk_frozen HX7.out.head.2 7; have z8 := HX7.out.cell mh 8 rfl; have f8 := blk_frozen HX7.out.head.2 8; have z9 := HX7.out.cell mh 9 rfl; have f9 := blk_frozen HX7.out.head.2 9; have z10 := HX7.out.cell mh 10 rfl; have f10 := blk_frozen HX7.out.head.2 10; clear hbox_ hb_ hg_)
      | fail)
    have HX8 := Lib.hid (show Sr w [(g9, (oCwA1 y A4 c4)), (gg, (oCwA4 g)), (gd, (oCwA2 d)), (gf, (oCwA3 f)), (gy, (oCwA0 y))] (((((((((((w7.setCell ⟨g9, 0, none⟩ (.int .i64 y.c0)).setCell ⟨g9, 1, none⟩ (.int .i64 y.c1)).setCell ⟨g9, 2, none⟩ (.int .i64 y.c2)).setCell ⟨g9, 3, none⟩ (.int .i64 y.c3)).setCell ⟨g9, 4, none⟩ (.int .i64 y.c4)).setCell ⟨g9, 5, none⟩ (.int .i64 y.c5)).setCell ⟨g9, 6, none⟩ (.int .i64 y.c6)).setCell ⟨g9, 7, none⟩ (.int .i64 y.c7)).setCell ⟨g9, 8, none⟩ (.int .i64 y.c8)).setCell ⟨g9, 9, none⟩ (.int .i64 y.c9)).setCell ⟨g9, 10, none⟩ (.slice A4 y.l.length c4)) from HX7.out.set11 HN7.out)
    have HL8 := Lib.hid (show (y.at A4 c4).FR (((((((((((w7.setCell ⟨g9, 0, none⟩ (.int .i64 y.c0)).setCell ⟨g9, 1, none⟩ (.int .i64 y.c1)).setCell ⟨g9, 2, none⟩ (.int .i64 y.c2)).setCell ⟨g9, 3, none⟩ (.int .i64 y.c3)).setCell ⟨g9, 4, none⟩ (.int .i64 y.c4)).setCell ⟨g9, 5, none⟩ (.int .i64 y.c5)).setCell ⟨g9, 6, none⟩ (.int .i64 y.c6)).setCell ⟨g9, 7, none⟩ (.int .i64 y.c7)).setCell ⟨g9, 8, none⟩ (.int .i64 y.c8)).setCell ⟨g9, 9, none⟩ (.int .i64 y.c9)).setCell ⟨g9, 10, none⟩ (.slice A4 y.l.length c4)) w5.heap.size w6.heap.size from by with_reducible (repeat refine Ly.FR.far ?_ (Or.inr (Nat.le_of_eq HG7.out.symm))); with_reducible exact HL7.out)
    clear HX7 HP7 HP6 HX6 HN7 HL7 HL6 z0 z1 z2 z3 z4 z5 z6 z7 z8 z9 z10 f0 f1 f2 f3 f4 f5 f6 f7 f8 f9 f10
    generalize (((((((((((w7.setCell ⟨g9, 0, none⟩ (.int .i64 y.c0)).setCell ⟨g9, 1, none⟩ (.int .i64 y.c1)).setCell ⟨g9, 2, none⟩ (.int .i64 y.c2)).setCell ⟨g9, 3, none⟩ (.int .i64 y.c3)).setCell ⟨g9, 4, none⟩ (.int .i64 y.c4)).setCell ⟨g9, 5, none⟩ (.int .i64 y.c5)).setCell ⟨g9, 6, none⟩ (.int .i64 y.c6)).setCell ⟨g9, 7, none⟩ (.int .i64 y.c7)).setCell ⟨g9, 8, none⟩ (.int .i64 y.c8)).setCell ⟨g9, 9, none⟩ (.int .i64 y.c9)).setCell ⟨g9, 10, none⟩ (.slice A4 y.l.length c4)) = w8 at HX8 HL8 ⊢
    have HP8 := Lib.hid (show CwL y A4 c4 f d w8 from ⟨HL8.out.R, HR.out.below HX8.out.bel⟩)
    clear HL8
    have qf0 := HX8.out.cell (mt (mt (mt mh))) 0 rfl
    have qf1 := HX8.out.cell (mt (mt (mt mh))) 1 rfl
    have qf2 := HX8.out.cell (mt (mt (mt mh))) 2 rfl
    have qf3 := HX8.out.cell (mt (mt (mt mh))) 3 rfl
    have qf4 := HX8.out.cell (mt (mt (mt mh))) 4 rfl
    have qf5 := HX8.out.cell (mt (mt (mt mh))) 5 rfl
    have qd0 := HX8.out.cell (mt (mt mh)) 0 rfl
    have qd1 := HX8.out.cell (mt (mt mh)) 1 rfl
    have qd2 := HX8.out.cell (mt (mt mh)) 2 rfl
    have qd3 := HX8.out.cell (mt (mt mh)) 3 rfl
    have qd4 := HX8.out.cell (mt (mt mh)) 4 rfl
    have qd5 := HX8.out.cell (mt (mt mh)) 5 rfl
    have HX9 := Lib.hid (HX8.out.row (.cells #[.int .i64 d.s, .int .i64 d.e, .slice d.LA d.L.length d.Lc, .slice d.PA d.P.length d.Pc, .slice d.DA d.D.length d.Dc, .slice d.KA d.K.length d.Kc] 37))
    have HP9 := Lib.hid (HP8.out.below (allocB w8 (.cells #[.int .i64 d.s, .int .i64 d.e, .slice d.LA d.L.length d.Lc, .slice d.PA d.P.length d.Pc, .slice d.DA d.D.length d.Dc, .slice d.KA d.K.length d.Kc] 37)))
    go_wp2_with fail
    clear HX8 HP8 qf0 qf1 qf2 qf3 qf4 qf5 qd0 qd1 qd2 qd3 qd4 qd5
    generalize w8.alloc (.cells #[.int .i64 d.s, .int .i64 d.e, .slice d.LA d.L.length d.Lc, .slice d.PA d.P.length d.Pc, .slice d.DA d.D.length d.Dc, .slice d.KA d.K.length d.Kc] 37) = w9 at HX9 HP9 ⊢
    generalize w8.heap.size = bd at HX9 ⊢
    have HDR := Lib.hid (deRow1 (HX9.out.cell mh 2 rfl) (HX9.out.cell mh 3 rfl) (HX9.out.cell mh 4 rfl) (HX9.out.cell mh 5 rfl) HP9.out.rr.rd)
    with_reducible refine (few_call (n := 1) HP9.out.rr.rf (L := [d]) rfl HDR.out).mono ?_
    intro e w10 hp
    obtain ⟨r2, rfl, h2, hb2⟩ := hp
    have HX0 := Lib.hid ((HX9.out.less (rows' := [(g9, (oCwA1 y A4 c4)), (gg, (oCwA4 g)), (gd, (oCwA2 d)), (gf, (oCwA3 f)), (gy, (oCwA0 y))]) (fun r hr => mt hr)).below hb2)
    have HP0 := Lib.hid (HP9.out.below hb2)
    clear HX9 HP9 HDR hb2
    cases r2 with
    | false =>
      clear h2
      go_wp2_with fail
      with_reducible refine (first_call _).mono ?_
      rintro e wz ⟨rfl, hb⟩
      have HZ := Lib.hid (HX0.out.below hb)
      clear hb
      go_wp2_with fail
      go_ret
      exact ⟨rfl, HZ.out.bel⟩
    | true =>
      have HFe := Lib.hid (show f.few ∧ d.few from ⟨(h2 rfl).1, (h2 rfl).2.2 d List.mem_cons_self⟩)
      clear h2
      obtain ⟨bF, hbF⟩ : ∃ b, okFull (y.at A4 c4) f = b := ⟨_, rfl⟩
      obtain ⟨lF, hlF⟩ : ∃ l, fill (fB6 (y.at A4 c4) f) ((y.at A4 c4).whole (y.at A4 c4).fullLen).toNat = l := ⟨_, rfl⟩
      have HF1 := Lib.hid (show ∀ W, CwL y A4 c4 f d W → Calls Tryz.prog 12 #[(oCwA6 y A4 c4), (oCwA7 f)] W (EncPost bF lF W) from by
        rw [← hbF, ← hlF]
        exact fun W h => EncodeFull_call h.rl (at_ok HOK.out A4 c4) f h.rr.rf HFe.out.1.2.1 HFe.out.1.1 HFe.out.1.2.2.1 HB.out.f3 (Nat.le_trans HFe.out.1.2.2.2 (by decide)) HB.out.f4)
      have HF2 := Lib.hid (show ∀ W, CwL y A4 c4 f d W → Calls Tryz.prog 14 #[(oCwA7 f)] W (FullQPost f W) from fun W h => FullQ_call h.rr.rf (h3full HB.out HFe.out.1))
      have HF3 := Lib.hid (show ∀ W (q : Fq), CwL y A4 c4 f d W → Fu.Q f q → q.R W → q.V.length ≤ q.Vc → q.K.length ≤ q.Kc → Calls Tryz.prog 13 #[(oCwA5 y), q.v] W (EncPost bF lF W) from by
        rw [← hbF, ← hlF]
        exact fun W q h hQ hq h1 h2 => EncodeFullQ_of (y := y.at A4 c4) (A := y.A) (cap := y.cap) h.rr.ry (at_ok HOK.out A4 c4) hQ hq HFe.out.1.2.1 HFe.out.1.1 HFe.out.1.2.2.1 h1 (Nat.le_trans HFe.out.1.2.2.2 (by decide)) h2)
      obtain ⟨bD, hbD⟩ : ∃ b, okDelta (y.at A4 c4) d = b := ⟨_, rfl⟩
      obtain ⟨lD, hlD⟩ : ∃ l, fill (dB6 (y.at A4 c4) d) ((y.at A4 c4).whole (y.at A4 c4).deltaLen).toNat = l := ⟨_, rfl⟩
      have HD1 := Lib.hid (show ∀ W, CwL y A4 c4 f d W → Calls Tryz.prog 16 #[(oCwA6 y A4 c4), (oCwA8 d)] W (EncPost bD lD W) from by
        rw [← hbD, ← hlD]
        exact fun W h => EncodeDelta_call h.rl (at_ok HOK.out A4 c4) d h.rr.rd HFe.out.2.1 HFe.out.2.2.1 HFe.out.2.2.2.1 (Nat.le_trans HFe.out.2.2.2.2 (by decide)) HB.out.d4)
      have HD2 := Lib.hid (show ∀ W, CwL y A4 c4 f d W → Calls Tryz.prog 18 #[(oCwA8 d)] W (DeltaQPost d W) from fun W h => DeltaQ_call h.rr.rd (h3delta HB.out HFe.out.2))
      have HD3 := Lib.hid (show ∀ W (q : Dq), CwL y A4 c4 f d W → De.Q d q → q.R W → q.L.length ≤ q.Lc → q.K.length ≤ q.Kc → Calls Tryz.prog 17 #[(oCwA5 y), q.v] W (EncPost bD lD W) from by
        rw [← hbD, ← hlD]
        exact fun W q h hQ hq h1 h2 => EncodeDeltaQ_of (y := y.at A4 c4) (A := y.A) (cap := y.cap) h.rr.ry (at_ok HOK.out A4 c4) hQ hq h1 HFe.out.2.1 HFe.out.2.2.1 HFe.out.2.2.2.1 (Nat.le_trans HFe.out.2.2.2.2 (by decide)) h2)
      obtain ⟨bG, hbG⟩ : ∃ b, okLog (y.at A4 c4) g = b := ⟨_, rfl⟩
      obtain ⟨lG, hlG⟩ : ∃ l, fill (logBytes g) ((y.at A4 c4).whole 12).toNat = l := ⟨_, rfl⟩
      have HG1 := Lib.hid (show ∀ W, CwL y A4 c4 f d W → Calls Tryz.prog 19 #[(oCwA6 y A4 c4), (oCwA9 g)] W (EncPost bG lG W) from by
        rw [← hbG, ← hlG]
        exact fun W h => (EncodeLog_call h.rl (at_ok HOK.out A4 c4) g HG.out).mono fun e w' hp => LogPost.enc hp)
      have HG2 := Lib.hid (show ∀ W, CwL y A4 c4 f d W → Calls Tryz.prog 21 #[(oCwA9 g)] W (LogQPost g W) from fun W h => LogQ_call g W)
      have HG3 := Lib.hid (show ∀ W, CwL y A4 c4 f d W → Calls Tryz.prog 20 #[(oCwA5 y), (oCwA9 g)] W (EncPost bG lG W) from by
        rw [← hbG, ← hlG]
        exact fun W h => EncodeLogQ_of (y := y.at A4 c4) (A := y.A) (cap := y.cap) h.rr.ry (at_ok HOK.out A4 c4) g HG.out)
      obtain ⟨bC, hbC⟩ : ∃ b, okC f.s f.e = b := ⟨_, rfl⟩
      obtain ⟨lC, hlC⟩ : ∃ l, fill (bes 5 [f.s, f.e]) ((y.at A4 c4).c1 * 38).toNat = l := ⟨_, rfl⟩
      have HC1 := Lib.hid (show ∀ W, CwL y A4 c4 f d W → Calls Tryz.prog 22 #[(oCwA6 y A4 c4), .agg #[.int .i64 f.s, .int .i64 f.e]] W (EncPost bC lC W) from by
        rw [← hbC, ← hlC]
        exact fun W h => EncodeCommit_call h.rl (at_ok HOK.out A4 c4) f.s f.e)
      have HC2 := Lib.hid (show ∀ W, CwL y A4 c4 f d W → Calls Tryz.prog 24 #[.agg #[.int .i64 f.s, .int .i64 f.e]] W (CommitPost f.s f.e W) from fun W h => commitQ_call f.s f.e W)
      have HC3 := Lib.hid (show ∀ W, CwL y A4 c4 f d W → Calls Tryz.prog 23 #[(oCwA5 y), .agg #[.int .i64 f.s, .int .i64 f.e]] W (EncPost bC lC W) from by
        rw [← hbC, ← hlC]
        exact fun W h => EncodeCommitQ_of (y := y.at A4 c4) (A := y.A) (cap := y.cap) h.rr.ry (at_ok HOK.out A4 c4) f.s f.e)
      clear hbF hlF hbD hlD hbG hlG hbC hlC
      have ql0 := HX0.out.cell mh 0 rfl
      have ql1 := HX0.out.cell mh 1 rfl
      have ql2 := HX0.out.cell mh 2 rfl
      have ql3 := HX0.out.cell mh 3 rfl
      have ql4 := HX0.out.cell mh 4 rfl
      have ql5 := HX0.out.cell mh 5 rfl
      have ql6 := HX0.out.cell mh 6 rfl
      have ql7 := HX0.out.cell mh 7 rfl
      have ql8 := HX0.out.cell mh 8 rfl
      have ql9 := HX0.out.cell mh 9 rfl
      have ql10 := HX0.out.cell mh 10 rfl
      have qx0 := HX0.out.cell (mt (mt (mt mh))) 0 rfl
      have qx1 := HX0.out.cell (mt (mt (mt mh))) 1 rfl
      have qx2 := HX0.out.cell (mt (mt (mt mh))) 2 rfl
      have qx3 := HX0.out.cell (mt (mt (mt mh))) 3 rfl
      have qx4 := HX0.out.cell (mt (mt (mt mh))) 4 rfl
      have qx5 := HX0.out.cell (mt (mt (mt mh))) 5 rfl
      go_wp2_with fail
      with_reducible refine (HF1.out _ HP0.out).mono ?_
      intro e wa hp
      obtain ⟨A1, n1, c1, rfl, hn1, hc1, hC1, hb1⟩ := hp.reads
      have HX1 := Lib.hid (HX0.out.below hb1)
      have HP1 := Lib.hid (HP0.out.below hb1)
      obtain ⟨er, her⟩ : ∃ er : Int, (if bF = true then (0 : Int) else 1) = er := ⟨_, rfl⟩
      obtain ⟨xs, hxs⟩ : ∃ xs, (if bF = true then lF else []) = xs := ⟨_, rfl⟩
      rw [her]
      rw [hxs] at hn1 hC1
      have HCa := Lib.hid hC1
      have HE1 := Lib.hid (And.intro hn1 hc1)
      clear hp hC1 hb1 hn1 hc1 HX0 HP0 ql0 ql1 ql2 ql3 ql4 ql5 ql6 ql7 ql8 ql9 ql10 qx0 qx1 qx2 qx3 qx4 qx5
      go_upto_region 7 with fail
      have HS : ∀ w', Sr w [(g9, (oCwA1 y A4 c4)), (gg, (oCwA4 g)), (gd, (oCwA2 d)), (gf, (oCwA3 f)), (gy, (oCwA0 y))] w' → w'.cell? ⟨gy, 0, none⟩ = some (.int .i64 y.c0) ∧ w'.cell? ⟨gy, 1, none⟩ = some (.int .i64 y.c1) ∧ w'.cell? ⟨gy, 2, none⟩ = some (.int .i64 y.c2) ∧ w'.cell? ⟨gy, 3, none⟩ = some (.int .i64 y.c3) ∧ w'.cell? ⟨gy, 4, none⟩ = some (.int .i64 y.c4) ∧ w'.cell? ⟨gy, 5, none⟩ = some (.int .i64 y.c5) ∧ w'.cell? ⟨gy, 6, none⟩ = some (.int .i64 y.c6) ∧ w'.cell? ⟨gy, 7, none⟩ = some (.int .i64 y.c7) ∧ w'.cell? ⟨gy, 8, none⟩ = some (.int .i64 y.c8) ∧ w'.cell? ⟨gy, 9, none⟩ = some (.int .i64 y.c9) ∧ w'.cell? ⟨gy, 10, none⟩ = some (.slice y.A y.l.length y.cap) ∧ w'.cell? ⟨gf, 0, none⟩ = some (.int .i64 f.s) ∧ w'.cell? ⟨gf, 1, none⟩ = some (.int .i64 f.e) ∧ w'.cell? ⟨gf, 2, none⟩ = some (.slice f.PA f.P.length f.Pc) ∧ w'.cell? ⟨gf, 3, none⟩ = some (.slice f.EA f.E.length f.Ec) ∧ w'.cell? ⟨gf, 4, none⟩ = some (.slice f.VA f.V.length f.Vc) ∧ w'.cell? ⟨gf, 5, none⟩ = some (.slice f.KA f.K.length f.Kc) := fun w' h => ⟨h.cell (mt (mt (mt (mt mh)))) 0 rfl, h.cell (mt (mt (mt (mt mh)))) 1 rfl, h.cell (mt (mt (mt (mt mh)))) 2 rfl, h.cell (mt (mt (mt (mt mh)))) 3 rfl, h.cell (mt (mt (mt (mt mh)))) 4 rfl, h.cell (mt (mt (mt (mt mh)))) 5 rfl, h.cell (mt (mt (mt (mt mh)))) 6 rfl, h.cell (mt (mt (mt (mt mh)))) 7 rfl, h.cell (mt (mt (mt (mt mh)))) 8 rfl, h.cell (mt (mt (mt (mt mh)))) 9 rfl, h.cell (mt (mt (mt (mt mh)))) 10 rfl, h.cell (mt (mt (mt mh))) 0 rfl, h.cell (mt (mt (mt mh))) 1 rfl, h.cell (mt (mt (mt mh))) 2 rfl, h.cell (mt (mt (mt mh))) 3 rfl, h.cell (mt (mt (mt mh))) 4 rfl, h.cell (mt (mt (mt mh))) 5 rfl⟩
      refine stq 9 0 (fun w' => w'.cell? ⟨gy, 0, none⟩ = some (.int .i64 y.c0) ∧ w'.cell? ⟨gy, 1, none⟩ = some (.int .i64 y.c1) ∧ w'.cell? ⟨gy, 2, none⟩ = some (.int .i64 y.c2) ∧ w'.cell? ⟨gy, 3, none⟩ = some (.int .i64 y.c3) ∧ w'.cell? ⟨gy, 4, none⟩ = some (.int .i64 y.c4) ∧ w'.cell? ⟨gy, 5, none⟩ = some (.int .i64 y.c5) ∧ w'.cell? ⟨gy, 6, none⟩ = some (.int .i64 y.c6) ∧ w'.cell? ⟨gy, 7, none⟩ = some (.int .i64 y.c7) ∧ w'.cell? ⟨gy, 8, none⟩ = some (.int .i64 y.c8) ∧ w'.cell? ⟨gy, 9, none⟩ = some (.int .i64 y.c9) ∧ w'.cell? ⟨gy, 10, none⟩ = some (.slice y.A y.l.length y.cap) ∧ w'.cell? ⟨gf, 0, none⟩ = some (.int .i64 f.s) ∧ w'.cell? ⟨gf, 1, none⟩ = some (.int .i64 f.e) ∧ w'.cell? ⟨gf, 2, none⟩ = some (.slice f.PA f.P.length f.Pc) ∧ w'.cell? ⟨gf, 3, none⟩ = some (.slice f.EA f.E.length f.Ec) ∧ w'.cell? ⟨gf, 4, none⟩ = some (.slice f.VA f.V.length f.Vc) ∧ w'.cell? ⟨gf, 5, none⟩ = some (.slice f.KA f.K.length f.Kc)) (HS _ (HX1.out.below (drewB _))) (fun hHeld => ?_)
      refine tq 0 39 9 1 hHeld ?_
      refine tq 1 40 9 3 hHeld ?_
      refine oq 2 41 9 7 (fun K hK => ?_)
      refine gq Tryz.func14 #[(oCwA7 f)] ?_
      with_reducible refine ((HF2.out _ (HP1.out.below (drewB _)))).mono ?_
      rintro e wb hq
      obtain ⟨q, rfl, hQ, hqR, hq1, hq2, hb_⟩ := hq
      refine ⟨_, rfl, ?_⟩
      have HX2 := Lib.hid (Sr.below (HX1.out.below (drewB _)) hb_)
      have HP2 := Lib.hid ((HP1.out.below (drewB _)).below hb_)
      have HQ := Lib.hid (And.intro hQ (And.intro hqR (And.intro hq1 hq2))); have HBb := Lib.hid hb_; clear hQ hqR hq1 hq2
      clear hb_
      refine hK.out _ _ (HS _ HX2.out) (fun hHeld => ?_)
      clear hK K
      refine nx 41 ?_
      refine oq 3 42 9 15 (fun K hK => ?_)
      refine gq Tryz.func13 #[(oCwA5 y), q.v] ?_
      with_reducible refine ((HF3.out _ q HP2.out HQ.out.1 HQ.out.2.1 HQ.out.2.2.1 HQ.out.2.2.2)).mono ?_
      rintro e wc hp
      obtain ⟨A2, n2, c2, rfl, hn2, hc2, hC2, hb2⟩ := hp.reads
      rw [her]
      rw [hxs] at hn2 hC2
      refine ⟨_, rfl, ?_⟩
      have HX3 := Lib.hid (HX2.out.below hb2)
      have HP3 := Lib.hid (HP2.out.below hb2)
      have HCb := Lib.hid hC2
      have HB2 := Lib.hid (below_step (below_step (drewB _) HBb.out) hb2)
      have HE2 := Lib.hid (And.intro hn2 hc2)
      clear hp hC2 hb2 hn2 hc2
      refine hK.out _ _ (HS _ HX3.out) (fun hHeld => ?_)
      clear hK K
      refine nx 42 ?_
      refine pq 4 38 9 31 ?_
      refine pq 5 43 9 63 ?_
      refine pq 6 44 9 127 ?_
      refine pq 7 13 9 255 ?_
      refine pq 8 14 9 511 ?_
      refine done_ (by kernel_rfl) ?_
      clear HS hHeld
      obtain rfl : n2 = n1 := HE2.out.1.symm.trans HE1.out.1
      have eR : (er != er) = false := by simp
      have eQ : (er == er) = true := by simp
      clear HX2 HP2 HX1 HP1
      go_wp2_with fail
      with_reducible refine (Bytes_same xs HE1.out.1 (Kd.C_below HCa.out HB2.out) HE1.out.2 HCb.out HE2.out.2).mono ?_
      rintro e wd ⟨rfl, hb⟩
      have HX0 := Lib.hid (HX3.out.below hb)
      have HP0 := Lib.hid (HP3.out.below hb)
      clear hb HX3 HP3 HCa HCb HE1 HE2 her hxs
      have ql0 := HX0.out.cell mh 0 rfl
      have ql1 := HX0.out.cell mh 1 rfl
      have ql2 := HX0.out.cell mh 2 rfl
      have ql3 := HX0.out.cell mh 3 rfl
      have ql4 := HX0.out.cell mh 4 rfl
      have ql5 := HX0.out.cell mh 5 rfl
      have ql6 := HX0.out.cell mh 6 rfl
      have ql7 := HX0.out.cell mh 7 rfl
      have ql8 := HX0.out.cell mh 8 rfl
      have ql9 := HX0.out.cell mh 9 rfl
      have ql10 := HX0.out.cell mh 10 rfl
      have qx0 := HX0.out.cell (mt (mt mh)) 0 rfl
      have qx1 := HX0.out.cell (mt (mt mh)) 1 rfl
      have qx2 := HX0.out.cell (mt (mt mh)) 2 rfl
      have qx3 := HX0.out.cell (mt (mt mh)) 3 rfl
      have qx4 := HX0.out.cell (mt (mt mh)) 4 rfl
      have qx5 := HX0.out.cell (mt (mt mh)) 5 rfl
      go_wp2_with fail
      with_reducible refine (HD1.out _ HP0.out).mono ?_
      intro e wa hp
      obtain ⟨A1, n1, c1, rfl, hn1, hc1, hC1, hb1⟩ := hp.reads
      have HX1 := Lib.hid (HX0.out.below hb1)
      have HP1 := Lib.hid (HP0.out.below hb1)
      obtain ⟨er, her⟩ : ∃ er : Int, (if bD = true then (0 : Int) else 1) = er := ⟨_, rfl⟩
      obtain ⟨xs, hxs⟩ : ∃ xs, (if bD = true then lD else []) = xs := ⟨_, rfl⟩
      rw [her]
      rw [hxs] at hn1 hC1
      have HCa := Lib.hid hC1
      have HE1 := Lib.hid (And.intro hn1 hc1)
      clear hp hC1 hb1 hn1 hc1 HX0 HP0 ql0 ql1 ql2 ql3 ql4 ql5 ql6 ql7 ql8 ql9 ql10 qx0 qx1 qx2 qx3 qx4 qx5
      go_upto_region 11 with fail
      have HS : ∀ w', Sr w [(g9, (oCwA1 y A4 c4)), (gg, (oCwA4 g)), (gd, (oCwA2 d)), (gf, (oCwA3 f)), (gy, (oCwA0 y))] w' → w'.cell? ⟨gy, 0, none⟩ = some (.int .i64 y.c0) ∧ w'.cell? ⟨gy, 1, none⟩ = some (.int .i64 y.c1) ∧ w'.cell? ⟨gy, 2, none⟩ = some (.int .i64 y.c2) ∧ w'.cell? ⟨gy, 3, none⟩ = some (.int .i64 y.c3) ∧ w'.cell? ⟨gy, 4, none⟩ = some (.int .i64 y.c4) ∧ w'.cell? ⟨gy, 5, none⟩ = some (.int .i64 y.c5) ∧ w'.cell? ⟨gy, 6, none⟩ = some (.int .i64 y.c6) ∧ w'.cell? ⟨gy, 7, none⟩ = some (.int .i64 y.c7) ∧ w'.cell? ⟨gy, 8, none⟩ = some (.int .i64 y.c8) ∧ w'.cell? ⟨gy, 9, none⟩ = some (.int .i64 y.c9) ∧ w'.cell? ⟨gy, 10, none⟩ = some (.slice y.A y.l.length y.cap) ∧ w'.cell? ⟨gd, 0, none⟩ = some (.int .i64 d.s) ∧ w'.cell? ⟨gd, 1, none⟩ = some (.int .i64 d.e) ∧ w'.cell? ⟨gd, 2, none⟩ = some (.slice d.LA d.L.length d.Lc) ∧ w'.cell? ⟨gd, 3, none⟩ = some (.slice d.PA d.P.length d.Pc) ∧ w'.cell? ⟨gd, 4, none⟩ = some (.slice d.DA d.D.length d.Dc) ∧ w'.cell? ⟨gd, 5, none⟩ = some (.slice d.KA d.K.length d.Kc) := fun w' h => ⟨h.cell (mt (mt (mt (mt mh)))) 0 rfl, h.cell (mt (mt (mt (mt mh)))) 1 rfl, h.cell (mt (mt (mt (mt mh)))) 2 rfl, h.cell (mt (mt (mt (mt mh)))) 3 rfl, h.cell (mt (mt (mt (mt mh)))) 4 rfl, h.cell (mt (mt (mt (mt mh)))) 5 rfl, h.cell (mt (mt (mt (mt mh)))) 6 rfl, h.cell (mt (mt (mt (mt mh)))) 7 rfl, h.cell (mt (mt (mt (mt mh)))) 8 rfl, h.cell (mt (mt (mt (mt mh)))) 9 rfl, h.cell (mt (mt (mt (mt mh)))) 10 rfl, h.cell (mt (mt mh)) 0 rfl, h.cell (mt (mt mh)) 1 rfl, h.cell (mt (mt mh)) 2 rfl, h.cell (mt (mt mh)) 3 rfl, h.cell (mt (mt mh)) 4 rfl, h.cell (mt (mt mh)) 5 rfl⟩
      refine stq 9 0 (fun w' => w'.cell? ⟨gy, 0, none⟩ = some (.int .i64 y.c0) ∧ w'.cell? ⟨gy, 1, none⟩ = some (.int .i64 y.c1) ∧ w'.cell? ⟨gy, 2, none⟩ = some (.int .i64 y.c2) ∧ w'.cell? ⟨gy, 3, none⟩ = some (.int .i64 y.c3) ∧ w'.cell? ⟨gy, 4, none⟩ = some (.int .i64 y.c4) ∧ w'.cell? ⟨gy, 5, none⟩ = some (.int .i64 y.c5) ∧ w'.cell? ⟨gy, 6, none⟩ = some (.int .i64 y.c6) ∧ w'.cell? ⟨gy, 7, none⟩ = some (.int .i64 y.c7) ∧ w'.cell? ⟨gy, 8, none⟩ = some (.int .i64 y.c8) ∧ w'.cell? ⟨gy, 9, none⟩ = some (.int .i64 y.c9) ∧ w'.cell? ⟨gy, 10, none⟩ = some (.slice y.A y.l.length y.cap) ∧ w'.cell? ⟨gd, 0, none⟩ = some (.int .i64 d.s) ∧ w'.cell? ⟨gd, 1, none⟩ = some (.int .i64 d.e) ∧ w'.cell? ⟨gd, 2, none⟩ = some (.slice d.LA d.L.length d.Lc) ∧ w'.cell? ⟨gd, 3, none⟩ = some (.slice d.PA d.P.length d.Pc) ∧ w'.cell? ⟨gd, 4, none⟩ = some (.slice d.DA d.D.length d.Dc) ∧ w'.cell? ⟨gd, 5, none⟩ = some (.slice d.KA d.K.length d.Kc)) (HS _ (HX1.out.below (drewB _))) (fun hHeld => ?_)
      refine tq 0 61 9 1 hHeld ?_
      refine tq 1 62 9 3 hHeld ?_
      refine oq 2 63 9 7 (fun K hK => ?_)
      refine gq Tryz.func18 #[(oCwA8 d)] ?_
      with_reducible refine ((HD2.out _ (HP1.out.below (drewB _)))).mono ?_
      rintro e wb hq
      obtain ⟨q, rfl, hQ, hqR, hq1, hq2, hb_⟩ := hq
      refine ⟨_, rfl, ?_⟩
      have HX2 := Lib.hid (Sr.below (HX1.out.below (drewB _)) hb_)
      have HP2 := Lib.hid ((HP1.out.below (drewB _)).below hb_)
      have HQ := Lib.hid (And.intro hQ (And.intro hqR (And.intro hq1 hq2))); have HBb := Lib.hid hb_; clear hQ hqR hq1 hq2
      clear hb_
      refine hK.out _ _ (HS _ HX2.out) (fun hHeld => ?_)
      clear hK K
      refine nx 63 ?_
      refine oq 3 64 9 15 (fun K hK => ?_)
      refine gq Tryz.func17 #[(oCwA5 y), q.v] ?_
      with_reducible refine ((HD3.out _ q HP2.out HQ.out.1 HQ.out.2.1 HQ.out.2.2.1 HQ.out.2.2.2)).mono ?_
      rintro e wc hp
      obtain ⟨A2, n2, c2, rfl, hn2, hc2, hC2, hb2⟩ := hp.reads
      rw [her]
      rw [hxs] at hn2 hC2
      refine ⟨_, rfl, ?_⟩
      have HX3 := Lib.hid (HX2.out.below hb2)
      have HP3 := Lib.hid (HP2.out.below hb2)
      have HCb := Lib.hid hC2
      have HB2 := Lib.hid (below_step (below_step (drewB _) HBb.out) hb2)
      have HE2 := Lib.hid (And.intro hn2 hc2)
      clear hp hC2 hb2 hn2 hc2
      refine hK.out _ _ (HS _ HX3.out) (fun hHeld => ?_)
      clear hK K
      refine nx 64 ?_
      refine pq 4 60 9 31 ?_
      refine pq 5 65 9 63 ?_
      refine pq 6 66 9 127 ?_
      refine pq 7 13 9 255 ?_
      refine pq 8 14 9 511 ?_
      refine done_ (by kernel_rfl) ?_
      clear HS hHeld
      obtain rfl : n2 = n1 := HE2.out.1.symm.trans HE1.out.1
      have eR : (er != er) = false := by simp
      have eQ : (er == er) = true := by simp
      clear HX2 HP2 HX1 HP1
      go_wp2_with fail
      with_reducible refine (Bytes_same xs HE1.out.1 (Kd.C_below HCa.out HB2.out) HE1.out.2 HCb.out HE2.out.2).mono ?_
      rintro e wd ⟨rfl, hb⟩
      have HX0 := Lib.hid (HX3.out.below hb)
      have HP0 := Lib.hid (HP3.out.below hb)
      clear hb HX3 HP3 HCa HCb HE1 HE2 her hxs
      have ql0 := HX0.out.cell mh 0 rfl
      have ql1 := HX0.out.cell mh 1 rfl
      have ql2 := HX0.out.cell mh 2 rfl
      have ql3 := HX0.out.cell mh 3 rfl
      have ql4 := HX0.out.cell mh 4 rfl
      have ql5 := HX0.out.cell mh 5 rfl
      have ql6 := HX0.out.cell mh 6 rfl
      have ql7 := HX0.out.cell mh 7 rfl
      have ql8 := HX0.out.cell mh 8 rfl
      have ql9 := HX0.out.cell mh 9 rfl
      have ql10 := HX0.out.cell mh 10 rfl
      have qx0 := HX0.out.cell (mt mh) 0 rfl
      have qx1 := HX0.out.cell (mt mh) 1 rfl
      have qx2 := HX0.out.cell (mt mh) 2 rfl
      have qx3 := HX0.out.cell (mt mh) 3 rfl
      have qx4 := HX0.out.cell (mt mh) 4 rfl
      go_wp2_with fail
      with_reducible refine (HG1.out _ HP0.out).mono ?_
      intro e wa hp
      obtain ⟨A1, n1, c1, rfl, hn1, hc1, hC1, hb1⟩ := hp.reads
      have HX1 := Lib.hid (HX0.out.below hb1)
      have HP1 := Lib.hid (HP0.out.below hb1)
      obtain ⟨er, her⟩ : ∃ er : Int, (if bG = true then (0 : Int) else 1) = er := ⟨_, rfl⟩
      obtain ⟨xs, hxs⟩ : ∃ xs, (if bG = true then lG else []) = xs := ⟨_, rfl⟩
      rw [her]
      rw [hxs] at hn1 hC1
      have HCa := Lib.hid hC1
      have HE1 := Lib.hid (And.intro hn1 hc1)
      clear hp hC1 hb1 hn1 hc1 HX0 HP0 ql0 ql1 ql2 ql3 ql4 ql5 ql6 ql7 ql8 ql9 ql10 qx0 qx1 qx2 qx3 qx4
      go_upto_region 15 with fail
      have HS : ∀ w', Sr w [(g9, (oCwA1 y A4 c4)), (gg, (oCwA4 g)), (gd, (oCwA2 d)), (gf, (oCwA3 f)), (gy, (oCwA0 y))] w' → w'.cell? ⟨gy, 0, none⟩ = some (.int .i64 y.c0) ∧ w'.cell? ⟨gy, 1, none⟩ = some (.int .i64 y.c1) ∧ w'.cell? ⟨gy, 2, none⟩ = some (.int .i64 y.c2) ∧ w'.cell? ⟨gy, 3, none⟩ = some (.int .i64 y.c3) ∧ w'.cell? ⟨gy, 4, none⟩ = some (.int .i64 y.c4) ∧ w'.cell? ⟨gy, 5, none⟩ = some (.int .i64 y.c5) ∧ w'.cell? ⟨gy, 6, none⟩ = some (.int .i64 y.c6) ∧ w'.cell? ⟨gy, 7, none⟩ = some (.int .i64 y.c7) ∧ w'.cell? ⟨gy, 8, none⟩ = some (.int .i64 y.c8) ∧ w'.cell? ⟨gy, 9, none⟩ = some (.int .i64 y.c9) ∧ w'.cell? ⟨gy, 10, none⟩ = some (.slice y.A y.l.length y.cap) ∧ w'.cell? ⟨gg, 0, none⟩ = some (.int .i64 g.s) ∧ w'.cell? ⟨gg, 1, none⟩ = some (.int .i64 g.i) ∧ w'.cell? ⟨gg, 2, none⟩ = some (.int .i64 g.d) ∧ w'.cell? ⟨gg, 3, none⟩ = some (.int .i64 g.f) ∧ w'.cell? ⟨gg, 4, none⟩ = some (.int .i64 g.t) := fun w' h => ⟨h.cell (mt (mt (mt (mt mh)))) 0 rfl, h.cell (mt (mt (mt (mt mh)))) 1 rfl, h.cell (mt (mt (mt (mt mh)))) 2 rfl, h.cell (mt (mt (mt (mt mh)))) 3 rfl, h.cell (mt (mt (mt (mt mh)))) 4 rfl, h.cell (mt (mt (mt (mt mh)))) 5 rfl, h.cell (mt (mt (mt (mt mh)))) 6 rfl, h.cell (mt (mt (mt (mt mh)))) 7 rfl, h.cell (mt (mt (mt (mt mh)))) 8 rfl, h.cell (mt (mt (mt (mt mh)))) 9 rfl, h.cell (mt (mt (mt (mt mh)))) 10 rfl, h.cell (mt mh) 0 rfl, h.cell (mt mh) 1 rfl, h.cell (mt mh) 2 rfl, h.cell (mt mh) 3 rfl, h.cell (mt mh) 4 rfl⟩
      refine stq 9 0 (fun w' => w'.cell? ⟨gy, 0, none⟩ = some (.int .i64 y.c0) ∧ w'.cell? ⟨gy, 1, none⟩ = some (.int .i64 y.c1) ∧ w'.cell? ⟨gy, 2, none⟩ = some (.int .i64 y.c2) ∧ w'.cell? ⟨gy, 3, none⟩ = some (.int .i64 y.c3) ∧ w'.cell? ⟨gy, 4, none⟩ = some (.int .i64 y.c4) ∧ w'.cell? ⟨gy, 5, none⟩ = some (.int .i64 y.c5) ∧ w'.cell? ⟨gy, 6, none⟩ = some (.int .i64 y.c6) ∧ w'.cell? ⟨gy, 7, none⟩ = some (.int .i64 y.c7) ∧ w'.cell? ⟨gy, 8, none⟩ = some (.int .i64 y.c8) ∧ w'.cell? ⟨gy, 9, none⟩ = some (.int .i64 y.c9) ∧ w'.cell? ⟨gy, 10, none⟩ = some (.slice y.A y.l.length y.cap) ∧ w'.cell? ⟨gg, 0, none⟩ = some (.int .i64 g.s) ∧ w'.cell? ⟨gg, 1, none⟩ = some (.int .i64 g.i) ∧ w'.cell? ⟨gg, 2, none⟩ = some (.int .i64 g.d) ∧ w'.cell? ⟨gg, 3, none⟩ = some (.int .i64 g.f) ∧ w'.cell? ⟨gg, 4, none⟩ = some (.int .i64 g.t)) (HS _ (HX1.out.below (drewB _))) (fun hHeld => ?_)
      refine tq 0 83 9 1 hHeld ?_
      refine tq 1 84 9 3 hHeld ?_
      refine oq 2 85 9 7 (fun K hK => ?_)
      refine gq Tryz.func21 #[(oCwA9 g)] ?_
      with_reducible refine ((HG2.out _ (HP1.out.below (drewB _)))).mono ?_
      rintro e wb hq
      obtain ⟨rfl, hb_⟩ := hq
      refine ⟨_, rfl, ?_⟩
      have HX2 := Lib.hid (Sr.below (HX1.out.below (drewB _)) hb_)
      have HP2 := Lib.hid ((HP1.out.below (drewB _)).below hb_)
      have HBb := Lib.hid hb_
      clear hb_
      refine hK.out _ _ (HS _ HX2.out) (fun hHeld => ?_)
      clear hK K
      refine nx 85 ?_
      refine oq 3 86 9 15 (fun K hK => ?_)
      refine gq Tryz.func20 #[(oCwA5 y), (oCwA9 g)] ?_
      with_reducible refine ((HG3.out _ HP2.out)).mono ?_
      rintro e wc hp
      obtain ⟨A2, n2, c2, rfl, hn2, hc2, hC2, hb2⟩ := hp.reads
      rw [her]
      rw [hxs] at hn2 hC2
      refine ⟨_, rfl, ?_⟩
      have HX3 := Lib.hid (HX2.out.below hb2)
      have HP3 := Lib.hid (HP2.out.below hb2)
      have HCb := Lib.hid hC2
      have HB2 := Lib.hid (below_step (below_step (drewB _) HBb.out) hb2)
      have HE2 := Lib.hid (And.intro hn2 hc2)
      clear hp hC2 hb2 hn2 hc2
      refine hK.out _ _ (HS _ HX3.out) (fun hHeld => ?_)
      clear hK K
      refine nx 86 ?_
      refine pq 4 82 9 31 ?_
      refine pq 5 87 9 63 ?_
      refine pq 6 88 9 127 ?_
      refine pq 7 13 9 255 ?_
      refine pq 8 14 9 511 ?_
      refine done_ (by kernel_rfl) ?_
      clear HS hHeld
      obtain rfl : n2 = n1 := HE2.out.1.symm.trans HE1.out.1
      have eR : (er != er) = false := by simp
      have eQ : (er == er) = true := by simp
      clear HX2 HP2 HX1 HP1
      go_wp2_with fail
      with_reducible refine (Bytes_same xs HE1.out.1 (Kd.C_below HCa.out HB2.out) HE1.out.2 HCb.out HE2.out.2).mono ?_
      rintro e wd ⟨rfl, hb⟩
      have HX0 := Lib.hid (HX3.out.below hb)
      have HP0 := Lib.hid (HP3.out.below hb)
      clear hb HX3 HP3 HCa HCb HE1 HE2 her hxs
      have ql0 := HX0.out.cell mh 0 rfl
      have ql1 := HX0.out.cell mh 1 rfl
      have ql2 := HX0.out.cell mh 2 rfl
      have ql3 := HX0.out.cell mh 3 rfl
      have ql4 := HX0.out.cell mh 4 rfl
      have ql5 := HX0.out.cell mh 5 rfl
      have ql6 := HX0.out.cell mh 6 rfl
      have ql7 := HX0.out.cell mh 7 rfl
      have ql8 := HX0.out.cell mh 8 rfl
      have ql9 := HX0.out.cell mh 9 rfl
      have ql10 := HX0.out.cell mh 10 rfl
      have qx0 := HX0.out.cell (mt (mt (mt mh))) 0 rfl
      have qx1 := HX0.out.cell (mt (mt (mt mh))) 1 rfl
      go_wp2_with fail
      with_reducible refine (HC1.out _ HP0.out).mono ?_
      intro e wa hp
      obtain ⟨A1, n1, c1, rfl, hn1, hc1, hC1, hb1⟩ := hp.reads
      have HX1 := Lib.hid (HX0.out.below hb1)
      have HP1 := Lib.hid (HP0.out.below hb1)
      obtain ⟨er, her⟩ : ∃ er : Int, (if bC = true then (0 : Int) else 1) = er := ⟨_, rfl⟩
      obtain ⟨xs, hxs⟩ : ∃ xs, (if bC = true then lC else []) = xs := ⟨_, rfl⟩
      rw [her]
      rw [hxs] at hn1 hC1
      have HCa := Lib.hid hC1
      have HE1 := Lib.hid (And.intro hn1 hc1)
      clear hp hC1 hb1 hn1 hc1 HX0 HP0 ql0 ql1 ql2 ql3 ql4 ql5 ql6 ql7 ql8 ql9 ql10 qx0 qx1
      go_upto_region 19 with fail
      have HS : ∀ w', Sr w [(g9, (oCwA1 y A4 c4)), (gg, (oCwA4 g)), (gd, (oCwA2 d)), (gf, (oCwA3 f)), (gy, (oCwA0 y))] w' → w'.cell? ⟨gy, 0, none⟩ = some (.int .i64 y.c0) ∧ w'.cell? ⟨gy, 1, none⟩ = some (.int .i64 y.c1) ∧ w'.cell? ⟨gy, 2, none⟩ = some (.int .i64 y.c2) ∧ w'.cell? ⟨gy, 3, none⟩ = some (.int .i64 y.c3) ∧ w'.cell? ⟨gy, 4, none⟩ = some (.int .i64 y.c4) ∧ w'.cell? ⟨gy, 5, none⟩ = some (.int .i64 y.c5) ∧ w'.cell? ⟨gy, 6, none⟩ = some (.int .i64 y.c6) ∧ w'.cell? ⟨gy, 7, none⟩ = some (.int .i64 y.c7) ∧ w'.cell? ⟨gy, 8, none⟩ = some (.int .i64 y.c8) ∧ w'.cell? ⟨gy, 9, none⟩ = some (.int .i64 y.c9) ∧ w'.cell? ⟨gy, 10, none⟩ = some (.slice y.A y.l.length y.cap) ∧ w'.cell? ⟨gf, 0, none⟩ = some (.int .i64 f.s) ∧ w'.cell? ⟨gf, 1, none⟩ = some (.int .i64 f.e) := fun w' h => ⟨h.cell (mt (mt (mt (mt mh)))) 0 rfl, h.cell (mt (mt (mt (mt mh)))) 1 rfl, h.cell (mt (mt (mt (mt mh)))) 2 rfl, h.cell (mt (mt (mt (mt mh)))) 3 rfl, h.cell (mt (mt (mt (mt mh)))) 4 rfl, h.cell (mt (mt (mt (mt mh)))) 5 rfl, h.cell (mt (mt (mt (mt mh)))) 6 rfl, h.cell (mt (mt (mt (mt mh)))) 7 rfl, h.cell (mt (mt (mt (mt mh)))) 8 rfl, h.cell (mt (mt (mt (mt mh)))) 9 rfl, h.cell (mt (mt (mt (mt mh)))) 10 rfl, h.cell (mt (mt (mt mh))) 0 rfl, h.cell (mt (mt (mt mh))) 1 rfl⟩
      refine stq 10 0 (fun w' => w'.cell? ⟨gy, 0, none⟩ = some (.int .i64 y.c0) ∧ w'.cell? ⟨gy, 1, none⟩ = some (.int .i64 y.c1) ∧ w'.cell? ⟨gy, 2, none⟩ = some (.int .i64 y.c2) ∧ w'.cell? ⟨gy, 3, none⟩ = some (.int .i64 y.c3) ∧ w'.cell? ⟨gy, 4, none⟩ = some (.int .i64 y.c4) ∧ w'.cell? ⟨gy, 5, none⟩ = some (.int .i64 y.c5) ∧ w'.cell? ⟨gy, 6, none⟩ = some (.int .i64 y.c6) ∧ w'.cell? ⟨gy, 7, none⟩ = some (.int .i64 y.c7) ∧ w'.cell? ⟨gy, 8, none⟩ = some (.int .i64 y.c8) ∧ w'.cell? ⟨gy, 9, none⟩ = some (.int .i64 y.c9) ∧ w'.cell? ⟨gy, 10, none⟩ = some (.slice y.A y.l.length y.cap) ∧ w'.cell? ⟨gf, 0, none⟩ = some (.int .i64 f.s) ∧ w'.cell? ⟨gf, 1, none⟩ = some (.int .i64 f.e)) (HS _ (HX1.out.below (drewB _))) (fun hHeld => ?_)
      refine pq 1 107 10 2 ?_
      refine tq 0 106 10 3 hHeld ?_
      refine tq 2 108 10 7 hHeld ?_
      refine oq 3 109 10 15 (fun K hK => ?_)
      refine gq Tryz.func24 #[.agg #[.int .i64 f.s, .int .i64 f.e]] ?_
      with_reducible refine ((HC2.out _ (HP1.out.below (drewB _)))).mono ?_
      rintro e wb hq
      obtain ⟨rfl, hb_⟩ := hq
      refine ⟨_, rfl, ?_⟩
      have HX2 := Lib.hid (Sr.below (HX1.out.below (drewB _)) hb_)
      have HP2 := Lib.hid ((HP1.out.below (drewB _)).below hb_)
      have HBb := Lib.hid hb_
      clear hb_
      refine hK.out _ _ (HS _ HX2.out) (fun hHeld => ?_)
      clear hK K
      refine nx 109 ?_
      refine oq 4 110 10 31 (fun K hK => ?_)
      refine gq Tryz.func23 #[(oCwA5 y), .agg #[.int .i64 f.s, .int .i64 f.e]] ?_
      with_reducible refine ((HC3.out _ HP2.out)).mono ?_
      rintro e wc hp
      obtain ⟨A2, n2, c2, rfl, hn2, hc2, hC2, hb2⟩ := hp.reads
      rw [her]
      rw [hxs] at hn2 hC2
      refine ⟨_, rfl, ?_⟩
      have HX3 := Lib.hid (HX2.out.below hb2)
      have HP3 := Lib.hid (HP2.out.below hb2)
      have HCb := Lib.hid hC2
      have HB2 := Lib.hid (below_step (below_step (drewB _) HBb.out) hb2)
      have HE2 := Lib.hid (And.intro hn2 hc2)
      clear hp hC2 hb2 hn2 hc2
      refine hK.out _ _ (HS _ HX3.out) (fun hHeld => ?_)
      clear hK K
      refine nx 110 ?_
      refine pq 5 105 10 63 ?_
      refine pq 6 111 10 127 ?_
      refine pq 7 112 10 255 ?_
      refine pq 8 13 10 511 ?_
      refine pq 9 14 10 1023 ?_
      refine done_ (by kernel_rfl) ?_
      clear HS hHeld
      obtain rfl : n2 = n1 := HE2.out.1.symm.trans HE1.out.1
      have eR : (er != er) = false := by simp
      have eQ : (er == er) = true := by simp
      clear HX2 HP2 HX1 HP1
      go_wp2_with fail
      with_reducible refine (first_call _).mono ?_
      rintro e wq ⟨rfl, hb⟩
      have HX4 := Lib.hid (HX3.out.below hb)
      have HP4 := Lib.hid (HP3.out.below hb)
      have HB4 := Lib.hid (below_step HB2.out hb)
      have HC4 := Lib.hid (Kd.C_below HCb.out hb)
      clear hb
      go_wp2_with fail
      with_reducible refine (Bytes_same xs HE1.out.1 (Kd.C_below HCa.out HB4.out) HE1.out.2 HC4.out HE2.out.2).mono ?_
      rintro e wd ⟨rfl, hb⟩
      have HX0 := Lib.hid (HX4.out.below hb)
      have HP0 := Lib.hid (HP4.out.below hb)
      clear hb HX3 HP3 HE1 HE2 her hxs
      go_wp2_with fail
      go_ret
      exact ⟨rfl, HX0.out.bel⟩
end Go.Proofs.YtmbnomlkhmcmaaaGreat.A
end
section
namespace Go.Proofs.YtmbnomlkhmcmaaaGreat.A
open Go.RowKit Go.Shelf Go.Proofs.YtmbnomlkhmcmaaaGreatW.PrintWords Go.Proofs.YtmbnomlkhmcmaaaGreat.B Go.Proofs.YtmbnomlkhmcmaaaGreat.C Go.ChangeShapes Go.WideShapes Go.ChangeAt
set_option linter.unusedVariables false
section
variable {H : Type} {enc : TypeId × Value → H} {W : World}
abbrev FA (f : Field) (cs : List Value) : Prop := ∃ m y, DataW.trod enc Tryz.prog W 0 (fun _ => true) true m f.type ((cs.drop f.offset).take (Tryz.prog.cellsOf f.type)) = some y
theorem fields_at {t : TypeId} {fs : Array Field} {n : Nat} {cs : List Value} {x : DataW H × List MemPlace} (ht : Tryz.prog.underlying t = some (.struct fs)) (h : DataW.trod enc Tryz.prog W 0 (fun _ => true) true n t cs = some x) :
    cs.length = Tryz.prog.cellsOf t ∧ ∀ (i : Nat) (f : Field), fs[i]? = some f → FA (enc := enc) (W := W) f cs := by
  obtain ⟨xs, m, _, _, hl, hlen, hf⟩ := DataW.trod_struct ht h
  refine ⟨hl, fun i f hi => ?_⟩
  have h1 := (Array.getElem?_eq_some_iff.1 hi).1
  exact ⟨m, xs[i], (hf i f hi).trans (List.getElem?_eq_getElem (by omega))⟩
theorem fields2 {t : TypeId} {f0 f1 : Field} {n : Nat} {cs : List Value} {x : DataW H × List MemPlace} (ht : Tryz.prog.underlying t = some (.struct #[f0, f1])) (h : DataW.trod enc Tryz.prog W 0 (fun _ => true) true n t cs = some x) :
    cs.length = Tryz.prog.cellsOf t ∧ FA (enc := enc) (W := W) f0 cs ∧ FA (enc := enc) (W := W) f1 cs := by
  obtain ⟨hl, hf⟩ := fields_at ht h
  exact ⟨hl, hf 0 _ rfl, hf 1 _ rfl⟩
theorem fields3 {t : TypeId} {f0 f1 f2 : Field} {n : Nat} {cs : List Value} {x : DataW H × List MemPlace} (ht : Tryz.prog.underlying t = some (.struct #[f0, f1, f2])) (h : DataW.trod enc Tryz.prog W 0 (fun _ => true) true n t cs = some x) :
    cs.length = Tryz.prog.cellsOf t ∧ FA (enc := enc) (W := W) f0 cs ∧ FA (enc := enc) (W := W) f1 cs ∧ FA (enc := enc) (W := W) f2 cs := by
  obtain ⟨hl, hf⟩ := fields_at ht h
  exact ⟨hl, hf 0 _ rfl, hf 1 _ rfl, hf 2 _ rfl⟩
theorem fields5 {t : TypeId} {f0 f1 f2 f3 f4 : Field} {n : Nat} {cs : List Value} {x : DataW H × List MemPlace} (ht : Tryz.prog.underlying t = some (.struct #[f0, f1, f2, f3, f4])) (h : DataW.trod enc Tryz.prog W 0 (fun _ => true) true n t cs = some x) :
    cs.length = Tryz.prog.cellsOf t ∧ FA (enc := enc) (W := W) f0 cs ∧ FA (enc := enc) (W := W) f1 cs ∧ FA (enc := enc) (W := W) f2 cs ∧ FA (enc := enc) (W := W) f3 cs ∧ FA (enc := enc) (W := W) f4 cs := by
  obtain ⟨hl, hf⟩ := fields_at ht h
  exact ⟨hl, hf 0 _ rfl, hf 1 _ rfl, hf 2 _ rfl, hf 3 _ rfl, hf 4 _ rfl⟩
theorem fields11 {t : TypeId} {f0 f1 f2 f3 f4 f5 f6 f7 f8 f9 f10 : Field} {n : Nat} {cs : List Value} {x : DataW H × List MemPlace} (ht : Tryz.prog.underlying t = some (.struct #[f0, f1, f2, f3, f4, f5, f6, f7, f8, f9, f10])) (h : DataW.trod enc Tryz.prog W 0 (fun _ => true) true n t cs = some x) :
    cs.length = Tryz.prog.cellsOf t ∧ FA (enc := enc) (W := W) f0 cs ∧ FA (enc := enc) (W := W) f1 cs ∧ FA (enc := enc) (W := W) f2 cs ∧ FA (enc := enc) (W := W) f3 cs ∧ FA (enc := enc) (W := W) f4 cs ∧ FA (enc := enc) (W := W) f5 cs ∧ FA (enc := enc) (W := W) f6 cs ∧ FA (enc := enc) (W := W) f7 cs ∧ FA (enc := enc) (W := W) f8 cs ∧ FA (enc := enc) (W := W) f9 cs ∧ FA (enc := enc) (W := W) f10 cs := by
  obtain ⟨hl, hf⟩ := fields_at ht h
  exact ⟨hl, hf 0 _ rfl, hf 1 _ rfl, hf 2 _ rfl, hf 3 _ rfl, hf 4 _ rfl, hf 5 _ rfl, hf 6 _ rfl, hf 7 _ rfl, hf 8 _ rfl, hf 9 _ rfl, hf 10 _ rfl⟩
theorem open_int_at {n : Nat} {cs : List Value} {x : DataW H × List MemPlace} (h : DataW.trod enc Tryz.prog W 0 (fun _ => true) true n 3 cs = some x) : ∃ i, cs = [.int .i64 i] ∧ (-9223372036854775808 ≤ i ∧ i ≤ 9223372036854775807) := by
  obtain ⟨i, rfl, _, hw⟩ := DataW.trod_int Tryz.underlying3 h
  refine ⟨i, rfl, ?_⟩
  simp [Lit.wf, IntKind.min, IntKind.max, IntKind.signed, IntKind.bits] at hw
  omega
theorem open_bool_at {n : Nat} {cs : List Value} {x : DataW H × List MemPlace} (h : DataW.trod enc Tryz.prog W 0 (fun _ => true) true n 4 cs = some x) : ∃ b, cs = [.bool b] := by
  obtain ⟨b, h, _⟩ := DataW.trod_bool Tryz.underlying4 h
  exact ⟨b, h⟩
theorem open_str_at {n : Nat} {cs : List Value} {x : DataW H × List MemPlace} (h : DataW.trod enc Tryz.prog W 0 (fun _ => true) true n 9 cs = some x) : ∃ s : ByteArray, cs = [.string s] := by
  obtain ⟨s, h, _, _⟩ := DataW.trod_string Tryz.underlying9 h
  exact ⟨s, h⟩
theorem open_bytes_at {n : Nat} {cs : List Value} {x : DataW H × List MemPlace} (h : DataW.trod enc Tryz.prog W 0 (fun _ => true) true n 29 cs = some x) : ∃ A xs c, cs = [.slice A (xs : List Int).length c] ∧ xs.length ≤ c ∧ Kd.C (Kd.int .u8) W A xs.length xs ∧ u8ok xs := by
  rcases open_ints Tryz.underlying29 Tryz.underlying5 (by kernel_rfl) h with ⟨rfl, _⟩ | ⟨a, len, cap, zs, rfl, _, hl, hm, hz, _, hcell, hwz⟩
  · exact ⟨none, [], 0, rfl, Nat.le_refl _, Kd.C_nil _ _, fun x hx => by cases hx⟩
  · obtain ⟨l, rfl, hr, _, hw, hc⟩ := ReadsInt.ofRowC (k := .u8) (w := W) (a := some a) (len := len) (cap := cap) (zs := zs) (.inr ⟨_, rfl, hl, hm, by simpa using hz, hcell, hwz⟩)
    refine ⟨some a, l, cap, rfl, hc, Kd.C_of_reads (d := (0 : Int)) (h1 := fun _ => rfl) hr, fun x hx => ?_⟩
    have h := hw x hx
    simp [Lit.wf, IntKind.min, IntKind.max, IntKind.signed, IntKind.bits] at h
    omega
theorem open_nums_at {n : Nat} {cs : List Value} {x : DataW H × List MemPlace} (h : DataW.trod enc Tryz.prog W 0 (fun _ => true) true n 33 cs = some x) : ∃ A xs c, cs = [.slice A (xs : List Int).length c] ∧ xs.length ≤ c ∧ Kd.C (Kd.int .i64) W A xs.length xs := by
  rcases open_ints Tryz.underlying33 Tryz.underlying3 (by kernel_rfl) h with ⟨rfl, _⟩ | ⟨a, len, cap, zs, rfl, _, hl, hm, hz, _, hcell, hwz⟩
  · exact ⟨none, [], 0, rfl, Nat.le_refl _, Kd.C_nil _ _⟩
  · obtain ⟨l, rfl, hr, _, hw, hc⟩ := ReadsInt.ofRowC (k := .i64) (w := W) (a := some a) (len := len) (cap := cap) (zs := zs) (.inr ⟨_, rfl, hl, hm, by simpa using hz, hcell, hwz⟩)
    exact ⟨some a, l, cap, rfl, hc, Kd.C_of_reads (d := (0 : Int)) (h1 := fun _ => rfl) hr⟩
theorem list_of {α : Type} {Q : Nat → α → Prop} : ∀ (n : Nat), (∀ i, i < n → ∃ a, Q i a) → ∃ l : List α, l.length = n ∧ ∀ (i : Nat) a, l[i]? = some a → Q i a
  | 0, _ => ⟨[], rfl, fun i a h => by simp at h⟩
  | n + 1, h => by
    obtain ⟨l, hl, hq⟩ := list_of n (fun i hi => h i (by omega))
    obtain ⟨a, ha⟩ := h n (by omega)
    refine ⟨l ++ [a], by simp [hl], fun i b hb => ?_⟩
    by_cases hi : i < l.length
    · rw [List.getElem?_append_left hi] at hb
      exact hq i b hb
    · have hi2 : i = n := by
        have := (List.getElem?_eq_some_iff.1 hb).1
        simp at this
        omega
      subst hi2
      rw [List.getElem?_append_right (by omega), hl] at hb
      simp at hb
      exact hb ▸ ha
theorem addr_add (a : Addr) (i j : Nat) : (a.add i).add j = a.add (i + j) := by
  unfold Addr.add
  split <;> split <;> split <;> simp_all <;> omega
theorem open_row {α : Type} (k : Kd α) {t e : TypeId} (ht : Tryz.prog.underlying t = some (.slice e)) (hsz : Tryz.prog.cellsOf e = k.sz) (he : ∀ n cs x, DataW.trod enc Tryz.prog W 0 (fun _ => true) true n e cs = some x → ∃ b, k.K W b cs) {n : Nat} {cs : List Value} {x : DataW H × List MemPlace} (h : DataW.trod enc Tryz.prog W 0 (fun _ => true) true n t cs = some x) :
    ∃ A l c, cs = [.slice A (l : List α).length c] ∧ l.length ≤ c ∧ Kd.C k W A l.length l := by
  rcases Go.Deep.open_slice ht h with ⟨rfl, _⟩ | ⟨a, len, cap, m, q, D, Pl, rfl, _, hl, hm, hmm, _, hx⟩
  · exact ⟨none, [], 0, rfl, Nat.le_refl _, Kd.C_nil _ _⟩
  · have hlm : len ≤ m := by rw [hmm]; split <;> omega
    obtain ⟨l, rfl, hq⟩ := list_of (Q := fun i (b : α) => ∃ cs', cs'.length = k.sz ∧ k.K W b cs' ∧ (∀ j u, cs'[j]? = some u → W.cell? (a.add (i * k.sz + j)) = some u)) len (fun i hi => by
      obtain ⟨cs', h1, h2⟩ := hx i (by omega)
      rw [hsz] at h1
      obtain ⟨_, hlen, hcell⟩ := World.cells?_some h1
      obtain ⟨b, hb⟩ := he _ _ _ h2
      refine ⟨b, cs', hlen, hb, fun j u hu => ?_⟩
      have hj : j < k.sz := by have := (List.getElem?_eq_some_iff.1 hu).1; omega
      have := hcell j hj
      rw [hu] at this
      rw [← this, addr_add])
    have hbig : l.length ≤ 9223372036854775807 := by unfold maxLen at hm; omega
    refine ⟨some a, l, cap, rfl, hl, ⟨rfl, hbig, fun _ => ⟨a, rfl, fun j p hj => ?_⟩⟩⟩
    obtain ⟨cs', e1, e2, e3⟩ := hq j p hj
    exact ⟨cs', e1, e2, e3⟩
theorem open_place_at {n : Nat} {cs : List Value} {x : DataW H × List MemPlace} (h : DataW.trod enc Tryz.prog W 0 (fun _ => true) true n 39 cs = some x) : ∃ b : Pl, k39.K W b cs ∧ cs = [.int .i64 b.f0, .int .i64 b.f1] := by
  obtain ⟨hl, ⟨_, _, h0⟩, ⟨_, _, h1⟩⟩ := fields2 Tryz.underlying39 h
  have c1 : Tryz.prog.cellsOf 3 = 1 := by kernel_rfl
  have c3 : Tryz.prog.cellsOf 39 = 2 := by kernel_rfl
  simp only [c1, c3] at hl h0 h1
  match cs, hl with
  | [v0, v1], _ =>
    obtain ⟨i, e0, _⟩ := open_int_at h0
    obtain ⟨j, e1, _⟩ := open_int_at h1
    simp at e0 e1
    subst e0 e1
    exact ⟨⟨i, j⟩, k39_mk W ⟨i, j⟩, rfl⟩
theorem open_change_at {n : Nat} {cs : List Value} {x : DataW H × List MemPlace} (h : DataW.trod enc Tryz.prog W 0 (fun _ => true) true n 138 cs = some x) : ∃ b : Ch, k138.K W b cs := by
  obtain ⟨hl, ⟨_, _, h0⟩, ⟨_, _, h1⟩⟩ := fields2 Tryz.underlying138 h
  have c1 : Tryz.prog.cellsOf 3 = 1 := by kernel_rfl
  have c2 : Tryz.prog.cellsOf 39 = 2 := by kernel_rfl
  have c3 : Tryz.prog.cellsOf 138 = 3 := by kernel_rfl
  simp only [c1, c2, c3] at hl h0 h1
  match cs, hl with
  | [v0, v1, v2], _ =>
    obtain ⟨i, e0, _⟩ := open_int_at h0
    obtain ⟨p, _, e1⟩ := open_place_at h1
    simp at e0 e1
    obtain ⟨rfl, rfl⟩ := e1
    subst e0
    exact ⟨⟨i, p⟩, k138_mk W ⟨i, p⟩⟩
theorem open_entry_at {n : Nat} {cs : List Value} {x : DataW H × List MemPlace} (h : DataW.trod enc Tryz.prog W 0 (fun _ => true) true n 107 cs = some x) : ∃ b : Et, k107.K W b cs ∧ cs = [.string b.f0, .int .i64 b.f1] := by
  obtain ⟨hl, ⟨_, _, h0⟩, ⟨_, _, h1⟩⟩ := fields2 Tryz.underlying107 h
  have c1 : Tryz.prog.cellsOf 3 = 1 := by kernel_rfl
  have c2 : Tryz.prog.cellsOf 9 = 1 := by kernel_rfl
  have c3 : Tryz.prog.cellsOf 107 = 2 := by kernel_rfl
  simp only [c1, c2, c3] at hl h0 h1
  match cs, hl with
  | [v0, v1], _ =>
    obtain ⟨s, e0⟩ := open_str_at h0
    obtain ⟨j, e1, _⟩ := open_int_at h1
    simp at e0 e1
    subst e0 e1
    exact ⟨⟨s, j⟩, k107_mk W ⟨s, j⟩, rfl⟩
theorem open_dir_at {n : Nat} {cs : List Value} {x : DataW H × List MemPlace} (h : DataW.trod enc Tryz.prog W 0 (fun _ => true) true n 109 cs = some x) : ∃ b : Di, k109.K W b cs := by
  obtain ⟨hl, ⟨_, _, h0⟩, ⟨_, _, h1⟩⟩ := fields2 Tryz.underlying109 h
  have c1 : Tryz.prog.cellsOf 4 = 1 := by kernel_rfl
  have c2 : Tryz.prog.cellsOf 107 = 2 := by kernel_rfl
  have c3 : Tryz.prog.cellsOf 109 = 3 := by kernel_rfl
  simp only [c1, c2, c3] at hl h0 h1
  match cs, hl with
  | [v0, v1, v2], _ =>
    obtain ⟨i, e0⟩ := open_bool_at h0
    obtain ⟨p, _, e1⟩ := open_entry_at h1
    simp at e0 e1
    obtain ⟨rfl, rfl⟩ := e1
    subst e0
    exact ⟨⟨i, p⟩, k109_mk W ⟨i, p⟩⟩
theorem open_block_at {n : Nat} {cs : List Value} {x : DataW H × List MemPlace} (h : DataW.trod enc Tryz.prog W 0 (fun _ => true) true n 170 cs = some x) : ∃ b : Bk, k170.K W b cs := by
  obtain ⟨hl, ⟨_, _, h0⟩, ⟨_, _, h1⟩⟩ := fields2 Tryz.underlying170 h
  have c1 : Tryz.prog.cellsOf 3 = 1 := by kernel_rfl
  have c2 : Tryz.prog.cellsOf 29 = 1 := by kernel_rfl
  have c3 : Tryz.prog.cellsOf 170 = 2 := by kernel_rfl
  simp only [c1, c2, c3] at hl h0 h1
  match cs, hl with
  | [v0, v1], _ =>
    obtain ⟨i, e0, _⟩ := open_int_at h0
    obtain ⟨A, xs, c, e1, hc, hC, _⟩ := open_bytes_at h1
    simp at e0 e1
    subst e0 e1
    exact ⟨⟨i, xs⟩, k170_mk W ⟨i, xs⟩ hc hC⟩
theorem open_row_at {n : Nat} {cs : List Value} {x : DataW H × List MemPlace} (h : DataW.trod enc Tryz.prog W 0 (fun _ => true) true n 33 cs = some x) : ∃ b : List Int, dLI.K W b cs := by
  obtain ⟨A, xs, c, e, hc, hC⟩ := open_nums_at h
  exact ⟨xs, A, c, e, hc, hC⟩
theorem open_commit_at {n : Nat} {cs : List Value} {x : DataW H × List MemPlace} (h : DataW.trod enc Tryz.prog W 0 (fun _ => true) true n 26 cs = some x) : ∃ s e : Int, cs = [.int .i64 s, .int .i64 e] := by
  obtain ⟨hl, ⟨_, _, h0⟩, ⟨_, _, h1⟩⟩ := fields2 Tryz.underlying26 h
  have c1 : Tryz.prog.cellsOf 3 = 1 := by kernel_rfl
  have c3 : Tryz.prog.cellsOf 26 = 2 := by kernel_rfl
  simp only [c1, c3] at hl h0 h1
  match cs, hl with
  | [v0, v1], _ =>
    obtain ⟨i, e0, _⟩ := open_int_at h0
    obtain ⟨j, e1, _⟩ := open_int_at h1
    simp at e0 e1
    exact ⟨i, j, by rw [e0, e1]⟩
theorem open_config_at {n : Nat} {cs : List Value} {x : DataW H × List MemPlace} (h : DataW.trod enc Tryz.prog W 0 (fun _ => true) true n 24 cs = some x) : ∃ y : Ly, cs.toArray = #[.int .i64 y.c0, .int .i64 y.c1, .int .i64 y.c2, .int .i64 y.c3, .int .i64 y.c4, .int .i64 y.c5, .int .i64 y.c6, .int .i64 y.c7, .int .i64 y.c8, .int .i64 y.c9, .slice y.A y.l.length y.cap] ∧ y.R W := by
  obtain ⟨hl, ⟨_, _, h0⟩, ⟨_, _, h1⟩, ⟨_, _, h2⟩, ⟨_, _, h3⟩, ⟨_, _, h4⟩, ⟨_, _, h5⟩, ⟨_, _, h6⟩, ⟨_, _, h7⟩, ⟨_, _, h8⟩, ⟨_, _, h9⟩, ⟨_, _, ht⟩⟩ := fields11 Tryz.underlying24 h
  have c1 : Tryz.prog.cellsOf 3 = 1 := by kernel_rfl
  have c2 : Tryz.prog.cellsOf 22 = 1 := by kernel_rfl
  have c3 : Tryz.prog.cellsOf 24 = 11 := by kernel_rfl
  simp only [c1, c2, c3] at hl h0 h1 h2 h3 h4 h5 h6 h7 h8 h9 ht
  match cs, hl with
  | [v0, v1, v2, v3, v4, v5, v6, v7, v8, v9, v10], _ =>
    obtain ⟨i0, e0, _⟩ := open_int_at h0
    obtain ⟨i1, e1, _⟩ := open_int_at h1
    obtain ⟨i2, e2, _⟩ := open_int_at h2
    obtain ⟨i3, e3, _⟩ := open_int_at h3
    obtain ⟨i4, e4, _⟩ := open_int_at h4
    obtain ⟨i5, e5, _⟩ := open_int_at h5
    obtain ⟨i6, e6, _⟩ := open_int_at h6
    obtain ⟨i7, e7, _⟩ := open_int_at h7
    obtain ⟨i8, e8, _⟩ := open_int_at h8
    obtain ⟨i9, e9, _⟩ := open_int_at h9
    obtain ⟨A, l, c, e10, hc, hC⟩ := open_row dLI Tryz.underlying22 (by kernel_rfl) (fun _ _ _ h => open_row_at h) ht
    simp at e0 e1 e2 e3 e4 e5 e6 e7 e8 e9 e10
    subst e0 e1 e2 e3 e4 e5 e6 e7 e8 e9 e10
    exact ⟨⟨i0, i1, i2, i3, i4, i5, i6, i7, i8, i9, A, c, l⟩, rfl, hC, hc⟩
theorem open_full_at {n : Nat} {cs : List Value} {x : DataW H × List MemPlace} (h : DataW.trod enc Tryz.prog W 0 (fun _ => true) true n 32 cs = some x) : ∃ f : Fu, cs.toArray = #[.int .i64 f.s, .int .i64 f.e, .slice f.PA f.P.length f.Pc, .slice f.EA f.E.length f.Ec, .slice f.VA f.V.length f.Vc, .slice f.KA f.K.length f.Kc] ∧ f.R W ∧ f.P.length ≤ f.Pc ∧ f.E.length ≤ f.Ec ∧ f.V.length ≤ f.Vc ∧ f.K.length ≤ f.Kc := by
  obtain ⟨hl, ⟨_, _, h0⟩, ⟨_, _, h1⟩, ⟨_, _, h2⟩, ⟨_, _, h3⟩, ⟨_, _, h4⟩⟩ := fields5 Tryz.underlying32 h
  have c0 : Tryz.prog.cellsOf 26 = 2 := by kernel_rfl
  have c1 : Tryz.prog.cellsOf 27 = 1 := by kernel_rfl
  have c2 : Tryz.prog.cellsOf 28 = 1 := by kernel_rfl
  have c4 : Tryz.prog.cellsOf 29 = 1 := by kernel_rfl
  have c5 : Tryz.prog.cellsOf 30 = 1 := by kernel_rfl
  have c3 : Tryz.prog.cellsOf 32 = 6 := by kernel_rfl
  simp only [c0, c1, c2, c3, c4, c5] at hl h0 h1 h2 h3 h4
  match cs, hl with
  | [v0, v1, v2, v3, v4, v5], _ =>
    obtain ⟨s, e, e0⟩ := open_commit_at h0
    obtain ⟨PA, P, Pc, e1, p1, p2⟩ := open_row k39 Tryz.underlying27 (by kernel_rfl) (fun _ _ _ h => let ⟨b, hb, _⟩ := open_place_at h; ⟨b, hb⟩) h1
    obtain ⟨EA, E, Ec, e2, q1, q2⟩ := open_row k107 Tryz.underlying28 (by kernel_rfl) (fun _ _ _ h => let ⟨b, hb, _⟩ := open_entry_at h; ⟨b, hb⟩) h2
    obtain ⟨VA, V, Vc, e3, r1, r2, r3⟩ := open_bytes_at h3
    obtain ⟨KA, K, Kc, e4, s1, s2⟩ := open_row k170 Tryz.underlying30 (by kernel_rfl) (fun _ _ _ h => open_block_at h) h4
    simp at e0 e1 e2 e3 e4
    obtain ⟨rfl, rfl⟩ := e0
    subst e1 e2 e3 e4
    exact ⟨⟨s, e, P, E, V, K, PA, EA, VA, KA, Pc, Ec, Vc, Kc⟩, rfl, ⟨p2, q2, r2, r3, s2⟩, p1, q1, r1, s1⟩
theorem open_delta_at {n : Nat} {cs : List Value} {x : DataW H × List MemPlace} (h : DataW.trod enc Tryz.prog W 0 (fun _ => true) true n 37 cs = some x) : ∃ d : De, cs.toArray = #[.int .i64 d.s, .int .i64 d.e, .slice d.LA d.L.length d.Lc, .slice d.PA d.P.length d.Pc, .slice d.DA d.D.length d.Dc, .slice d.KA d.K.length d.Kc] ∧ d.R W ∧ d.L.length ≤ d.Lc ∧ d.P.length ≤ d.Pc ∧ d.D.length ≤ d.Dc ∧ d.K.length ≤ d.Kc := by
  obtain ⟨hl, ⟨_, _, h0⟩, ⟨_, _, h1⟩, ⟨_, _, h2⟩, ⟨_, _, h3⟩, ⟨_, _, h4⟩⟩ := fields5 Tryz.underlying37 h
  have c0 : Tryz.prog.cellsOf 26 = 2 := by kernel_rfl
  have c1 : Tryz.prog.cellsOf 33 = 1 := by kernel_rfl
  have c2 : Tryz.prog.cellsOf 34 = 1 := by kernel_rfl
  have c4 : Tryz.prog.cellsOf 35 = 1 := by kernel_rfl
  have c5 : Tryz.prog.cellsOf 30 = 1 := by kernel_rfl
  have c3 : Tryz.prog.cellsOf 37 = 6 := by kernel_rfl
  simp only [c0, c1, c2, c3, c4, c5] at hl h0 h1 h2 h3 h4
  match cs, hl with
  | [v0, v1, v2, v3, v4, v5], _ =>
    obtain ⟨s, e, e0⟩ := open_commit_at h0
    obtain ⟨LA, L, Lc, e1, p1, p2⟩ := open_nums_at h1
    obtain ⟨PA, P, Pc, e2, q1, q2⟩ := open_row k138 Tryz.underlying34 (by kernel_rfl) (fun _ _ _ h => open_change_at h) h2
    obtain ⟨DA, D, Dc, e3, r1, r2⟩ := open_row k109 Tryz.underlying35 (by kernel_rfl) (fun _ _ _ h => open_dir_at h) h3
    obtain ⟨KA, K, Kc, e4, s1, s2⟩ := open_row k170 Tryz.underlying30 (by kernel_rfl) (fun _ _ _ h => open_block_at h) h4
    simp at e0 e1 e2 e3 e4
    obtain ⟨rfl, rfl⟩ := e0
    subst e1 e2 e3 e4
    exact ⟨⟨s, e, L, P, D, K, LA, PA, DA, KA, Lc, Pc, Dc, Kc⟩, rfl, ⟨p2, q2, r2, s2⟩, p1, q1, r1, s1⟩
theorem open_slot_at {n : Nat} {cs : List Value} {x : DataW H × List MemPlace} (h : DataW.trod enc Tryz.prog W 0 (fun _ => true) true n 41 cs = some x) : ∃ d f t : Int, cs = [.int .i64 d, .int .i64 f, .int .i64 t] ∧ (-9223372036854775808 ≤ d ∧ d ≤ 9223372036854775807) := by
  obtain ⟨hl, ⟨_, _, h0⟩, ⟨_, _, h1⟩⟩ := fields2 Tryz.underlying41 h
  have c1 : Tryz.prog.cellsOf 3 = 1 := by kernel_rfl
  have c2 : Tryz.prog.cellsOf 39 = 2 := by kernel_rfl
  have c3 : Tryz.prog.cellsOf 41 = 3 := by kernel_rfl
  simp only [c1, c2, c3] at hl h0 h1
  match cs, hl with
  | [v0, v1, v2], _ =>
    obtain ⟨i, e0, hi⟩ := open_int_at h0
    obtain ⟨p, _, e1⟩ := open_place_at h1
    simp at e0 e1
    obtain ⟨rfl, rfl⟩ := e1
    subst e0
    exact ⟨i, p.f0, p.f1, rfl, hi⟩
theorem open_log_at {n : Nat} {cs : List Value} {x : DataW H × List MemPlace} (h : DataW.trod enc Tryz.prog W 0 (fun _ => true) true n 43 cs = some x) : ∃ g : Lg, cs.toArray = #[.int .i64 g.s, .int .i64 g.i, .int .i64 g.d, .int .i64 g.f, .int .i64 g.t] ∧ (-9223372036854775808 ≤ g.d ∧ g.d ≤ 9223372036854775807) := by
  obtain ⟨hl, ⟨_, _, h0⟩, ⟨_, _, h1⟩, ⟨_, _, h2⟩⟩ := fields3 Tryz.underlying43 h
  have c1 : Tryz.prog.cellsOf 3 = 1 := by kernel_rfl
  have c2 : Tryz.prog.cellsOf 41 = 3 := by kernel_rfl
  have c3 : Tryz.prog.cellsOf 43 = 5 := by kernel_rfl
  simp only [c1, c2, c3] at hl h0 h1 h2
  match cs, hl with
  | [v0, v1, v2, v3, v4], _ =>
    obtain ⟨s, e0, _⟩ := open_int_at h0
    obtain ⟨i, e1, _⟩ := open_int_at h1
    obtain ⟨d, f, t, e2, hd⟩ := open_slot_at h2
    simp at e0 e1 e2
    obtain ⟨rfl, rfl, rfl⟩ := e2
    subst e0 e1
    exact ⟨⟨s, i, d, f, t⟩, rfl, hd⟩
end
end Go.Proofs.YtmbnomlkhmcmaaaGreat.A
end
