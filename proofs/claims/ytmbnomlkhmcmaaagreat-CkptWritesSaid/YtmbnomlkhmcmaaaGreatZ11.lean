/- Part of the proof of LawCkptWrites. -/
import Derived.Test.YtmbnomlkhmcmaaaGreatZ10
section
namespace Go.Proofs.YtmbnomlkhmcmaaaGreat.A
open Go.RowKit Go.Shelf Go.Proofs.YtmbnomlkhmcmaaaGreatW.PrintWords Go.Proofs.YtmbnomlkhmcmaaaGreatW.PrintLast Go.Proofs.YtmbnomlkhmcmaaaGreatW.PrintMore Go.Proofs.YtmbnomlkhmcmaaaGreat.C Go.Proofs.YtmbnomlkhmcmaaaGreat.Z
set_option linter.unusedVariables false
set_option linter.unusedSimpArgs false
theorem Rb.lit {w0 w : World} {rows : List (Nat × Obj)} (h : Sr w0 rows w) (l : List Int) (hl : l.length ≤ 1000) : Rb w0 rows (w.alloc (u8o l)) (.slice (some ⟨w.heap.size, 0, none⟩) l.length l.length) l := by
 refine ⟨h.below (allocB w _), Kd.R_of_own (h1 := fun _ => rfl) ⟨by simp [encs], .inr ⟨w.heap.size, l.length, _, rfl, h.bel.size, heap_top w _, Nat.le_refl _, by simp only [maxLen]; omega, by simp, by simp [encs, List.take_of_length_le]⟩⟩ (fun k hk o hm => ?_)⟩
 have h1 := h.lt hm
 have h3 : (k, o).1 = k := rfl
 have h2 : w.heap.size = k := by simpa [Value.ownBlock] using hk
 omega
theorem Rb.str_step {ops : Array Oper} {oi : Oper} {a : Act} {Kc : Act → World → Prop} {Q : Exit → Act → World → Prop} {w0 W : World} {rows : List (Nat × Obj)} {v : Value} {xs : List Int} (s : ByteArray) (so xo : Operand) (h : Rb w0 rows W v xs) (hw : Region.wanted oi (yielded ops a.tmps) = true)
  (ho : oi.op = .call { callee := .builtin .append, args := #[so, xo], argTypes := #[29, 9] }) (hs : a.eval so = v) (hx : a.eval xo = .string s) (h0 : 0 < s.size) (hl : xs.length + s.size ≤ 4294967296)
  (hk : ∀ v1 w1, Rb w0 rows w1 v1 (xs ++ strL s) → Kc (a.put oi.dst v1) w1) : if Region.wanted oi (yielded ops a.tmps) = true then Oper.wp Tryz.prog oi a W Kc Q else Kc (a.put oi.dst undef) W := by
 obtain ⟨v1, w1, hr1, h1, hg⟩ := append_str s oi.type h.2 h.fresh h0 hl h.bel.size
 have hb : Below w0.heap.size w0 w1 := h.bel.grown hg h.bel.size (fun k hk => ((Kd.R_bound h.2).1 k hk).2.1)
 rw [if_pos hw]
 unfold Oper.wp execOp
 simp only [ho, resolve, invoke, builtin, Sem.run_bind, Sem.run_pure, Result.andThen_ok, List.map_toArray, List.map_cons, List.map_nil, hs, hx, hr1]
 exact hk v1 w1 (Rb.grown h h1 hb hg)
theorem Rb.stashN {y : Ly} {w0 w : World} {rows : List (Nat × Obj)} {v : Value} {xs : List Int} (h : Rb w0 rows w v xs) (ok : y.Ok) (A : Option Addr) (n c : Nat) (s : List Bq) (hn : s.length = n) (hC : Kd.C k214 w0 A s.length s) (hs : (s.length : Int) ≤ y.c6) (hd : ∀ b ∈ s, b.f1.length = 37) (hx : xs.length ≤ 100000) :
  Calls Tryz.prog 57 #[y.v, v, .slice A n c] w fun e w' => ∃ v', e = .returned v' ∧ Rb w0 rows w' v' (xs ++ stashQ y s) := by
 subst hn
 exact Rb.stash h ok A c s hC hs hd hx
def cqB (p : Cq) : List Int := bes 1 [p.f0] ++ plc p.f1.f0 p.f1.f1
def dqB (x : Eq') : List Int := bes 1 [if x.f0 = true then 0 else 1, x.f1.f1] ++ strL x.f1.f0
theorem flatCq (l : List Cq) : (l.flatMap cqB).length = 6 * l.length := by
 induction l with
 | nil => rfl
 | cons b l ih => rw [List.flatMap_cons, List.length_append, ih]; simp [cqB, plc, bes_length]; omega
theorem flatDq : ∀ l : List Eq', (∀ x ∈ l, x.f1.f0.size = 10) → (l.flatMap dqB).length = 12 * l.length
 | [], _ => rfl
 | b :: l, h => by
  have h1 := h b List.mem_cons_self
  have h2 := flatDq l (fun x hx => h x (List.mem_cons_of_mem _ hx))
  rw [List.flatMap_cons, List.length_append, h2]
  simp [dqB, bes_length, strL_length, h1]
  omega
structure Dq.Ok (y : Ly) (d : Dq) : Prop where
 hc : ∀ n ∈ [d.s, d.e], okN 5 n
 hl : (d.L.length : Int) ≤ y.slots ∧ ∀ n ∈ d.L, okN 1 n
 hp : (d.P.length : Int) ≤ y.slots ∧ ∀ x ∈ d.P, okN 1 x.f0 ∧ okN 1 x.f1.f0 ∧ okN 4 x.f1.f1
 hd : (d.D.length : Int) ≤ y.c5 ∧ ∀ x ∈ d.D, x.f1.f0.size = 10 ∧ okN 1 x.f1.f1
 hk : (d.K.length : Int) ≤ y.c6 ∧ ∀ b ∈ d.K, b.f1.length = 37
def qB1 (d : Dq) : List Int := [1] ++ bes 5 [d.s, d.e]
def qB2 (d : Dq) : List Int := qB1 d ++ [(d.L.length : Int) % 256]
def qB3 (y : Ly) (d : Dq) : List Int := fill (qB2 d ++ bes 1 d.L) (12 + y.slots).toNat ++ [(d.P.length : Int) % 256]
def qB4 (y : Ly) (d : Dq) : List Int := fill (qB3 y d ++ d.P.flatMap cqB) (13 + y.slots + 6 * y.slots).toNat ++ [(d.D.length : Int) % 256]
def qB5 (y : Ly) (d : Dq) : List Int := fill (qB4 y d ++ d.D.flatMap dqB) (14 + 7 * y.slots + 12 * y.c5).toNat
def qB6 (y : Ly) (d : Dq) : List Int := qB5 y d ++ stashQ y d.K
theorem fillL {xs : List Int} {L : Int} (h : (xs.length : Int) ≤ L) : ((fill xs L.toNat).length : Int) = L := by
 rw [fill_length (by omega)]
 omega
section
variable {y : Ly} {d : Dq}
theorem qB2_len : (qB2 d).length = 12 := by simp [qB2, qB1, bes_length]
theorem qB3_len (ok : y.Ok) (h : d.Ok y) : ((qB3 y d).length : Int) = 13 + y.slots := by
 have h1 := Ly.slots_le ok
 have h2 := h.hl.1
 unfold qB3
 rw [List.length_append]
 have := fillL (xs := qB2 d ++ bes 1 d.L) (L := 12 + y.slots) (by rw [List.length_append, qB2_len, bes_length]; omega)
 simp
 omega
theorem qB4_len (ok : y.Ok) (h : d.Ok y) : ((qB4 y d).length : Int) = 14 + 7 * y.slots := by
 have h1 := Ly.slots_le ok
 have h2 := h.hp.1
 have h3 := qB3_len ok h
 unfold qB4
 rw [List.length_append]
 have := fillL (xs := qB3 y d ++ d.P.flatMap cqB) (L := 13 + y.slots + 6 * y.slots) (by rw [List.length_append, flatCq]; omega)
 simp
 omega
theorem qB5_len (ok : y.Ok) (h : d.Ok y) : ((qB5 y d).length : Int) = 14 + 7 * y.slots + 12 * y.c5 := by
 have h1 := Ly.slots_le ok
 have h2 := h.hd.1
 have h3 := qB4_len ok h
 unfold qB5
 exact fillL (by rw [List.length_append, flatDq _ (fun x hx => (h.hd.2 x hx).1)]; omega)
theorem qB6_len (ok : y.Ok) (h : d.Ok y) : ((qB6 y d).length : Int) = y.deltaLen := by
 have h1 := qB5_len ok h
 have h2 := h.hk.1
 unfold qB6 stashQ Ly.deltaLen
 rw [List.length_append, List.length_append, List.length_append, bes_length, flatQ _ (fun x hx => h.hk.2 x hx)]
 simp
 unfold Ly.Ok at ok
 omega
end
abbrev oRfH0 (q : Dq) (nL : Nat) (PA : Option Addr) (nP : Nat) (DA : Option Addr) (nD : Nat) (nK : Nat) : Obj := Obj.cells #[.int .i64 q.s, .int .i64 q.e, .slice q.LA nL q.Lc, .slice PA nP q.Pc, .slice DA nD q.Dc, .slice q.KA nK q.Kc] 68
abbrev oRfH1 (q : Dq) (nL : Nat) (PA : Option Addr) (nP : Nat) (ad : Addr) (nD : Nat) (nK : Nat) : Obj := Obj.cells #[.int .i64 q.s, .int .i64 q.e, .slice q.LA nL q.Lc, .slice PA nP q.Pc, .slice (some ad) nD q.Dc, .slice q.KA nK q.Kc] 68
abbrev oRfH2 (q : Dq) (nL : Nat) (ad : Addr) (nP : Nat) (DA : Option Addr) (nD : Nat) (nK : Nat) : Obj := Obj.cells #[.int .i64 q.s, .int .i64 q.e, .slice q.LA nL q.Lc, .slice (some ad) nP q.Pc, .slice DA nD q.Dc, .slice q.KA nK q.Kc] 68
abbrev sRfH3 (gd : Nat) (ad : Addr) (nD : Nat) (q : Dq) (k : Nat) (key : ByteArray) (id : Int) : World → Prop := fun w' => w'.cell? ⟨gd, 4, none⟩ = some (.slice (some ad) nD q.Dc) ∧ w'.cell? ⟨(ad.add (k * 3)).block, (ad.add (k * 3)).off + 1, none⟩ = some (.string key) ∧ w'.cell? ⟨(ad.add (k * 3)).block, (ad.add (k * 3)).off + 2, none⟩ = some (.int .i64 id)
set_option maxHeartbeats 16000000 in
set_option maxRecDepth 100000 in
theorem EncodeDeltaQ_ok {y : Ly} {w : World} (hy : y.R w) (ok : y.Ok) (q : Dq) (hd : q.R w) (hok : q.Ok y) (hLc : q.L.length ≤ q.Lc) (may : ∀ W, Below w.heap.size w W → Calls Tryz.prog 64 #[y.v, q.v] W fun e w' => e = .returned (.bool true) ∧ Below W.heap.size W w') :
  Calls Tryz.prog 17 #[y.v, q.v] w fun e w' => ∃ v, e = .returned (.tuple #[v, .int .i64 0]) ∧ Rb w [] w' v (fill (qB6 y q) (y.whole y.deltaLen).toNat) := by
 have HY := Lib.hid hy
 have HK := Lib.hid ok
 have HD := Lib.hid hd
 have HO := Lib.hid hok
 have HM := Lib.hid may
 have HLc := Lib.hid hLc
 have HS40 := Lib.hid (Ly.slots_le ok)
 have HC5 := Lib.hid (show 1 ≤ y.c5 ∧ y.c5 ≤ 8 ∧ 0 ≤ y.c6 ∧ y.c6 ≤ 64 by unfold Ly.Ok at ok; omega)
 obtain ⟨nL, hnL⟩ : ∃ n, q.L.length = n := ⟨_, rfl⟩
 obtain ⟨nP, hnP⟩ : ∃ n, q.P.length = n := ⟨_, rfl⟩
 obtain ⟨nD, hnD⟩ : ∃ n, q.D.length = n := ⟨_, rfl⟩
 obtain ⟨nK, hnK⟩ : ∃ n, q.K.length = n := ⟨_, rfl⟩
 obtain ⟨PA, hPA⟩ : ∃ p, q.PA = p := ⟨_, rfl⟩
 obtain ⟨DA, hDA⟩ : ∃ p, q.DA = p := ⟨_, rfl⟩
 have EP := Lib.hid hPA
 have ED := Lib.hid hDA
 have HRP := Lib.hid (show Kd.C k141 w PA q.P.length q.P from hPA ▸ hd.rp)
 have HRD := Lib.hid (show Kd.C k143 w DA q.D.length q.D from hDA ▸ hd.rd)
 have NL := Lib.hid hnL
 have NP := Lib.hid hnP
 have ND := Lib.hid hnD
 have NK := Lib.hid hnK
 show Calls _ _ #[y.v, .agg #[.int .i64 q.s, .int .i64 q.e, .slice q.LA q.L.length q.Lc, .slice q.PA q.P.length q.Pc, .slice q.DA q.D.length q.Dc, .slice q.KA q.K.length q.Kc]] _ _
 rw [hnL, hnP, hnD, hnK, hPA, hDA]
 clear hy ok hd hok may hnL hnP hnD hnK hPA hDA hLc
 go_enter Tryz.func17, Tryz.ntmps17
 go_wp2_with (first
  | ((with_reducible refine gate_dst (N := 2) rfl ?_); refine box_event ?hg (N := 2) ?hd (cs := #[.int .i64 y.c0, .int .i64 y.c1, .int .i64 y.c2, .int .i64 y.c3, .int .i64 y.c4, .int .i64 y.c5, .int .i64 y.c6, .int .i64 y.c7, .int .i64 y.c8, .int .i64 y.c9, .slice y.A y.l.length y.cap]) (t := 24) ?hr ?_; (case hd => rfl); (case hg => rfl); (case hr => first | (go_simp; done) | (go_simp; rfl)); intro gl hg_ w1 hbox_ hb_; have HX1 := Lib.hid (Sr.box (Sr.nil w) hg_ hbox_ hb_); clear hbox_ hb_ hg_)
  | ((with_reducible refine gate_dst (N := 3) rfl ?_); refine box_event ?hg (N := 3) ?hd (cs := #[.int .i64 q.s, .int .i64 q.e, .slice q.LA nL q.Lc, .slice PA nP q.Pc, .slice DA nD q.Dc, .slice q.KA nK q.Kc]) (t := 68) ?hr ?_; (case hd => rfl); (case hg => rfl); (case hr => first | (go_simp; done) | (go_simp; rfl)); intro gd hg_ w2 hbox_ hb_; have HX2 := Lib.hid (Sr.box HX1.out hg_ hbox_ hb_); have qd0 := HX2.out.cell mh 0 rfl; have qd1 := HX2.out.cell mh 1 rfl; have qd2 := HX2.out.cell mh 2 rfl; have qd3 := HX2.out.cell mh 3 rfl; have qd4 := HX2.out.cell mh 4 rfl; have qd5 := HX2.out.cell mh 5 rfl; have ql0 := HX2.out.cell (mt mh) 0 rfl; have ql1 := HX2.out.cell (mt mh) 1 rfl; have ql2 := HX2.out.cell (mt mh) 2 rfl; have ql3 := HX2.out.cell (mt mh) 3 rfl; have ql4 := HX2.out.cell (mt mh) 4 rfl; have ql5 := HX2.out.cell (mt mh) 5 rfl; have ql6 := HX2.out.cell (mt mh) 6 rfl; have ql7 := HX2.out.cell (mt mh) 7 rfl; have ql8 := HX2.out.cell (mt mh) 8 rfl; have ql9 := HX2.out.cell (mt mh) 9 rfl; have ql10 := HX2.out.cell (mt mh) 10 rfl; clear hbox_ hb_ hg_)
  | fail)
 have hm := HM.out _ HX2.out.bel
 rw [show q.v = .agg #[.int .i64 q.s, .int .i64 q.e, .slice q.LA nL q.Lc, .slice PA nP q.Pc, .slice DA nD q.Dc, .slice q.KA nK q.Kc] by rw [← NL.out, ← NP.out, ← ND.out, ← NK.out, ← EP.out, ← ED.out]] at hm
 refine hm.mono ?_
 clear hm
 rintro e w3 ⟨rfl, hb_⟩
 have HX3 := Lib.hid (HX2.out.below hb_)
 clear hb_ HX1 HX2 qd0 qd1 qd2 qd3 qd4 qd5 ql0 ql1 ql2 ql3 ql4 ql5 ql6 ql7 ql8 ql9 ql10
 have qd0 := HX3.out.cell mh 0 rfl
 have qd1 := HX3.out.cell mh 1 rfl
 have qx0 := (HX3.out.below (allocB w3 (.cells #[.int .u8 1] 5))).cell mh 0 rfl
 have qx1 := (HX3.out.below (allocB w3 (.cells #[.int .u8 1] 5))).cell mh 1 rfl
 have HL1 := Lib.hid (show Rb w ((w3.heap.size + 1, rowo [q.s, q.e]) :: [(gd, (oRfH0 q nL PA nP DA nD nK)), (gl, y.cobj)]) ((w3.alloc (.cells #[.int .u8 1] 5)).alloc (.cells #[.int .i64 q.s, .int .i64 q.e] 3)) (.slice (some ⟨w3.heap.size, 0, none⟩) 1 1) [1] from by
  have h := Rb.row (Rb.lit HX3.out [1] (by decide)) (rowo [q.s, q.e])
  rw [size_alloc] at h
  exact h)
 go_wp2_with fail
 with_reducible refine (Rb.numsR 5 5 [q.s, q.e] (w3.heap.size + 1) 2 2 HL1.out rfl rfl (by simp) mh (by decide) (by decide) (by simp) HO.out.hc (by simp)).mono ?_
 rintro e w4 ⟨v4, rfl, hn⟩
 have HA := Lib.hid (show Rb w [(gd, (oRfH0 q nL PA nP DA nD nK)), (gl, y.cobj)] w4 v4 (qB1 q) from hn.less (fun _ hr => mt hr))
 clear hn qd0 qd1 qx0 qx1 HX3
 have qd2 := HA.out.sr.cell mh 2 rfl
 go_upto_region 5 with (first
  | (at_builtin; refine Kd.R_append (Kd.int .u8) (w0 := w) w.heap.size rfl (.tmp 24) (.tmp 29) 29 5 (.int .u8 0) 1 rfl Tryz.underlying29 infou8 rfl (by decide) (by omega) _ _ ((nL : Int) % 256) [.int .u8 ((nL : Int) % 256)] _ (fun _ => False) rfl rfl ?aP (fun _ hk => hk.elim) HA.out.fresh HA.out.2 HA.out.bel HA.out.bel.size ?aL ?_; (case aP => exact rfl); (case aL => simp [qB1, bes_length]); intro v1 wb ho hb hg hn; have HB0 := Lib.hid (Rb.grown HA.out ho hb hg); clear ho hb hg hn; obtain ⟨A1, c1, e1, _, _⟩ := HB0.out.reads; rw [show (qB1 q ++ [(nL : Int) % 256]).length = 12 by simp [qB1, bes_length]] at e1; subst e1; have HB := Lib.hid (show Rb w [(gd, (oRfH0 q nL PA nP DA nD nK)), (gl, y.cobj)] wb _ (qB2 q) from by unfold qB2; rw [NL.out]; exact HB0.out); clear HB0)
  | fail)
 clear qd2
 have HS : ∀ w', Sr w [(gd, (oRfH0 q nL PA nP DA nD nK)), (gl, y.cobj)] w' → w'.cell? ⟨gd, 2, none⟩ = some (.slice q.LA nL q.Lc) ∧ w'.cell? ⟨gl, 0, none⟩ = some (.int .i64 y.c0) ∧ w'.cell? ⟨gl, 1, none⟩ = some (.int .i64 y.c1) ∧ w'.cell? ⟨gl, 2, none⟩ = some (.int .i64 y.c2) ∧ w'.cell? ⟨gl, 3, none⟩ = some (.int .i64 y.c3) ∧ w'.cell? ⟨gl, 4, none⟩ = some (.int .i64 y.c4) ∧ w'.cell? ⟨gl, 5, none⟩ = some (.int .i64 y.c5) ∧ w'.cell? ⟨gl, 6, none⟩ = some (.int .i64 y.c6) ∧ w'.cell? ⟨gl, 7, none⟩ = some (.int .i64 y.c7) ∧ w'.cell? ⟨gl, 8, none⟩ = some (.int .i64 y.c8) ∧ w'.cell? ⟨gl, 9, none⟩ = some (.int .i64 y.c9) ∧ w'.cell? ⟨gl, 10, none⟩ = some (.slice y.A y.l.length y.cap) := fun w' h => ⟨h.cell mh 2 rfl, h.cell (mt mh) 0 rfl, h.cell (mt mh) 1 rfl, h.cell (mt mh) 2 rfl, h.cell (mt mh) 3 rfl, h.cell (mt mh) 4 rfl, h.cell (mt mh) 5 rfl, h.cell (mt mh) 6 rfl, h.cell (mt mh) 7 rfl, h.cell (mt mh) 8 rfl, h.cell (mt mh) 9 rfl, h.cell (mt mh) 10 rfl⟩
 refine stq 10 0 (fun w' => w'.cell? ⟨gd, 2, none⟩ = some (.slice q.LA nL q.Lc) ∧ w'.cell? ⟨gl, 0, none⟩ = some (.int .i64 y.c0) ∧ w'.cell? ⟨gl, 1, none⟩ = some (.int .i64 y.c1) ∧ w'.cell? ⟨gl, 2, none⟩ = some (.int .i64 y.c2) ∧ w'.cell? ⟨gl, 3, none⟩ = some (.int .i64 y.c3) ∧ w'.cell? ⟨gl, 4, none⟩ = some (.int .i64 y.c4) ∧ w'.cell? ⟨gl, 5, none⟩ = some (.int .i64 y.c5) ∧ w'.cell? ⟨gl, 6, none⟩ = some (.int .i64 y.c6) ∧ w'.cell? ⟨gl, 7, none⟩ = some (.int .i64 y.c7) ∧ w'.cell? ⟨gl, 8, none⟩ = some (.int .i64 y.c8) ∧ w'.cell? ⟨gl, 9, none⟩ = some (.int .i64 y.c9) ∧ w'.cell? ⟨gl, 10, none⟩ = some (.slice y.A y.l.length y.cap)) (HS _ (HB.out.below (drewB _)).sr) (fun hHeld => ?_)
 have HR1 := Lib.hid (HB.out.below (drewB _))
 generalize wb.drew = W0 at HR1 hHeld ⊢
 refine pq 0 31 10 1 ?_
 refine pq 1 32 10 3 ?_
 refine pq 4 35 10 19 ?_
 refine pq 5 36 10 51 ?_
 refine tq 2 33 10 55 hHeld ?_
 refine tq 6 37 10 119 hHeld ?_
 refine oq 3 34 10 127 (fun K hK => ?_)
 refine gq Tryz.func53 #[.slice A1 12 c1, .int .i64 1, .slice q.LA nL q.Lc] ?_
 with_reducible refine ((Rb.numsS 1 1 q.L q.LA nL q.Lc HR1.out rfl NL.out HLc.out HD.out.rl (by decide) (by decide) (by have := HO.out.hl.1; have := HS40.out; omega) HO.out.hl.2 (by rw [qB2_len]; decide))).mono ?_
 rintro e w5 ⟨v5, rfl, hn⟩
 refine ⟨_, rfl, ?_⟩
 have HQ1 := Lib.hid hn
 clear hn
 refine hK.out _ _ (HS _ HQ1.out.sr) (fun hHeld => ?_)
 clear hK K
 refine nx 34 ?_
 refine oq 7 38 10 255 (fun K hK => ?_)
 refine gq Tryz.func65 #[y.v] ?_
 with_reducible refine ((SlotsQ_call (HY.out.below HQ1.out.bel) HK.out)).mono ?_
 rintro e w6 ⟨rfl, hn⟩
 refine ⟨_, rfl, ?_⟩
 have HQ2 := Lib.hid (HQ1.out.below hn)
 clear hn
 refine hK.out _ _ (HS _ HQ2.out.sr) (fun hHeld => ?_)
 clear hK K
 refine nx 38 ?_
 refine oq 8 39 10 511 (fun K hK => ?_)
 refine gq Tryz.func55 #[v5, .int .i64 12, .int .i64 y.slots] ?_
 with_reducible refine ((Rb.upTo HQ2.out 12 y.slots (12 + y.slots) (wr64 (by have := HS40.out; omega) (by have := HS40.out; omega)) (by rw [List.length_append, qB2_len, bes_length]; have := HO.out.hl.1; omega) (by have := HS40.out; omega))).mono ?_
 rintro e w7 ⟨v7, rfl, hn⟩
 refine ⟨_, rfl, ?_⟩
 have HQ3 := Lib.hid hn
 clear hn
 refine hK.out _ _ (HS _ HQ3.out.sr) (fun hHeld => ?_)
 clear hK K
 refine nx 39 ?_
 refine pq 9 6 10 1023 ?_
 refine done_ (by kernel_rfl) ?_
 clear HS HB HR1 HQ1 HQ2
 have qd3 := HQ3.out.sr.cell mh 3 rfl
 go_wp2_with (first
  | (at_builtin; refine Kd.R_append (Kd.int .u8) (w0 := w) w.heap.size rfl (.tmp 40) (.tmp 45) 29 5 (.int .u8 0) 1 rfl Tryz.underlying29 infou8 rfl (by decide) (by omega) _ _ ((nP : Int) % 256) [.int .u8 ((nP : Int) % 256)] _ (fun _ => False) rfl rfl ?aP (fun _ hk => hk.elim) HQ3.out.fresh HQ3.out.2 HQ3.out.bel HQ3.out.bel.size ?aL ?_; (case aP => exact rfl); (case aL => have h9 := fillL (xs := qB2 q ++ bes 1 q.L) (L := 12 + y.slots) (by rw [List.length_append, qB2_len, bes_length]; have := HO.out.hl.1; omega); have := HS40.out; omega); intro v1 wc ho hb hg hn; have HC0 := Lib.hid (Rb.grown HQ3.out ho hb hg); clear ho hb hg hn; have HC1 := Lib.hid (show Rb w [(gd, (oRfH0 q nL PA nP DA nD nK)), (gl, y.cobj)] wc _ (qB3 y q) from by unfold qB3; rw [NP.out]; exact HC0.out); clear HC0; obtain ⟨A2, c2, e2, _, _⟩ := HC1.out.reads; obtain ⟨n2, hn2⟩ : ∃ n, (qB3 y q).length = n := ⟨_, rfl⟩; rw [hn2] at e2; subst e2; have HN2 := Lib.hid hn2; clear hn2; have HC := HC1; have HL3 := Lib.hid (qB3_len HK.out HO.out))
  | fail)
 have qd3 := HC.out.sr.cell mh 3 rfl
 go_wp2_with fail
 clear qd3
 go_loopw [6, 8] (fun u i wr => ∃ k : Nat, k ≤ nP ∧ i = .int .i64 k ∧ Hid (Rb w [(gd, (oRfH0 q nL PA nP DA nD nK)), (gl, y.cobj)] wr u (qB3 y q ++ (q.P.take k).flatMap cqB))) (fun _ i _ => nP - (intOf i).toNat)
 case atStart =>
  exact ⟨0, Nat.zero_le _, rfl, by simpa using HC⟩
 case round =>
  clear HC HQ3 HA
  obtain ⟨k, hk, rfl, HS0⟩ := hrel
  have qd3 := HS0.out.sr.cell mh 3 rfl
  by_cases hlt : k < nP
  ·obtain ⟨⟨id, ⟨lf, tg⟩⟩, hb⟩ : ∃ b, rd_T141 q.P (k : Int) = b := ⟨_, rfl⟩
   have hks : k < q.P.length := by have := NP.out; omega
   have hel : q.P[k] = ⟨id, ⟨lf, tg⟩⟩ := by
    rw [← hb]
    unfold rd_T141
    rw [Int.toNat_natCast, List.getD_eq_getElem?_getD, List.getElem?_eq_getElem hks]
    rfl
   have HDr := Lib.hid (show q.P.take (k + 1) = q.P.take k ++ [⟨id, ⟨lf, tg⟩⟩] by rw [List.take_succ_eq_append_getElem hks, hel])
   have HMm := Lib.hid (show (⟨id, ⟨lf, tg⟩⟩ : Cq) ∈ q.P from hel ▸ List.getElem_mem hks)
   obtain ⟨ad, rfl, q0, q1, q2⟩ := at_T141 HRP.out (k : Int) (by omega) (by omega)
   rw [hb] at q0 q1 q2
   simp only [Int.toNat_natCast] at q0 q1 q2
   clear hb hks hel
   have HOk := Lib.hid (HO.out.hp.2 _ HMm.out)
   have HQ0' := Lib.hid q0
   have HQ1' := Lib.hid q1
   have HQ2' := Lib.hid q2
   have HLX := Lib.hid (show (qB3 y q ++ (q.P.take k).flatMap cqB).length ≤ 1100 by
    have h1 := flatCq (q.P.take k)
    have h2 := HL3.out
    have h3 := HS40.out
    have h4 := HO.out.hp.1
    have h5 := NP.out
    rw [List.length_append, h1, List.length_take]
    omega)
   obtain ⟨X, hX⟩ : ∃ X, qB3 y q ++ (q.P.take k).flatMap cqB = X := ⟨_, rfl⟩
   rw [hX] at HS0 HLX
   have HXe := Lib.hid hX
   have c0 : (0 : Int) ≤ (k : Int) := by omega
   clear q0 q1 q2 hX
   have HS : ∀ w', Sr w [(gd, (oRfH2 q nL ad nP DA nD nK)), (gl, y.cobj)] w' → w'.cell? ⟨gd, 3, none⟩ = some (.slice (some ad) nP q.Pc) ∧ w'.cell? (ad.add (k * 3)) = some (.int .i64 id) ∧ w'.cell? ⟨(ad.add (k * 3)).block, (ad.add (k * 3)).off + 1, none⟩ = some (.int .i64 lf) ∧ w'.cell? ⟨(ad.add (k * 3)).block, (ad.add (k * 3)).off + 2, none⟩ = some (.int .i64 tg) := fun w' h => ⟨h.cell mh 3 rfl, (h.bel.cell (World.block_lt_of_cell? w _ HQ0'.out)).trans HQ0'.out, (h.bel.cell (World.block_lt_of_cell? w _ HQ1'.out)).trans HQ1'.out, (h.bel.cell (World.block_lt_of_cell? w _ HQ2'.out)).trans HQ2'.out⟩
   go_upto_region 11 with fail
   clear qd3
   refine stq 18 0 (fun w' => w'.cell? ⟨gd, 3, none⟩ = some (.slice (some ad) nP q.Pc) ∧ w'.cell? (ad.add (k * 3)) = some (.int .i64 id) ∧ w'.cell? ⟨(ad.add (k * 3)).block, (ad.add (k * 3)).off + 1, none⟩ = some (.int .i64 lf) ∧ w'.cell? ⟨(ad.add (k * 3)).block, (ad.add (k * 3)).off + 2, none⟩ = some (.int .i64 tg)) (HS _ (HS0.out.below (drewB _)).sr) (fun hHeld => ?_)
   have HR1 := Lib.hid (HS0.out.below (drewB _))
   generalize wr.drew = W0 at HR1 hHeld ⊢
   refine pq 0 56 18 1 ?_
   refine pq 1 57 18 3 ?_
   refine pq 3 59 18 11 ?_
   refine pq 10 66 18 1035 ?_
   refine pq 12 68 18 5131 ?_
   refine tq 2 58 18 5135 hHeld ?_
   refine pq 4 60 18 5151 ?_
   refine pq 5 61 18 5183 ?_
   refine tq 6 62 18 5247 hHeld ?_
   refine pq 7 63 18 5375 ?_
   refine tq 11 67 18 7423 hHeld ?_
   refine pq 13 69 18 15615 ?_
   refine pq 14 70 18 31999 ?_
   refine tq 15 71 18 64767 hHeld ?_
   refine oq 8 64 18 65023 (fun K hK => ?_)
   refine vq ?_
   have HQ1 := Lib.hid (HR1.out.row (u8o [IntKind.u8.wrap id]))
   replace HQ1 : RowKit.Hid (Rb w ((W0.heap.size, u8o [IntKind.u8.wrap id]) :: [(gd, (oRfH2 q nL ad nP DA nD nK)), (gl, y.cobj)]) (W0.alloc (Obj.cells #[.int .u8 (IntKind.u8.wrap id)] 5)) u6 X) := HQ1
   generalize W0.alloc (Obj.cells #[.int .u8 (IntKind.u8.wrap id)] 5) = W1 at HQ1 ⊢
   refine hK.out _ _ (HS _ (HQ1.out.sr.less (fun _ hr => mt hr))) (fun hHeld => ?_)
   clear hK K
   refine nx 64 ?_
   refine oq 9 65 18 65535 (fun K hK => ?_)
   refine Kd.R_append_rows_step (Kd.int .u8) (w0 := w) w.heap.size (by rfl) (.tmp 56) (.tmp 64) 29 5 (.int .u8 0) 1 rfl Tryz.underlying29 infou8 rfl (show 0 < 1 by omega) (by omega) _ _ [IntKind.u8.wrap id] (some ⟨W0.heap.size, 0, none⟩) 1 1 _ (fun _ => False) rfl rfl HQ1.out.2 (C_u8o (HQ1.out.sr.2 _ mh).2 (by simp)) u8_KM (fun _ h_ => h_.elim) HQ1.out.fresh HQ1.out.bel HQ1.out.bel.size (by have := HLX.out; omega) ?_
   intro v9 wn' ho hb hg hn
   have HN := Lib.hid (Rb.grown HQ1.out ho hb hg)
   clear ho hb hg hn
   have HQ2 := Lib.hid HN.out
   clear HN
   refine hK.out _ _ (HS _ (HQ2.out.sr.less (fun _ hr => mt hr))) (fun hHeld => ?_)
   clear hK K
   refine nx 65 ?_
   refine oq 16 72 18 131071 (fun K hK => ?_)
   refine gq Tryz.func54 #[v9, .agg #[.int .i64 lf, .int .i64 tg]] ?_
   with_reducible refine ((Rb.place HQ2.out lf tg HOk.out.2.1 HOk.out.2.2 (by rw [List.length_append]; have := HLX.out; simp; omega))).mono ?_
   rintro e wq ⟨vq, rfl, hn⟩
   refine ⟨_, rfl, ?_⟩
   have HQ3 := Lib.hid hn
   clear hn
   refine hK.out _ _ (HS _ (HQ3.out.sr.less (fun _ hr => mt hr))) (fun hHeld => ?_)
   clear hK K
   refine nx 72 ?_
   refine pq 17 6 18 262143 ?_
   refine done_ (by kernel_rfl) ?_
   go_wp2_with fail
   have ek : wrap64 ((k : Int) + 1) = ((k + 1 : Nat) : Int) := by have h1 := HS40.out; have h2 := HO.out.hp.1; have h3 := NP.out; have h4 := HC5.out; have h5 := HO.out.hd.1; rw [wr64 (by omega) (by omega)]; omega
   rw [ek]
   refine ⟨⟨k + 1, by omega, rfl, ?_⟩, ?_⟩
   ·have hq := HQ3.out.less (rows' := [(gd, (oRfH2 q nL ad nP DA nD nK)), (gl, y.cobj)]) (fun _ hr => mt hr)
    rw [← HXe.out] at hq
    have e : qB3 y q ++ (q.P.take k).flatMap cqB ++ [IntKind.u8.wrap id] ++ plc lf tg = qB3 y q ++ (q.P.take (k + 1)).flatMap cqB := by
     rw [HDr.out, List.flatMap_append, u8_mod]
     simp [cqB, bes1]
    rw [e] at hq
    exact hq
   ·simp only [intOf]
    omega
  ·obtain rfl : nP = k := by omega
   have HE := Lib.hid (show Rb w [(gd, (oRfH0 q nL PA nP DA nD nK)), (gl, y.cobj)] wr u6 (qB3 y q ++ q.P.flatMap cqB) from by have h := HS0.out; rw [show q.P.take nP = q.P from by rw [← NP.out, List.take_length]] at h; exact h)
   clear HS0
   go_wp2_with fail
   clear qd3
   go_upto_region 12 with fail
   have HU1 := Lib.hid (show wrap64 ((n2 : Int) + wrap64 (6 * y.slots)) = 13 + y.slots + 6 * y.slots by
    have h1 := HS40.out
    have h2 := HN2.out
    have h3 := HL3.out
    rw [wr64 (z := 6 * y.slots) (by omega) (by omega), wr64 (by omega) (by omega)]
    omega)
   have HU2 := Lib.hid (show ((qB3 y q ++ q.P.flatMap cqB).length : Int) ≤ 13 + y.slots + 6 * y.slots by
    have h1 := flatCq q.P
    have h2 := HL3.out
    have h4 := HO.out.hp.1
    rw [List.length_append, h1]
    omega)
   obtain ⟨X, hX⟩ : ∃ X, qB3 y q ++ q.P.flatMap cqB = X := ⟨_, rfl⟩
   rw [hX] at HE HU2
   have HXe := Lib.hid hX
   clear hX
   have HS : ∀ w', Sr w [(gd, (oRfH0 q nL PA nP DA nD nK)), (gl, y.cobj)] w' → w'.cell? ⟨gd, 4, none⟩ = some (.slice DA nD q.Dc) ∧ w'.cell? ⟨gl, 0, none⟩ = some (.int .i64 y.c0) ∧ w'.cell? ⟨gl, 1, none⟩ = some (.int .i64 y.c1) ∧ w'.cell? ⟨gl, 2, none⟩ = some (.int .i64 y.c2) ∧ w'.cell? ⟨gl, 3, none⟩ = some (.int .i64 y.c3) ∧ w'.cell? ⟨gl, 4, none⟩ = some (.int .i64 y.c4) ∧ w'.cell? ⟨gl, 5, none⟩ = some (.int .i64 y.c5) ∧ w'.cell? ⟨gl, 6, none⟩ = some (.int .i64 y.c6) ∧ w'.cell? ⟨gl, 7, none⟩ = some (.int .i64 y.c7) ∧ w'.cell? ⟨gl, 8, none⟩ = some (.int .i64 y.c8) ∧ w'.cell? ⟨gl, 9, none⟩ = some (.int .i64 y.c9) ∧ w'.cell? ⟨gl, 10, none⟩ = some (.slice y.A y.l.length y.cap) := fun w' h => ⟨h.cell mh 4 rfl, h.cell (mt mh) 0 rfl, h.cell (mt mh) 1 rfl, h.cell (mt mh) 2 rfl, h.cell (mt mh) 3 rfl, h.cell (mt mh) 4 rfl, h.cell (mt mh) 5 rfl, h.cell (mt mh) 6 rfl, h.cell (mt mh) 7 rfl, h.cell (mt mh) 8 rfl, h.cell (mt mh) 9 rfl, h.cell (mt mh) 10 rfl⟩
   refine stq 13 0 (fun w' => w'.cell? ⟨gd, 4, none⟩ = some (.slice DA nD q.Dc) ∧ w'.cell? ⟨gl, 0, none⟩ = some (.int .i64 y.c0) ∧ w'.cell? ⟨gl, 1, none⟩ = some (.int .i64 y.c1) ∧ w'.cell? ⟨gl, 2, none⟩ = some (.int .i64 y.c2) ∧ w'.cell? ⟨gl, 3, none⟩ = some (.int .i64 y.c3) ∧ w'.cell? ⟨gl, 4, none⟩ = some (.int .i64 y.c4) ∧ w'.cell? ⟨gl, 5, none⟩ = some (.int .i64 y.c5) ∧ w'.cell? ⟨gl, 6, none⟩ = some (.int .i64 y.c6) ∧ w'.cell? ⟨gl, 7, none⟩ = some (.int .i64 y.c7) ∧ w'.cell? ⟨gl, 8, none⟩ = some (.int .i64 y.c8) ∧ w'.cell? ⟨gl, 9, none⟩ = some (.int .i64 y.c9) ∧ w'.cell? ⟨gl, 10, none⟩ = some (.slice y.A y.l.length y.cap)) (HS _ (HE.out.below (drewB _)).sr) (fun hHeld => ?_)
   have HR1 := Lib.hid (HE.out.below (drewB _))
   generalize wr.drew = W0 at HR1 hHeld ⊢
   refine pq 0 73 13 1 ?_
   refine pq 1 74 13 3 ?_
   refine pq 6 79 13 67 ?_
   refine tq 2 75 13 71 hHeld ?_
   refine tq 7 80 13 199 hHeld ?_
   refine pq 8 81 13 455 ?_
   refine pq 9 82 13 967 ?_
   refine join_ (σ := Nat × Value) 2 (bm 13 2047) (fun s => [(76, .int .i64 y.slots), (77, .int .i64 (wrap64 (6 * y.slots))), (78, s.2), (83, .slice (some ⟨s.1, 0, none⟩) 1 1)]) (fun s w' => Rb w ((s.1, u8o [IntKind.u8.wrap (nD : Int)]) :: [(gd, (oRfH0 q nL PA nP DA nD nK)), (gl, y.cobj)]) w' (s.2) (fill X (13 + y.slots + 6 * y.slots).toNat)) ?_ ?_
   rotate_left
   ·intro hJ3_5_10
    refine join_ (σ := Value) 3 (bm 13 1023) (fun s => [(76, .int .i64 y.slots), (77, .int .i64 (wrap64 (6 * y.slots))), (78, s)]) (fun s w' => Rb w ([(gd, (oRfH0 q nL PA nP DA nD nK)), (gl, y.cobj)]) w' (s) (fill X (13 + y.slots + 6 * y.slots).toNat)) ?_ ?_
    rotate_left
    ·intro hJ3_5
     refine join_ (σ := Nat) 3 (bm 13 2015) (fun s => [(76, .int .i64 y.slots), (77, .int .i64 (wrap64 (6 * y.slots))), (83, .slice (some ⟨s, 0, none⟩) 1 1)]) (fun s w' => Rb w ((s, u8o [IntKind.u8.wrap (nD : Int)]) :: [(gd, (oRfH0 q nL PA nP DA nD nK)), (gl, y.cobj)]) w' (u6) X) ?_ ?_
     rotate_left
     ·intro hJ3_10
      refine join_ (σ := Unit) 4 (bm 13 991) (fun s => [(76, .int .i64 y.slots), (77, .int .i64 (wrap64 (6 * y.slots)))]) (fun s w' => Rb w ([(gd, (oRfH0 q nL PA nP DA nD nK)), (gl, y.cobj)]) w' (u6) X) ?_ ?_
      rotate_left
      ·intro hJ3
       refine join_ (σ := Nat) 5 (bm 13 1991) (fun s => [(83, .slice (some ⟨s, 0, none⟩) 1 1)]) (fun s w' => Rb w ((s, u8o [IntKind.u8.wrap (nD : Int)]) :: [(gd, (oRfH0 q nL PA nP DA nD nK)), (gl, y.cobj)]) w' (u6) X) ?_ ?_
       rotate_left
       ·intro hJ10
        refine twq 3 10 76 83 13 975 1991 (fun K hK => ?_) (fun K hK => ?_)
        ·refine gq Tryz.func65 #[y.v] ?_
         with_reducible refine ((SlotsQ_call (HY.out.below (Rb.bel HR1.out)) HK.out)).mono ?_
         rintro e wn' ⟨rfl, hn⟩
         refine ⟨_, rfl, ?_⟩
         have HN := Lib.hid (HR1.out.below hn)
         clear hn
         refine hK.out _ _ (HS _ (HN.out.sr.less (fun _ hr => hr))) (fun hHeld => ?_)
         clear hK K
         refine nx 76 ?_
         refine pq 4 77 13 991 ?_
         exact nz (hJ3 () _ HN.out)
        ·refine vq ?_
         refine hK.out _ _ (HS _ ((HR1.out.row _).sr.less (fun _ hr => (mt hr)))) (fun hHeld => ?_)
         clear hK K
         refine nx 83 ?_
         exact nz (hJ10 W0.heap.size _ ((HR1.out.row _).less (mc mh (fun _ hr => (mt hr)))))
       ·rintro b10 wn hh
        have HH := Lib.hid hh
        clear hh
        have hHeld := HS _ (HH.out.sr.less (fun _ hr => (mt hr)))
        refine ny ?_
        refine oq 3 76 13 1999 (fun K hK => ?_)
        refine gq Tryz.func65 #[y.v] ?_
        with_reducible refine ((SlotsQ_call (HY.out.below (Rb.bel HH.out)) HK.out)).mono ?_
        rintro e wn' ⟨rfl, hn⟩
        refine ⟨_, rfl, ?_⟩
        have HN := Lib.hid (HH.out.below hn)
        clear hn
        refine hK.out _ _ (HS _ (HN.out.sr.less (fun _ hr => (mt hr)))) (fun hHeld => ?_)
        clear hK K
        refine nx 76 ?_
        refine pq 4 77 13 2015 ?_
        exact nz (hJ3_10 b10 _ HN.out)
      ·rintro _ wn hh
       have HH := Lib.hid hh
       clear hh
       have hHeld := HS _ (HH.out.sr.less (fun _ hr => hr))
       refine ny ?_
       refine twq 5 10 78 83 13 1023 2015 (fun K hK => ?_) (fun K hK => ?_)
       ·refine gq Tryz.func55 #[u6, .int .i64 (n2 : Int), .int .i64 (wrap64 (6 * y.slots))] ?_
        with_reducible refine ((Rb.upTo HH.out (n2 : Int) (wrap64 (6 * y.slots)) (13 + y.slots + 6 * y.slots) HU1.out HU2.out (by have := HS40.out; omega))).mono ?_
        rintro e wn' ⟨v5, rfl, hn⟩
        refine ⟨_, rfl, ?_⟩
        have HN := Lib.hid hn
        clear hn
        refine hK.out _ _ (HS _ (HN.out.sr.less (fun _ hr => hr))) (fun hHeld => ?_)
        clear hK K
        refine nx 78 ?_
        exact nz (hJ3_5 v5 _ HN.out)
       ·refine vq ?_
        refine hK.out _ _ (HS _ ((HH.out.row _).sr.less (fun _ hr => (mt hr)))) (fun hHeld => ?_)
        clear hK K
        refine nx 83 ?_
        exact nz (hJ3_10 wn.heap.size _ ((HH.out.row _).less (mc mh (fun _ hr => (mt hr)))))
     ·rintro b10 wn hh
      have HH := Lib.hid hh
      clear hh
      have hHeld := HS _ (HH.out.sr.less (fun _ hr => (mt hr)))
      refine ny ?_
      refine oq 5 78 13 2047 (fun K hK => ?_)
      refine gq Tryz.func55 #[u6, .int .i64 (n2 : Int), .int .i64 (wrap64 (6 * y.slots))] ?_
      with_reducible refine ((Rb.upTo HH.out (n2 : Int) (wrap64 (6 * y.slots)) (13 + y.slots + 6 * y.slots) HU1.out HU2.out (by have := HS40.out; omega))).mono ?_
      rintro e wn' ⟨v5, rfl, hn⟩
      refine ⟨_, rfl, ?_⟩
      have HN := Lib.hid hn
      clear hn
      refine hK.out _ _ (HS _ (HN.out.sr.less (fun _ hr => (mt hr)))) (fun hHeld => ?_)
      clear hK K
      refine nx 78 ?_
      exact nz (hJ3_5_10 (b10, v5) _ HN.out)
    ·rintro v5 wn hh
     have HH := Lib.hid hh
     clear hh
     have hHeld := HS _ (HH.out.sr.less (fun _ hr => hr))
     refine ny ?_
     refine oq 10 83 13 2047 (fun K hK => ?_)
     refine vq ?_
     refine hK.out _ _ (HS _ ((HH.out.row _).sr.less (fun _ hr => (mt hr)))) (fun hHeld => ?_)
     clear hK K
     refine nx 83 ?_
     exact nz (hJ3_5_10 (wn.heap.size, v5) _ ((HH.out.row _).less (mc mh (fun _ hr => (mt hr)))))
   rintro ⟨b10, v5⟩ wn hh
   have HH := Lib.hid hh
   clear hh
   have hHeld := HS _ (HH.out.sr.less (fun _ hr => (mt hr)))
   refine ny ?_
   refine oq 11 84 13 4095 (fun K hK => ?_)
   refine Kd.R_append_rows_step (Kd.int .u8) (w0 := w) w.heap.size (by rfl) (.tmp 78) (.tmp 83) 29 5 (.int .u8 0) 1 rfl Tryz.underlying29 infou8 rfl (show 0 < 1 by omega) (by omega) _ _ [IntKind.u8.wrap (nD : Int)] (some ⟨b10, 0, none⟩) 1 1 _ (fun _ => False) rfl rfl HH.out.2 (C_u8o (HH.out.sr.2 _ mh).2 (by simp)) u8_KM (fun _ h_ => h_.elim) HH.out.fresh HH.out.bel HH.out.bel.size (by have h9 := fillL (xs := X) (L := 13 + y.slots + 6 * y.slots) HU2.out; have := HS40.out; omega) ?_
   intro vq wn' ho hb hg hn
   have HN := Lib.hid (Rb.grown HH.out ho hb hg)
   clear ho hb hg hn
   have HQ := Lib.hid HN.out
   clear HN
   refine hK.out _ _ (HS _ (HQ.out.sr.less (fun _ hr => mt hr))) (fun hHeld => ?_)
   clear hK K
   refine nx 84 ?_
   refine pq 12 6 13 8191 ?_
   refine done_ (by kernel_rfl) ?_
   have HF := Lib.hid (show Rb w [(gd, (oRfH0 q nL PA nP DA nD nK)), (gl, y.cobj)] wn' vq (qB4 y q) from by
    have h := HQ.out.less (rows' := [(gd, (oRfH0 q nL PA nP DA nD nK)), (gl, y.cobj)]) (fun _ hr => mt hr)
    unfold qB4
    rw [HXe.out, ND.out, ← u8_mod]
    exact h)
   clear HQ HS HH HE
   have HL4 := Lib.hid (qB4_len HK.out HO.out)
   obtain ⟨A3, c3, e3, _, _⟩ := HF.out.reads
   obtain ⟨n3, hn3⟩ : ∃ n, (qB4 y q).length = n := ⟨_, rfl⟩
   rw [hn3] at e3
   subst e3
   have HN3 := Lib.hid hn3
   clear hn3
   have qd4 := HF.out.sr.cell mh 4 rfl
   go_wp2_with fail
   clear qd4
   go_loopw [6, 9] (fun u i wr => ∃ k : Nat, k ≤ nD ∧ i = .int .i64 k ∧ Hid (Rb w [(gd, (oRfH0 q nL PA nP DA nD nK)), (gl, y.cobj)] wr u (qB4 y q ++ (q.D.take k).flatMap dqB))) (fun _ i _ => nD - (intOf i).toNat)
   case atStart =>
    exact ⟨0, Nat.zero_le _, rfl, by simpa using HF⟩
   case round =>
    clear HF
    obtain ⟨k, hk, rfl, HS0⟩ := hrel
    have qd4 := HS0.out.sr.cell mh 4 rfl
    by_cases hlt : k < nD
    ·obtain ⟨⟨gn, ⟨key, id⟩⟩, hb⟩ : ∃ b, rd_T143 q.D (k : Int) = b := ⟨_, rfl⟩
     have hks : k < q.D.length := by have := ND.out; omega
     have hel : q.D[k] = ⟨gn, ⟨key, id⟩⟩ := by
      rw [← hb]
      unfold rd_T143
      rw [Int.toNat_natCast, List.getD_eq_getElem?_getD, List.getElem?_eq_getElem hks]
      rfl
     have HDr := Lib.hid (show q.D.take (k + 1) = q.D.take k ++ [⟨gn, ⟨key, id⟩⟩] by rw [List.take_succ_eq_append_getElem hks, hel])
     have HMm := Lib.hid (show (⟨gn, ⟨key, id⟩⟩ : Eq') ∈ q.D from hel ▸ List.getElem_mem hks)
     obtain ⟨ad, rfl, q0, q1, q2⟩ := at_T143 HRD.out (k : Int) (by omega) (by omega)
     rw [hb] at q0 q1 q2
     simp only [Int.toNat_natCast] at q0 q1 q2
     clear hb hks hel
     have HOk := Lib.hid (HO.out.hd.2 _ HMm.out)
     have HQ1' := Lib.hid q1
     have HQ2' := Lib.hid q2
     replace q0 := (HS0.out.bel.cell (World.block_lt_of_cell? w _ q0)).trans q0
     have HLX := Lib.hid (show (qB4 y q ++ (q.D.take k).flatMap dqB).length ≤ 1100 by
      have h1 := flatDq (q.D.take k) (fun x hx => (HO.out.hd.2 x (List.mem_of_mem_take hx)).1)
      have h2 := HL4.out
      have h3 := HS40.out
      have h4 := HO.out.hd.1
      have h5 := ND.out
      have h6 := HC5.out
      rw [List.length_append, h1, List.length_take]
      omega)
     obtain ⟨X, hX⟩ : ∃ X, qB4 y q ++ (q.D.take k).flatMap dqB = X := ⟨_, rfl⟩
     rw [hX] at HS0 HLX
     have HXe := Lib.hid hX
     have c0 : (0 : Int) ≤ (k : Int) := by omega
     clear q1 q2 hX
     cases gn with
     | true =>
      go_upto_region 20 with fail
      clear qd4 q0
      have HS : ∀ w', Sr w [(gd, (oRfH1 q nL PA nP ad nD nK)), (gl, y.cobj)] w' → w'.cell? ⟨gd, 4, none⟩ = some (.slice (some ad) nD q.Dc) ∧ w'.cell? ⟨(ad.add (k * 3)).block, (ad.add (k * 3)).off + 1, none⟩ = some (.string key) ∧ w'.cell? ⟨(ad.add (k * 3)).block, (ad.add (k * 3)).off + 2, none⟩ = some (.int .i64 id) := fun w' h => ⟨h.cell mh 4 rfl, (h.bel.cell (World.block_lt_of_cell? w _ HQ1'.out)).trans HQ1'.out, (h.bel.cell (World.block_lt_of_cell? w _ HQ2'.out)).trans HQ2'.out⟩
      refine stq 21 0 (sRfH3 gd ad nD q k key id) (HS _ (HS0.out.below (drewB _)).sr) (fun hHeld => ?_)
      have HR1 := Lib.hid (HS0.out.below (drewB _))
      generalize wr.drew = W0 at HR1 hHeld ⊢
      refine pq 0 100 21 1 ?_
      refine pq 1 101 21 3 ?_
      refine pq 2 102 21 7 ?_
      refine pq 4 104 21 23 ?_
      refine pq 12 112 21 4119 ?_
      refine pq 14 114 21 20503 ?_
      refine tq 3 103 21 20511 hHeld ?_
      refine pq 5 105 21 20543 ?_
      refine pq 6 106 21 20607 ?_
      refine pq 7 107 21 20735 ?_
      refine tq 8 108 21 20991 hHeld ?_
      refine pq 9 109 21 21503 ?_
      refine tq 13 113 21 29695 hHeld ?_
      refine pq 15 115 21 62463 ?_
      refine pq 16 116 21 127999 ?_
      refine pq 17 117 21 259071 ?_
      refine tq 18 118 21 521215 hHeld ?_
      refine oq 10 110 21 522239 (fun K hK => ?_)
      refine vq ?_
      have HQ1 := Lib.hid (HR1.out.row (u8o [0, IntKind.u8.wrap id]))
      replace HQ1 : RowKit.Hid (Rb w ((W0.heap.size, u8o [0, IntKind.u8.wrap id]) :: [(gd, (oRfH1 q nL PA nP ad nD nK)), (gl, y.cobj)]) (W0.alloc (Obj.cells #[.int .u8 0, .int .u8 (IntKind.u8.wrap id)] 5)) u6 X) := HQ1
      generalize W0.alloc (Obj.cells #[.int .u8 0, .int .u8 (IntKind.u8.wrap id)] 5) = W1 at HQ1 ⊢
      refine hK.out _ _ (HS _ (HQ1.out.sr.less (fun _ hr => mt hr))) (fun hHeld => ?_)
      clear hK K
      refine nx 110 ?_
      refine oq 11 111 21 524287 (fun K hK => ?_)
      refine Kd.R_append_rows_step (Kd.int .u8) (w0 := w) w.heap.size (by rfl) (.tmp 100) (.tmp 110) 29 5 (.int .u8 0) 1 rfl Tryz.underlying29 infou8 rfl (show 0 < 1 by omega) (by omega) _ _ [0, IntKind.u8.wrap id] (some ⟨W0.heap.size, 0, none⟩) 2 2 _ (fun _ => False) rfl rfl HQ1.out.2 (C_u8o (HQ1.out.sr.2 _ mh).2 (by simp)) u8_KM (fun _ h_ => h_.elim) HQ1.out.fresh HQ1.out.bel HQ1.out.bel.size (by have := HLX.out; omega) ?_
      intro v9 wn' ho hb hg hn
      have HN := Lib.hid (Rb.grown HQ1.out ho hb hg)
      clear ho hb hg hn
      have HQ2 := Lib.hid HN.out
      clear HN
      refine hK.out _ _ (HS _ (HQ2.out.sr.less (fun _ hr => mt hr))) (fun hHeld => ?_)
      clear hK K
      refine nx 111 ?_
      refine oq 19 119 21 1048575 (fun K hK => ?_)
      refine Rb.str_step key (.tmp 111) (.tmp 118) HQ2.out (by rfl) rfl rfl rfl (by rw [HOk.out.1]; decide) (by rw [List.length_append, HOk.out.1]; have := HLX.out; simp; omega) ?_
      intro vq wq hn
      have HQ3 := Lib.hid hn
      clear hn
      refine hK.out _ _ (HS _ (HQ3.out.sr.less (fun _ hr => mt hr))) (fun hHeld => ?_)
      clear hK K
      refine nx 119 ?_
      refine pq 20 6 21 2097151 ?_
      refine done_ (by kernel_rfl) ?_
      go_wp2_with fail
      have ek : wrap64 ((k : Int) + 1) = ((k + 1 : Nat) : Int) := by have h1 := HS40.out; have h2 := HO.out.hp.1; have h3 := ND.out; have h4 := HC5.out; have h5 := HO.out.hd.1; rw [wr64 (by omega) (by omega)]; omega
      rw [ek]
      refine ⟨⟨k + 1, by omega, rfl, ?_⟩, ?_⟩
      ·have hq := HQ3.out.less (rows' := [(gd, (oRfH1 q nL PA nP ad nD nK)), (gl, y.cobj)]) (fun _ hr => mt hr)
       rw [← HXe.out] at hq
       have e : qB4 y q ++ (q.D.take k).flatMap dqB ++ [0, IntKind.u8.wrap id] ++ strL key = qB4 y q ++ (q.D.take (k + 1)).flatMap dqB := by
        rw [HDr.out, List.flatMap_append, u8_mod]
        simp [dqB, bes1, show ∀ a b : Int, bes 1 [a, b] = [a % 256, b % 256] from fun a b => by rw [show [a, b] = [a] ++ [b] from rfl, bes_app, bes1, bes1]; rfl]
       rw [e] at hq
       exact hq
      ·simp only [intOf]
       omega
     | false =>
      go_upto_region 20 with fail
      clear qd4 q0
      have HS : ∀ w', Sr w [(gd, (oRfH1 q nL PA nP ad nD nK)), (gl, y.cobj)] w' → w'.cell? ⟨gd, 4, none⟩ = some (.slice (some ad) nD q.Dc) ∧ w'.cell? ⟨(ad.add (k * 3)).block, (ad.add (k * 3)).off + 1, none⟩ = some (.string key) ∧ w'.cell? ⟨(ad.add (k * 3)).block, (ad.add (k * 3)).off + 2, none⟩ = some (.int .i64 id) := fun w' h => ⟨h.cell mh 4 rfl, (h.bel.cell (World.block_lt_of_cell? w _ HQ1'.out)).trans HQ1'.out, (h.bel.cell (World.block_lt_of_cell? w _ HQ2'.out)).trans HQ2'.out⟩
      refine stq 21 0 (sRfH3 gd ad nD q k key id) (HS _ (HS0.out.below (drewB _)).sr) (fun hHeld => ?_)
      have HR1 := Lib.hid (HS0.out.below (drewB _))
      generalize wr.drew = W0 at HR1 hHeld ⊢
      refine pq 0 100 21 1 ?_
      refine pq 1 101 21 3 ?_
      refine pq 2 102 21 7 ?_
      refine pq 4 104 21 23 ?_
      refine pq 12 112 21 4119 ?_
      refine pq 14 114 21 20503 ?_
      refine tq 3 103 21 20511 hHeld ?_
      refine pq 5 105 21 20543 ?_
      refine pq 6 106 21 20607 ?_
      refine pq 7 107 21 20735 ?_
      refine tq 8 108 21 20991 hHeld ?_
      refine pq 9 109 21 21503 ?_
      refine tq 13 113 21 29695 hHeld ?_
      refine pq 15 115 21 62463 ?_
      refine pq 16 116 21 127999 ?_
      refine pq 17 117 21 259071 ?_
      refine tq 18 118 21 521215 hHeld ?_
      refine oq 10 110 21 522239 (fun K hK => ?_)
      refine vq ?_
      have HQ1 := Lib.hid (HR1.out.row (u8o [1, IntKind.u8.wrap id]))
      replace HQ1 : RowKit.Hid (Rb w ((W0.heap.size, u8o [1, IntKind.u8.wrap id]) :: [(gd, (oRfH1 q nL PA nP ad nD nK)), (gl, y.cobj)]) (W0.alloc (Obj.cells #[.int .u8 1, .int .u8 (IntKind.u8.wrap id)] 5)) u6 X) := HQ1
      generalize W0.alloc (Obj.cells #[.int .u8 1, .int .u8 (IntKind.u8.wrap id)] 5) = W1 at HQ1 ⊢
      refine hK.out _ _ (HS _ (HQ1.out.sr.less (fun _ hr => mt hr))) (fun hHeld => ?_)
      clear hK K
      refine nx 110 ?_
      refine oq 11 111 21 524287 (fun K hK => ?_)
      refine Kd.R_append_rows_step (Kd.int .u8) (w0 := w) w.heap.size (by rfl) (.tmp 100) (.tmp 110) 29 5 (.int .u8 0) 1 rfl Tryz.underlying29 infou8 rfl (show 0 < 1 by omega) (by omega) _ _ [1, IntKind.u8.wrap id] (some ⟨W0.heap.size, 0, none⟩) 2 2 _ (fun _ => False) rfl rfl HQ1.out.2 (C_u8o (HQ1.out.sr.2 _ mh).2 (by simp)) u8_KM (fun _ h_ => h_.elim) HQ1.out.fresh HQ1.out.bel HQ1.out.bel.size (by have := HLX.out; omega) ?_
      intro v9 wn' ho hb hg hn
      have HN := Lib.hid (Rb.grown HQ1.out ho hb hg)
      clear ho hb hg hn
      have HQ2 := Lib.hid HN.out
      clear HN
      refine hK.out _ _ (HS _ (HQ2.out.sr.less (fun _ hr => mt hr))) (fun hHeld => ?_)
      clear hK K
      refine nx 111 ?_
      refine oq 19 119 21 1048575 (fun K hK => ?_)
      refine Rb.str_step key (.tmp 111) (.tmp 118) HQ2.out (by rfl) rfl rfl rfl (by rw [HOk.out.1]; decide) (by rw [List.length_append, HOk.out.1]; have := HLX.out; simp; omega) ?_
      intro vq wq hn
      have HQ3 := Lib.hid hn
      clear hn
      refine hK.out _ _ (HS _ (HQ3.out.sr.less (fun _ hr => mt hr))) (fun hHeld => ?_)
      clear hK K
      refine nx 119 ?_
      refine pq 20 6 21 2097151 ?_
      refine done_ (by kernel_rfl) ?_
      go_wp2_with fail
      have ek : wrap64 ((k : Int) + 1) = ((k + 1 : Nat) : Int) := by have h1 := HS40.out; have h2 := HO.out.hp.1; have h3 := ND.out; have h4 := HC5.out; have h5 := HO.out.hd.1; rw [wr64 (by omega) (by omega)]; omega
      rw [ek]
      refine ⟨⟨k + 1, by omega, rfl, ?_⟩, ?_⟩
      ·have hq := HQ3.out.less (rows' := [(gd, (oRfH1 q nL PA nP ad nD nK)), (gl, y.cobj)]) (fun _ hr => mt hr)
       rw [← HXe.out] at hq
       have e : qB4 y q ++ (q.D.take k).flatMap dqB ++ [1, IntKind.u8.wrap id] ++ strL key = qB4 y q ++ (q.D.take (k + 1)).flatMap dqB := by
        rw [HDr.out, List.flatMap_append, u8_mod]
        simp [dqB, bes1, show ∀ a b : Int, bes 1 [a, b] = [a % 256, b % 256] from fun a b => by rw [show [a, b] = [a] ++ [b] from rfl, bes_app, bes1, bes1]; rfl]
       rw [e] at hq
       exact hq
      ·simp only [intOf]
       omega
    ·obtain rfl : nD = k := by omega
     have HE := Lib.hid (show Rb w [(gd, (oRfH0 q nL PA nP DA nD nK)), (gl, y.cobj)] wr u6 (qB4 y q ++ q.D.flatMap dqB) from by have h := HS0.out; rw [show q.D.take nD = q.D from by rw [← ND.out, List.take_length]] at h; exact h)
     clear HS0
     go_wp2_with fail
     clear qd4
     go_upto_region 21 with fail
     have HU1 := Lib.hid (show wrap64 ((n3 : Int) + wrap64 (12 * y.c5)) = 14 + 7 * y.slots + 12 * y.c5 by
      have h1 := HC5.out
      have h2 := HN3.out
      have h3 := HL4.out
      have h4 := HS40.out
      rw [wr64 (z := 12 * y.c5) (by omega) (by omega), wr64 (by omega) (by omega)]
      omega)
     have HU2 := Lib.hid (show ((qB4 y q ++ q.D.flatMap dqB).length : Int) ≤ 14 + 7 * y.slots + 12 * y.c5 by
      have h1 := flatDq q.D (fun x hx => (HO.out.hd.2 x hx).1)
      have h2 := HL4.out
      have h4 := HO.out.hd.1
      rw [List.length_append, h1]
      omega)
     have HS : ∀ w', Sr w [(gd, (oRfH0 q nL PA nP DA nD nK)), (gl, y.cobj)] w' → w'.cell? ⟨gd, 5, none⟩ = some (.slice q.KA nK q.Kc) ∧ w'.cell? ⟨gl, 0, none⟩ = some (.int .i64 y.c0) ∧ w'.cell? ⟨gl, 1, none⟩ = some (.int .i64 y.c1) ∧ w'.cell? ⟨gl, 2, none⟩ = some (.int .i64 y.c2) ∧ w'.cell? ⟨gl, 3, none⟩ = some (.int .i64 y.c3) ∧ w'.cell? ⟨gl, 4, none⟩ = some (.int .i64 y.c4) ∧ w'.cell? ⟨gl, 5, none⟩ = some (.int .i64 y.c5) ∧ w'.cell? ⟨gl, 6, none⟩ = some (.int .i64 y.c6) ∧ w'.cell? ⟨gl, 7, none⟩ = some (.int .i64 y.c7) ∧ w'.cell? ⟨gl, 8, none⟩ = some (.int .i64 y.c8) ∧ w'.cell? ⟨gl, 9, none⟩ = some (.int .i64 y.c9) ∧ w'.cell? ⟨gl, 10, none⟩ = some (.slice y.A y.l.length y.cap) := fun w' h => ⟨h.cell mh 5 rfl, h.cell (mt mh) 0 rfl, h.cell (mt mh) 1 rfl, h.cell (mt mh) 2 rfl, h.cell (mt mh) 3 rfl, h.cell (mt mh) 4 rfl, h.cell (mt mh) 5 rfl, h.cell (mt mh) 6 rfl, h.cell (mt mh) 7 rfl, h.cell (mt mh) 8 rfl, h.cell (mt mh) 9 rfl, h.cell (mt mh) 10 rfl⟩
     refine stq 14 0 (fun w' => w'.cell? ⟨gd, 5, none⟩ = some (.slice q.KA nK q.Kc) ∧ w'.cell? ⟨gl, 0, none⟩ = some (.int .i64 y.c0) ∧ w'.cell? ⟨gl, 1, none⟩ = some (.int .i64 y.c1) ∧ w'.cell? ⟨gl, 2, none⟩ = some (.int .i64 y.c2) ∧ w'.cell? ⟨gl, 3, none⟩ = some (.int .i64 y.c3) ∧ w'.cell? ⟨gl, 4, none⟩ = some (.int .i64 y.c4) ∧ w'.cell? ⟨gl, 5, none⟩ = some (.int .i64 y.c5) ∧ w'.cell? ⟨gl, 6, none⟩ = some (.int .i64 y.c6) ∧ w'.cell? ⟨gl, 7, none⟩ = some (.int .i64 y.c7) ∧ w'.cell? ⟨gl, 8, none⟩ = some (.int .i64 y.c8) ∧ w'.cell? ⟨gl, 9, none⟩ = some (.int .i64 y.c9) ∧ w'.cell? ⟨gl, 10, none⟩ = some (.slice y.A y.l.length y.cap)) (HS _ (HE.out.below (drewB _)).sr) (fun hHeld => ?_)
     have HR1 := Lib.hid (HE.out.below (drewB _))
     generalize wr.drew = W0 at HR1 hHeld ⊢
     refine pq 2 122 14 4 ?_
     refine pq 3 123 14 12 ?_
     refine pq 4 124 14 28 ?_
     refine pq 8 128 14 284 ?_
     refine tq 0 120 14 285 hHeld ?_
     refine tq 1 121 14 287 hHeld ?_
     refine tq 5 125 14 319 hHeld ?_
     refine pq 6 126 14 383 ?_
     refine tq 9 129 14 895 hHeld ?_
     refine oq 7 127 14 1023 (fun K hK => ?_)
     refine gq Tryz.func55 #[u6, .int .i64 (n3 : Int), .int .i64 (wrap64 (12 * y.c5))] ?_
     with_reducible refine ((Rb.upTo HR1.out (n3 : Int) (wrap64 (12 * y.c5)) (14 + 7 * y.slots + 12 * y.c5) HU1.out HU2.out (by have := HS40.out; have := HC5.out; omega))).mono ?_
     rintro e w8 ⟨v8, rfl, hn⟩
     refine ⟨_, rfl, ?_⟩
     have HQ1 := Lib.hid (show Rb w [(gd, (oRfH0 q nL PA nP DA nD nK)), (gl, y.cobj)] w8 v8 (qB5 y q) from hn)
     clear hn
     refine hK.out _ _ (HS _ HQ1.out.sr) (fun hHeld => ?_)
     clear hK K
     refine nx 127 ?_
     refine oq 10 130 14 2047 (fun K hK => ?_)
     refine gq Tryz.func57 #[y.v, v8, .slice q.KA nK q.Kc] ?_
     with_reducible refine ((Rb.stashN HQ1.out HK.out q.KA nK q.Kc q.K NK.out HD.out.rk HO.out.hk.1 HO.out.hk.2 (by have h1 := qB5_len HK.out HO.out; have := HS40.out; have := HC5.out; omega))).mono ?_
     rintro e w9 ⟨v9, rfl, hn⟩
     refine ⟨_, rfl, ?_⟩
     have HQ2 := Lib.hid (show Rb w [(gd, (oRfH0 q nL PA nP DA nD nK)), (gl, y.cobj)] w9 v9 (qB6 y q) from hn)
     clear hn
     refine hK.out _ _ (HS _ HQ2.out.sr) (fun hHeld => ?_)
     clear hK K
     refine nx 130 ?_
     refine oq 11 131 14 4095 (fun K hK => ?_)
     refine gq Tryz.func56 #[y.v, v9] ?_
     with_reducible refine ((Rb.whole HQ2.out HY.out HK.out (by have h1 := qB6_len HK.out HO.out; have h2 := deltaLen_le HK.out; omega) (by have h1 := qB6_len HK.out HO.out; have h2 := deltaLen_le HK.out; omega))).mono ?_
     rintro e wz ⟨vz, rfl, hn⟩
     refine ⟨_, rfl, ?_⟩
     have HQ3 := Lib.hid hn
     clear hn
     refine hK.out _ _ (HS _ HQ3.out.sr) (fun hHeld => ?_)
     clear hK K
     refine nx 131 ?_
     refine pq 12 4 14 8191 ?_
     refine pq 13 5 14 16383 ?_
     refine done_ (by kernel_rfl) ?_
     go_wp2_with fail
     refine bodyPost_ret (v := .tuple #[vz, .int .i64 0]) ?_ rfl ?_
     ·simp [results, Tryz.results17, go_sem]
     ·refine ⟨vz, rfl, ?_⟩
      have h := HQ3.out.less (rows' := []) (fun _ hr => by cases hr)
      rw [qB6_len HK.out HO.out] at h
      exact h
end Go.Proofs.YtmbnomlkhmcmaaaGreat.A
end
