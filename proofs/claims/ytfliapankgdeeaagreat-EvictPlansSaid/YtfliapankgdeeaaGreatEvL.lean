/- evict.Plan, walked. -/
import Derived.Test.YtfliapankgdeeaaGreatEvK
namespace Go.Proofs.YtfliapankgdeeaaGreat.A
open Go.RowKit Go.Shelf Go.Lib Go.Sort Go.Proofs.YtfliapankgdeeaaGreatW.PrintWords Go.Proofs.YtfliapankgdeeaaGreatW.PrintLast Go.Proofs.YtfliapankgdeeaaGreatW.PrintMore Go.Proofs.YtfliapankgdeeaaGreat.G
set_option linter.unusedVariables false
set_option linter.unusedSimpArgs false

theorem set_size (w : World) (p : Addr) (u : Value) : (w.setCell p u).heap.size = w.heap.size := by simp [World.setCell]
theorem runB_fills (z h : Int) (bs : List Int) (left : List It) : (runB z h bs left).1.length = bs.length := by
  rw [← runB_keys z h bs left, List.length_map]
  rw [runB_keys]
theorem infoF : (Tryz.prog.info? 42).map (fun i => (i.zero, i.size, i.bytes)) = some (some (.agg #[(.int .i64 0), (.slice none 0 0)]), 2, 32) := by kernel_rfl
theorem infoI : (Tryz.prog.info? 3).map (fun i => (i.zero, i.size, i.bytes)) = some (some (.int .i64 0), 1, 8) := by kernel_rfl

theorem union_calls (h : Int) (A : Option Addr) (c : Nat) (ls : List Int) (w : World) (hC : Kd.C (Kd.int .i64) w A ls.length ls) (hc : ls.length ≤ c) (hl : ls.length < 1000) :
    Calls Tryz.prog 16 #[.int .i64 h, .slice A ls.length c] w fun e w' => ∃ v0_ : Value, e = .returned (v0_) ∧ Kd.R (Kd.int .i64) 3 w' w.heap.size (fun _ => True) v0_ (B.unionOf h ls) ∧ Below w.heap.size w w' :=
  tree_Union.calls 2000 h A c ls _ w hC hc (B.union_any h ls (by omega) 2000 (by omega))

set_option maxHeartbeats 16000000 in
set_option maxRecDepth 100000 in
theorem Plan_calls (h z : Int) (A2 : Option Addr) (c2 : Nat) (ls : List Int) (A3 : Option Addr) (c3 : Nat) (items : List It) (w : World) (hC2 : Kd.C (Kd.int .i64) w A2 ls.length ls) (hc2 : ls.length ≤ c2) (hC3 : Kd.C k35 w A3 items.length items) (hl : ls.length < 1000) (hn : items.length < 1000) :
    Calls Tryz.prog 6 #[.int .i64 h, .int .i64 z, .slice A2 ls.length c2, .slice A3 items.length c3] w fun e w' => ∃ v0 v1, e = .returned (.tuple #[v0, v1]) ∧ Kd.S k42 42 w' w.heap.size (fun k => some k ≠ v1.ownBlock) v0 (planP h z ls items).1 ∧ Kd.R (Kd.int .i64) 3 w' w.heap.size (fun _ => True) v1 (planP h z ls items).2 ∧ Below w.heap.size w w' := by
  have C2 := Aside0.mk hC2
  have C3 := Aside0.mk hC3
  obtain ⟨r, hr⟩ : ∃ r, r = planP h z ls items := ⟨_, rfl⟩
  rw [← hr]
  have HRR := Aside0.mk hr
  clear hC2 hC3 hr
  go_enter Tryz.func6, Tryz.ntmps6
  go_wp2_with (first | ((with_reducible refine gate_dst (N := 4) rfl ?_); refine box_event ?hg (N := 4) ?hd (cs := #[.int .i64 h]) (t := 3) ?hr ?_; (case hd => rfl); (case hg => rfl); (case hr => first | (go_simp; done) | (go_simp; rfl)); intro hb ehb w1 hbox1 hb1; have HX1 := Aside0.mk hbox1; have B1 := Aside0.mk hb1; have EH := Aside0.mk ehb; clear hbox1 hb1 ehb) | ((with_reducible refine gate_dst (N := 5) rfl ?_); refine box_event ?hg (N := 5) ?hd (cs := #[.int .i64 z]) (t := 3) ?hr ?_; (case hd => rfl); (case hg => rfl); (case hr => first | (go_simp; done) | (go_simp; rfl)); intro zb ezb w2 hbox2 hb2; have b2h : w2.heap[hb]? = some (.cells #[.int .i64 h] 3 (0, 0)) := (hb2.block hb (Array.getElem?_eq_some_iff.1 HX1.out).1).trans HX1.out; have ch : w2.cell? ⟨hb, 0, none⟩ = some (.int .i64 h) := (blk_cell b2h 0).trans rfl; have cz : w2.cell? ⟨zb, 0, none⟩ = some (.int .i64 z) := (blk_cell hbox2 0).trans rfl; have HX2 := Aside0.mk hbox2; have HXH := Aside0.mk b2h; have B2 := Aside0.mk hb2; have EZ := Aside0.mk ezb; clear hbox2 hb2 ezb b2h))
  have B2' : Aside0 (Below w.heap.size w w2) := ⟨below_trans B1.out B1.out.size B2.out⟩
  have hso := sorted_calls h z A2 c2 ls A3 c3 items w2 (Kd.C_below C2.out B2'.out) (Kd.C_below C3.out B2'.out) hl hn
  clear B1 B2
  refine hso.mono ?_
  rintro e w3 ⟨v3, its, rfl, hp, hs, R3, B3⟩
  have hzw : zb < w2.heap.size := (Array.getElem?_eq_some_iff.1 HX2.out).1
  have hhw : hb < w2.heap.size := (Array.getElem?_eq_some_iff.1 HXH.out).1
  have ch3 : w3.cell? ⟨hb, 0, none⟩ = some (.int .i64 h) := (B3.cell hhw).trans ch
  have cz3 : w3.cell? ⟨zb, 0, none⟩ = some (.int .i64 z) := (B3.cell hzw).trans cz
  have HP := Aside0.mk hp
  have HS := Aside0.mk hs
  have R3 := Aside0.mk R3
  have B3' : Aside0 (Below w.heap.size w w3) := ⟨below_trans B2'.out B2'.out.size B3⟩
  have HZW := Aside0.mk hzw
  have HHW := Aside0.mk hhw
  have W23 := Aside0.mk B3.size
  clear hso hp hs B3 ch cz hzw hhw HX1 HX2 HXH
  cases hok : okPlan h z ls items with
  | false =>
    have e1 : Aside0 (r = ([], [])) := ⟨by rw [HRR.out]; unfold planP; rw [hok]; rfl⟩
    go_wp2
    go_ret2
    rw [e1.out]
    exact ⟨_, _, rfl, Kd.S_nil _ _ _ _ _, Kd.R_nil _ _ _ _ _, B3'.out⟩
  | true =>
    have hnd : (items.map (·.f0)).Nodup := by
      unfold okPlan at hok
      simp only [Bool.and_eq_true] at hok
      exact of_decide_eq_true hok.1.1.2
    have eits : its = srt items := sort_unique (fun a : It => a.f0) HP.out HS.out hnd
    subst eits
    have e1 : r = (srtF (runB z h (ordB (B.unionOf h ls)) (srt items)).1, (runB z h (ordB (B.unionOf h ls)) (srt items)).2.map (·.f0)) := by rw [HRR.out]; unfold planP; rw [hok, if_pos rfl]
    have hlen : (srt items).length = items.length := HP.out.length_eq
    clear hok hnd HP HS
    have huc := union_calls h A2 c2 ls w3 (Kd.C_below C2.out B3'.out) hc2 hl
    obtain ⟨u, hu⟩ : ∃ u, u = B.unionOf h ls := ⟨_, rfl⟩
    have hu1 : u.Pairwise (· < ·) := by rw [hu]; exact union_strict h ls
    have hu2 : ∀ x ∈ u, 0 ≤ x ∧ x < 127 := fun x hx => by rw [hu] at hx; exact union_in hx
    have hu3 : u.length ≤ 127 := by rw [hu]; exact B.union_length h ls
    rw [← hu] at huc e1
    clear hu
    obtain ⟨l0, hl0⟩ : ∃ l, l = srt items := ⟨_, rfl⟩
    rw [← hl0] at R3 hlen e1
    have E1 := Aside0.mk e1
    clear hl0 e1
    go_wp2_with fail
    refine huc.mono ?_
    rintro e w4 ⟨vb, rfl, Rb, B4⟩
    have hst := SortStable_calls w3.heap.size (fun _ => True) vb u w4 Rb hu2 hu1 hu3
    have RB4 := Aside0.mk Rb
    have B4 := Aside0.mk B4
    clear huc Rb
    go_wp2_with fail
    refine hst.mono ?_
    rintro e w5 ⟨rfl, Rb, E5⟩
    have hvb : ∀ k, vb.ownBlock = some k → w3.heap.size ≤ k := fun k hk => by
      obtain ⟨_, inner, ho, _⟩ := RB4.out
      exact own_base ho k hk
    have hv3 : ∀ k, v3.ownBlock = some k → w2.heap.size ≤ k ∧ k < w3.heap.size := fun k hk => ⟨own_base R3.out k hk, own_lt R3.out k hk⟩
    have E35 : Aside0 (Eff w3 w5 (fun _ => False)) := ⟨(Eff.of_below B4.out).step E5 (fun k hk => .inr (hvb k hk))⟩
    have B5 : Aside0 (Below w.heap.size w w5) := ⟨E35.out.below B3'.out (fun _ hk => hk.elim)⟩
    have ch5 : Aside0 (w5.cell? ⟨hb, 0, none⟩ = some (.int .i64 h)) := ⟨E35.out.cell ch3 id⟩
    have cz5 : Aside0 (w5.cell? ⟨zb, 0, none⟩ = some (.int .i64 z)) := ⟨E35.out.cell cz3 id⟩
    have R5 : Aside0 (Rw encI w5 w2.heap.size 35 v3 l0) := ⟨R3.out.eff E35.out (fun _ _ => id)⟩
    have RB5 : Aside0 (Kd.R (Kd.int .i64) 3 w5 w.heap.size (fun k => v3.ownBlock ≠ some k ∧ k < w5.heap.size) vb (ordB u)) := ⟨Kd.R_lower (Kd.R_mono (Kd.R_bound Rb) (fun k hk => ⟨fun e => by have := (hv3 k e).2; have := hk.2.1; omega, hk.2.2.1⟩)) B3'.out.size⟩
    have HV3 : Aside0 (∀ k, v3.ownBlock = some k → w2.heap.size ≤ k ∧ k < w5.heap.size) := ⟨fun k hk => ⟨(hv3 k hk).1, Nat.lt_of_lt_of_le (hv3 k hk).2 E35.out.size⟩⟩
    have HSZ : Aside0 (w2.heap.size ≤ w5.heap.size) := ⟨Nat.le_trans W23.out E35.out.size⟩
    have hbl : (ordB u).length = u.length := (ordB_perm u).length_eq
    obtain ⟨bs, hbs⟩ : ∃ bs, bs = ordB u := ⟨_, rfl⟩
    rw [← hbs] at RB5 hbl E1
    have HBS := Aside0.mk hbs
    have HU1 := Aside0.mk hu1
    have hbn : bs.length ≤ 127 := by omega
    obtain ⟨Ab, cb, rfl, hcb, _⟩ := Kd.R_reads RB5.out
    clear hst Rb E5 hvb hv3 ch3 cz3 hu1 hu2 hu3 hbs hbl RB4 R3 E35
    go_wp2
    go_loopg [10, 13, 37] bs.length (fun gg vl vf vi wr => ∃ (i : Nat), vi = .int .i64 i ∧ i ≤ bs.length ∧ bs.length - i ≤ gg ∧ Aside0 (vl.ownBlock = v3.ownBlock) ∧ Aside0 (Rw encI wr w2.heap.size 35 vl (runB z h (bs.take i) l0).2) ∧ Aside0 (Kd.S k42 42 wr w.heap.size (fun k => w5.heap.size ≤ k) vf (runB z h (bs.take i) l0).1) ∧ Aside0 (Kd.R (Kd.int .i64) 3 wr w.heap.size (fun k => v3.ownBlock ≠ some k ∧ k < w5.heap.size) (.slice Ab bs.length cb) bs) ∧ Aside0 (wr.cell? ⟨hb, 0, none⟩ = some (.int .i64 h)) ∧ Aside0 (wr.cell? ⟨zb, 0, none⟩ = some (.int .i64 z)) ∧ Aside0 (Below w.heap.size w wr) ∧ Aside0 (w5.heap.size ≤ wr.heap.size))
    case atStart => exact ⟨0, by go_num, Nat.zero_le _, by omega, ⟨rfl⟩, R5, ⟨Kd.S_nil _ _ _ _ _⟩, RB5, ch5, cz5, B5, ⟨Nat.le_refl _⟩⟩
    case round =>
      clear R5 RB5 ch5 cz5 B5
      obtain ⟨i, rfl, hi, hg, VL, R6, F6, RB6, ch6, cz6, B6, S6⟩ := hrel
      by_cases hlt : i < bs.length
      · have hltz : (i : Int) < (bs.length : Int) := by omega
        have hrd := Kd.reads_of_C (d := (0 : Int)) (Kd.R_reads' RB6.out).2.2
        obtain ⟨ad, eA, hcell⟩ := hrd.2.2 (by omega)
        subst eA
        have c0 := hcell i hlt
        obtain ⟨b, eb⟩ : ∃ b, b = bs.getD i 0 := ⟨_, rfl⟩
        rw [← eb] at c0
        have EB := Aside0.mk eb
        clear hrd hcell eb
        go_wp2_with (first | ((with_reducible refine gate_dst (N := 15) rfl ?_); refine box_event ?hg (N := 15) ?hd (cs := #[.int .i64 0]) (t := 3) ?hr ?_; (case hd => rfl); (case hg => rfl); (case hr => first | (go_simp; done) | (go_simp; rfl)); intro bb ebb w6 hbox6 hb6; have z6 : w6.cell? ⟨bb, 0, none⟩ = some (.int .i64 0) := (blk_cell hbox6 0).trans rfl; have y6 := blk_frozen hbox6 0; have HX6 := Aside0.mk hbox6; have B66 := Aside0.mk hb6; have EBB := Aside0.mk ebb; clear hbox6 hb6 ebb) | ((with_reducible refine gate_dst (N := 16) rfl ?_); refine box_event ?hg (N := 16) ?hd (cs := #[.int .i64 0, .slice none 0 0]) (t := 42) ?hr ?_; (case hd => rfl); (case hg => rfl); (case hr => first | (go_simp; done) | (go_simp; rfl)); intro fb efb w7 hbox7 hb7; have z7 : w7.cell? ⟨fb, 0, none⟩ = some (.int .i64 0) := (blk_cell hbox7 0).trans rfl; have z7b : w7.cell? ⟨fb, 1, none⟩ = some (.slice none 0 0) := (blk_cell hbox7 1).trans rfl; have y7 := blk_frozen hbox7 0; have y7b := blk_frozen hbox7 1; have HX7 := Aside0.mk hbox7; have B7 := Aside0.mk hb7; have EFB := Aside0.mk efb; clear hbox7 hb7 efb))
        have BB6 : Aside0 ((w6.setCell ⟨bb, 0, none⟩ (.int .i64 b)).heap[bb]? = some (.cells #[.int .i64 b] 3 (0, 0))) := ⟨blk_put HX6.out 0 _ rfl⟩
        have BW6 : Aside0 (Below wr.heap.size wr (w6.setCell ⟨bb, 0, none⟩ (.int .i64 b))) := ⟨B66.out.setCell (p := ⟨bb, 0, none⟩) (by show _ ≤ bb; rw [EBB.out]; exact Nat.le_refl _) _⟩
        have hbb : bb < (w6.setCell ⟨bb, 0, none⟩ (.int .i64 b)).heap.size := (Array.getElem?_eq_some_iff.1 BB6.out).1
        have hfb : bb < fb := by rw [EFB.out]; exact hbb
        have hwf : wr.heap.size < fb := by rw [← EBB.out]; exact hfb
        obtain ⟨W, hW⟩ : ∃ W, W = (w7.setCell ⟨fb, 0, none⟩ (.int .i64 b)).setCell ⟨fb, 1, none⟩ (.slice none 0 0) := ⟨_, rfl⟩
        have B7W : Below (w6.setCell ⟨bb, 0, none⟩ (.int .i64 b)).heap.size (w6.setCell ⟨bb, 0, none⟩ (.int .i64 b)) W := by
          rw [hW]
          exact (B7.out.setCell (p := ⟨fb, 0, none⟩) (by show _ ≤ fb; rw [EFB.out]; exact Nat.le_refl _) _).setCell (p := ⟨fb, 1, none⟩) (by show _ ≤ fb; rw [EFB.out]; exact Nat.le_refl _) _
        have hF : W.heap[fb]? = some (.cells #[.int .i64 b, .slice none 0 0] 42 (0, 0)) := by
          rw [hW]
          exact blk_put (blk_put HX7.out 0 _ rfl) 1 _ rfl
        have BrW : Below wr.heap.size wr W := below_trans BW6.out BW6.out.size B7W
        have hfw : fb < W.heap.size := (Array.getElem?_eq_some_iff.1 hF).1
        have hcb : W.cell? ⟨bb, 0, none⟩ = some (.int .i64 b) := (B7W.cell hbb).trans ((blk_cell BB6.out 0).trans rfl)
        have hch : W.cell? ⟨hb, 0, none⟩ = some (.int .i64 h) := (BrW.cell (by have := HHW.out; have := S6.out; have := HV3.out; have := W23.out; exact World.block_lt_of_cell? wr _ ch6.out)).trans ch6.out
        have hcz : W.cell? ⟨zb, 0, none⟩ = some (.int .i64 z) := (BrW.cell (World.block_lt_of_cell? wr _ cz6.out)).trans cz6.out
        have hhr : hb < wr.heap.size := World.block_lt_of_cell? wr _ ch6.out
        have hzr : zb < wr.heap.size := World.block_lt_of_cell? wr _ cz6.out
        have RW := R6.out.eff (Eff.of_below (S := fun _ => False) BrW) (fun _ _ => id)
        have hdel := Delete_any (fb := fb) (zb := zb) (hb := hb) (bb := bb) (base := w.heap.size) (z := z) (h := h) (b := b) (w := W) RW (fun q hq => by
          have h1 := own_lt R6.out q hq
          have h2 := own_base R6.out q hq
          have := HZW.out
          have := HHW.out
          have := EBB.out
          exact ⟨by omega, by omega, by omega, by omega⟩) ⟨_, hF, Kd.R_nil _ _ _ _ _⟩ (Nat.le_trans B6.out.size BrW.size) (Nat.lt_of_le_of_lt (runB_len z h _ l0) (by omega)) ⟨hcz, hch, hcb, by omega, by omega, hfb⟩ hfw
        rw [← hW]
        have HBW := Aside0.mk BrW
        have HFB := Aside0.mk hfb
        have HWF := Aside0.mk hwf
        clear hW B7W hF BrW hcb hch hcz hhr hzr RW hbb hfb hwf z6 y6 z7 z7b y7 y7b c0 hfw
        refine hdel.mono ?_
        rintro e w8 ⟨vl', rfl, hvl, R8, F8, E8⟩
        obtain ⟨vi, hf8, hr8⟩ := F8
        obtain ⟨Ai, ci, rfl⟩ := Kd.R_slice hr8
        have e8a : w8.cell? ⟨fb, 0, none⟩ = some (.int .i64 b) := (blk_cell hf8 0).trans rfl
        obtain ⟨ids, hids⟩ : ∃ ids, ids = (tk z (onB h b) [] (runB z h (bs.take i) l0).2).1 := ⟨_, rfl⟩
        rw [← hids] at hf8 hr8
        have e8b : w8.cell? ⟨fb, 1, none⟩ = some (.slice Ai ids.length ci) := (blk_cell hf8 1).trans rfl
        have Er8 : Aside0 (Eff wr w8 (fun k => v3.ownBlock = some k ∨ fb ≤ k)) := ⟨(Eff.of_below HBW.out).trans (E8.mono (fun k hk => hk.imp (fun e => VL.out ▸ e) id))⟩
        have F8 : Aside0 (Kd.S k42 42 w8 w.heap.size (fun k => w5.heap.size ≤ k ∧ k < wr.heap.size) u13 (runB z h (bs.take i) l0).1) := ⟨Kd.S_step (Kd.S_mono (Kd.S_bound F6.out) (fun k hk => ⟨hk.1, hk.2.2.1⟩)) (fun k hk hkl => Er8.out.kept.2 k hkl (fun e => by
          rcases e with e | e
          · have := (HV3.out k e).2; omega
          · have := HWF.out; omega))⟩
        have hvf : ∀ k, u13.ownBlock = some k → w5.heap.size ≤ k ∧ k < wr.heap.size := fun k hk => by
          obtain ⟨h1, inner, ho, _⟩ := Kd.S_R F6.out
          exact ⟨h1 k hk, own_lt ho k hk⟩
        have HR8 := Aside0.mk hr8
        have HIDS := Aside0.mk hids
        have HVF := Aside0.mk hvf
        have R8 := Aside0.mk R8
        have HVL := Aside0.mk hvl
        have S8 : Aside0 (fb < w8.heap.size) := ⟨(Array.getElem?_eq_some_iff.1 hf8).1⟩
        have L6 : Aside0 ((runB z h (bs.take i) l0).1.length ≤ 127) := ⟨by rw [runB_fills, List.length_take]; omega⟩
        clear hdel hf8 hr8 hids E8 hvf hvl
        go_wp2_with ((with_reducible refine gate_builtin (b := .append) (xs := #[.tmp 46, .tmp 48]) rfl ?_); at_builtin; refine Kd.S_append k42 (w0 := w8) w.heap.size rfl (.tmp 46) (.tmp 48) 26 42 (.agg #[.int .i64 0, .slice none 0 0]) 32 rfl Tryz.underlying26 infoF rfl (by decide) (by omega) u13 (runB z h (bs.take i) l0).1 ⟨b, ids⟩ [.int .i64 b, .slice Ai ids.length ci] (fun k => w5.heap.size ≤ k) (fun k => fb < k) rfl rfl ?aP ?aK ?aF ?aO ?aB ?aS ?aL ?_; (case aP => exact k42_mkM w8 w.heap.size _ ⟨b, ids⟩ HR8.out); (case aK => exact (fun k hk => ⟨by have := HWF.out; have := S6.out; omega, fun e => by have := HVF.out k e.symm; have := HWF.out; omega⟩)); (case aB => exact Below.refl _ _); (case aF => exact (fun q hq => by have := S8.out; have := HWF.out; have := S6.out; omega)); (case aO => exact Kd.S_mono F8.out (fun k hk => ⟨hk.1, by have := HWF.out; have := hk.2; omega⟩)); (case aS => have := S8.out; have := HWF.out; have := B6.out.size; omega); (case aL => have := L6.out; omega); intro u13' w9 ho hb9 hg9 hat9; have HO9 := Aside0.mk ho; have HG9 := Aside0.mk hg9; clear ho hb9 hg9 hat9)
        go_roundg (bs.length - (i + 1))
        case measure => omega
        case rel =>
          have E89 : Eff w8 w9 (fun k => u13.ownBlock = some k) := Eff.grown HG9.out (fun q hq => .inl hq)
          have Er9 : Eff wr w9 (fun k => v3.ownBlock = some k ∨ w5.heap.size ≤ k) := (Er8.out.mono (fun k hk => hk.imp id (fun e => by have := HWF.out; have := S6.out; omega))).trans (E89.mono (fun k hk => .inr (HVF.out k hk).1))
          have etk : bs.take (i + 1) = bs.take i ++ [b] := by
            rw [List.take_succ_eq_append_getElem hlt, EB.out]
            simp [List.getD, List.getElem?_eq_getElem hlt]
          have esn : runB z h (bs.take (i + 1)) l0 = ((runB z h (bs.take i) l0).1 ++ [⟨b, ids⟩], (tk z (onB h b) [] (runB z h (bs.take i) l0).2).2) := by rw [etk, runB_snoc, HIDS.out]
          have hvl3 : vl'.ownBlock = v3.ownBlock := HVL.out.trans VL.out
          refine ⟨i + 1, by go_num, hlt, Nat.le_refl _, ⟨hvl3⟩, ⟨?_⟩, ⟨?_⟩, ⟨?_⟩, ⟨?_⟩, ⟨?_⟩, ⟨?_⟩, ⟨?_⟩⟩
          · rw [esn]
            exact R8.out.eff E89 (fun q hq e => by
              rw [hvl3] at hq
              have := (HV3.out q hq).2
              have := (HVF.out q e).1
              omega)
          · rw [esn]; exact HO9.out
          · exact Kd.R_step RB6.out (fun k hk hkl => Er9.kept.2 k hkl (fun e => by
              rcases e with e | e
              · exact hk.1 e
              · have := hk.2; omega))
          · exact Er9.cell ch6.out (fun e => by
              have := HHW.out
              rcases e with e | e
              · have := (HV3.out hb e).1; omega
              · have : w5.heap.size ≤ hb := e
                have := S6.out
                have := W23.out
                have := HSZ.out
                omega)
          · exact Er9.cell cz6.out (fun e => by
              have := HZW.out
              rcases e with e | e
              · have := (HV3.out zb e).1; omega
              · have : w5.heap.size ≤ zb := e
                have := HSZ.out
                omega)
          · exact Er9.below B6.out (fun k hk => by
              have := B2'.out.size
              have := HSZ.out
              rcases hk with e | e
              · have := (HV3.out k e).1; omega
              · omega)
          · exact Nat.le_trans S6.out Er9.size
      · obtain rfl : i = bs.length := by omega
        have hltz : ¬ (bs.length : Int) < (bs.length : Int) := by omega
        rw [List.take_length] at R6 F6
        have hfl : (runB z h bs l0).1.length ≤ 127 := by rw [runB_fills]; exact hbn
        have hsf := sortFill_calls F6.out (by omega)
        have hnd : ((runB z h bs l0).1.map (·.f0)).Nodup := by
          rw [runB_keys, HBS.out]
          exact (ordB_perm u).nodup_iff.2 (HU1.out.imp (fun h => by omega))
        have HND := Aside0.mk hnd
        have hll : (runB z h bs l0).2.length ≤ l0.length := runB_len z h bs l0
        have E1 : Aside0 (r = (srtF (runB z h bs l0).1, (runB z h bs l0).2.map (·.f0))) := E1
        obtain ⟨lf, hlf⟩ : ∃ lf, lf = (runB z h bs l0).2 := ⟨_, rfl⟩
        rw [← hlf] at R6 hll E1
        have hvf : ∀ k, u13.ownBlock = some k → w5.heap.size ≤ k ∧ k < wr.heap.size := fun k hk => by
          obtain ⟨h1, inner, ho, _⟩ := Kd.S_R F6.out
          exact ⟨h1 k hk, own_lt ho k hk⟩
        clear hnd hlf hfl RB6 ch6 cz6
        go_wp2_with fail
        refine hsf.mono ?_
        rintro e w9 ⟨rfl, fl, hp, hs, F9, E9⟩
        have efl : fl = srtF (runB z h bs l0).1 := sort_unique (fun a : Fl => a.f0) hp hs HND.out
        have E1 : Aside0 (r = (fl, lf.map (·.f0))) := ⟨by rw [E1.out, efl]⟩
        have hvl : ∀ k, u10.ownBlock = some k → k < w5.heap.size := fun k hk => (HV3.out k (VL.out ▸ hk)).2
        have R9 : Aside0 (Rw encI w9 w2.heap.size 35 u10 lf) := ⟨R6.out.eff E9 (fun q hq e => by have := hvl q hq; have := (hvf q e).1; omega)⟩
        have F9 : Aside0 (Kd.S k42 42 w9 w.heap.size (fun k => w5.heap.size ≤ k ∧ k < w9.heap.size) u13 fl) := ⟨Kd.S_mono (Kd.S_bound F9) (fun k hk => ⟨hk.1, hk.2.2.1⟩)⟩
        have B9 : Aside0 (Below w.heap.size w w9) := ⟨E9.below B6.out (fun k hk => by have := (hvf k hk).1; have := B2'.out.size; have := HSZ.out; omega)⟩
        have S9 : Aside0 (w5.heap.size ≤ w9.heap.size) := ⟨Nat.le_trans S6.out E9.size⟩
        have HVL := Aside0.mk hvl
        obtain ⟨Al, cl, rfl, hcl⟩ := R9.out.slice
        clear hsf hp hs efl E9 hvf hvl R6 F6 B6 S6 HND VL
        go_wp2
        go_loopg [17, 55] lf.length (fun gg vo vi wr2 => ∃ (i : Nat), vi = .int .i64 i ∧ i ≤ lf.length ∧ lf.length - i ≤ gg ∧ Aside0 (Rw encI wr2 w2.heap.size 35 (.slice Al lf.length cl) lf) ∧ Aside0 (Kd.S k42 42 wr2 w.heap.size (fun k => w5.heap.size ≤ k ∧ k < w9.heap.size) u13 fl) ∧ Aside0 (Kd.R (Kd.int .i64) 3 wr2 w.heap.size (fun k => w9.heap.size ≤ k) vo ((lf.take i).map (·.f0))) ∧ Aside0 (Below w.heap.size w wr2) ∧ Aside0 (w9.heap.size ≤ wr2.heap.size))
        case atStart => exact ⟨0, by go_num, Nat.zero_le _, by omega, R9, F9, ⟨Kd.R_nil _ _ _ _ _⟩, B9, ⟨Nat.le_refl _⟩⟩
        case round =>
          clear R9 F9 B9
          obtain ⟨i, rfl, hi2, hg2, R10, F10, I10, B10, S10⟩ := hrel
          by_cases hlt2 : i < lf.length
          · have hltz2 : (i : Int) < (lf.length : Int) := by omega
            obtain ⟨g, c', hv, _⟩ := R10.out.at_ (by omega)
            cases hv
            have c0 : wr.cell? ⟨g, i * 2, none⟩ = some (.int .i64 lf[i].f0) := (R10.out.cell encI_two i hlt2 0 (by omega)).trans rfl
            have k1 : wr.cell? ⟨g, i * 2 + 1, none⟩ = some (.int .i64 lf[i].f1) := (R10.out.cell encI_two i hlt2 1 (by omega)).trans rfl
            have etk : (lf.take (i + 1)).map (·.f0) = (lf.take i).map (·.f0) ++ [lf[i].f0] := by rw [List.take_succ_eq_append_getElem hlt2, List.map_append]; rfl
            have ETK := Aside0.mk etk
            have LT : Aside0 (((lf.take i).map (·.f0)).length ≤ 1000) := ⟨by rw [List.length_map, List.length_take]; omega⟩
            clear etk
            generalize lf[i] = x at c0 k1 ETK
            go_wp2_with (first | ((with_reducible refine gate_dst (N := 19) rfl ?_); refine box_event ?hg (N := 19) ?hd (cs := #[.int .i64 0, .int .i64 0]) (t := 35) ?hr ?_; (case hd => rfl); (case hg => rfl); (case hr => first | (go_simp; done) | (go_simp; rfl)); intro gb hgb w11 hbox hb11; have z0 : w11.cell? ⟨gb, 0, none⟩ = some (.int .i64 0) := (blk_cell hbox 0).trans rfl; have z1 : w11.cell? ⟨gb, 1, none⟩ = some (.int .i64 0) := (blk_cell hbox 1).trans rfl; have y0 := blk_frozen hbox 0; have y1 := blk_frozen hbox 1; have BW : Aside0 (Below wr.heap.size wr ((w11.setCell ⟨gb, 0, none⟩ (.int .i64 x.f0)).setCell ⟨gb, 1, none⟩ (.int .i64 x.f1))) := ⟨(hb11.setCell (p := ⟨gb, 0, none⟩) (by show _ ≤ gb; rw [hgb]; exact Nat.le_refl _) _).setCell (p := ⟨gb, 1, none⟩) (by show _ ≤ gb; rw [hgb]; exact Nat.le_refl _) _⟩; have IW := Aside0.mk (Kd.R_below I10.out BW.out); clear hbox hb11 hgb) | ((with_reducible refine gate_builtin (b := .append) (xs := #[.tmp 59, .tmp 62]) rfl ?_); at_builtin; refine Kd.R_append (Kd.int .i64) (w0 := ((w11.setCell ⟨gb, 0, none⟩ (.int .i64 x.f0)).setCell ⟨gb, 1, none⟩ (.int .i64 x.f1))) w.heap.size rfl (.tmp 59) (.tmp 62) 22 3 (.int .i64 0) 8 rfl Tryz.underlying22 infoI rfl (by decide) (by omega) u17 ((lf.take i).map (·.f0)) x.f0 [.int .i64 x.f0] (fun k => w9.heap.size ≤ k) (fun _ => False) rfl ?hX ?aP (fun _ hk => hk.elim) ?aF ?aO ?aB ?aS ?aL ?_; (case hX => rw [set_size, set_size]; rfl); (case aP => exact rfl); (case aB => exact Below.refl _ _); (case aF => exact (fun q hq => by have := S10.out; have := BW.out.size; omega)); (case aO => exact IW.out); (case aS => exact Nat.le_trans B10.out.size BW.out.size); (case aL => have := LT.out; omega); intro v12 w12 ho hb12 hg12 hat12; have HO12 := Aside0.mk ho; have HG12 := Aside0.mk hg12; clear ho hb12 hg12 hat12))
            go_roundg (lf.length - (i + 1))
            case measure => omega
            case rel =>
              have hv17 : ∀ k, u17.ownBlock = some k → w9.heap.size ≤ k := fun k hk => I10.out.1 k hk
              have E12 : Eff wr w12 (fun k => w9.heap.size ≤ k) := (Eff.of_below BW.out).trans (Eff.grown HG12.out (fun q hq => .inl (hv17 q hq)))
              refine ⟨i + 1, by go_num, hlt2, Nat.le_refl _, ⟨?_⟩, ⟨?_⟩, ⟨?_⟩, ⟨?_⟩, ⟨?_⟩⟩
              · exact R10.out.eff E12 (fun q hq e => by have := HVL.out q hq; have := S9.out; omega)
              · exact Kd.S_step F10.out (fun k hk hkl => E12.kept.2 k hkl (fun e => by have := hk.2; omega))
              · rw [ETK.out]; exact HO12.out
              · exact E12.below B10.out (fun k hk => by have := B2'.out.size; have := HSZ.out; have := S9.out; omega)
              · exact Nat.le_trans S10.out E12.size
          · obtain rfl : i = lf.length := by omega
            have hltz2 : ¬ (lf.length : Int) < (lf.length : Int) := by omega
            rw [List.take_length] at I10
            go_wp2
            go_ret2
            rw [E1.out]
            exact ⟨_, _, rfl, Kd.S_mono F10.out (fun k hk e => by have := I10.out.1 k e.symm; have := hk.2; omega), Kd.R_mono I10.out (fun _ _ => trivial), B10.out⟩
end Go.Proofs.YtfliapankgdeeaaGreat.A
