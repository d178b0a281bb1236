/- evict.sorted. -/
import Derived.Test.YtfliapankgdeeaaGreatEvG
import Derived.Test.YtfliapankgdeeaaGreatEvB
namespace Go.Proofs.YtfliapankgdeeaaGreat.A
open Go.RowKit Go.Shelf Go.Lib Go.Sort Go.Proofs.YtfliapankgdeeaaGreatW.PrintWords Go.Proofs.YtfliapankgdeeaaGreatW.PrintLast Go.Proofs.YtfliapankgdeeaaGreatW.PrintMore Go.Proofs.YtfliapankgdeeaaGreat.G
set_option linter.unusedVariables false
set_option linter.unusedSimpArgs false

theorem below_trans {n : Nat} {w w1 w2 : World} (h : Below n w w1) (hn : n ≤ w1.heap.size) (k : Below w1.heap.size w1 w2) : Below n w w2 :=
  ⟨k.os.trans h.os, k.tape.trans h.tape, k.output.trans h.output, Nat.le_trans h.size k.size, fun q hq => (k.block q (by omega)).trans (h.block q hq)⟩
theorem Rw.rowK {w : World} {base g cap : Nat} {l : List It} (h : Rw encI w base 35 (.slice (some ⟨g, 0, none⟩) l.length cap) l) (hg : g < w.heap.size) : RowK encI 2 w g 0 l.toArray :=
  ⟨encI_two, fun x v hv => by simp [encI] at hv; rcases hv with rfl | rfl <;> rfl, h.holdsK encI_two, hg⟩

set_option maxHeartbeats 2000000 in
theorem Compact_small (A : Option Addr) (n c : Nat) (w : World) (hn : n < 2) :
    Calls Tryz.prog 37 #[.slice A n c, .func (.func 38) #[] #[]] w fun e w' => e = .returned (.slice A n c) ∧ w' = w := by
  have hz : (n : Int) < 2 := by omega
  go_enter Tryz.func37, Tryz.ntmps37
  go_wp2
  go_ret
  exact ⟨rfl, rfl⟩

/-- No neighbours of one id. -/
def Apart (l : List It) : Prop := ∀ i, i + 1 < l.length → l[i]!.f0 ≠ l[i + 1]!.f0
theorem Compact_calls {base : Nat} {w : World} {v : Value} {l : List It} (hR : Rw encI w base 35 v l) (hn : l.length < 1000) :
    Calls Tryz.prog 37 #[v, .func (.func 38) #[] #[]] w fun e w' => ∃ A n c, e = .returned (.slice A n c) ∧ n ≤ l.length ∧ (n = l.length ↔ Apart l) ∧ Eff w w' (fun k => v.ownBlock = some k) := by
  by_cases h0 : 2 ≤ l.length
  · obtain ⟨g, c, rfl, hc, hg, hgw, _⟩ := hR.at_ (by omega)
    have h := Compact_big g c l.toArray w (hR.rowK hgw) (by simpa using h0) (by simpa using hn) (by simpa using hc)
    rw [show l.toArray.size = l.length by simp] at h
    refine h.mono ?_
    rintro e w' ⟨n, rfl, h1, h2, h3⟩
    refine ⟨_, n, c, rfl, h1, h2.trans ?_, h3.mono (fun q hq => by simp [Value.ownBlock, hq])⟩
    exact ⟨fun h i hi => by simpa using h i hi, fun h i hi => by simpa using h i hi⟩
  · obtain ⟨A, c, rfl, _⟩ := hR.slice
    refine (Compact_small A l.length c w (by omega)).mono ?_
    rintro e w' ⟨rfl, rfl⟩
    exact ⟨A, _, c, rfl, Nat.le_refl _, ⟨fun _ i hi => by omega, fun _ => rfl⟩, Eff.refl _ _⟩

theorem apart_nodup {l : List It} (h : l.Pairwise fun a b => a.f0 ≤ b.f0) : Apart l ↔ (l.map (·.f0)).Nodup := by
  unfold Apart
  rw [List.pairwise_iff_getElem] at h
  constructor
  · intro ha
    rw [List.Nodup, List.pairwise_iff_getElem]
    intro i j hi hj hij
    simp only [List.length_map] at hi hj
    simp only [List.getElem_map]
    have h1 := ha i (by omega)
    rw [getElem!_pos l i (by omega), getElem!_pos l (i + 1) (by omega)] at h1
    have h2 := h i (i + 1) (by omega) (by omega) (by omega)
    by_cases q : i + 1 = j
    · subst q; exact h1
    · have h3 := h (i + 1) j (by omega) hj (by omega)
      omega
  · intro hn i hi
    rw [List.Nodup, List.pairwise_iff_getElem] at hn
    have := hn i (i + 1) (by simp; omega) (by simpa using hi) (by omega)
    simp only [List.getElem_map] at this
    rw [getElem!_pos l i (by omega), getElem!_pos l (i + 1) hi]
    exact this

/-- May it be planned? -/
def okPlan (h z : Int) (ls : List Int) (items : List It) : Bool :=
  (decide (0 ≤ h ∧ h ≤ 6) && decide (1 ≤ z) && decide (z ≤ 4) && decide ((items.map (·.f0)).Nodup)) && ls.all (B.okb h) && items.all fun x => B.okb h x.f1

set_option maxHeartbeats 8000000 in
set_option maxRecDepth 100000 in
theorem sorted_calls (h z : Int) (A2 : Option Addr) (c2 : Nat) (ls : List Int) (A3 : Option Addr) (c3 : Nat) (items : List It) (w : World) (hC2 : Kd.C (Kd.int .i64) w A2 ls.length ls) (hC3 : Kd.C k35 w A3 items.length items) (hl : ls.length < 1000) (hn : items.length < 1000) :
    Calls Tryz.prog 15 #[.int .i64 h, .int .i64 z, .slice A2 ls.length c2, .slice A3 items.length c3] w fun e w' => ∃ v its, e = .returned (.tuple #[v, .bool (okPlan h z ls items)]) ∧ its.Perm items ∧ its.Pairwise (fun a b : It => a.f0 ≤ b.f0) ∧ Rw encI w' w.heap.size 35 v its ∧ Below w.heap.size w w' := by
  have hcl1 := Clone_calls A3 c3 items w (cel_of_C hC3) hn
  have C2 := Aside0.mk hC2
  clear hC2 hC3
  go_enter Tryz.func15, Tryz.ntmps15
  go_wp2_with fail
  refine hcl1.mono ?_
  rintro e w1 ⟨v1, rfl, R1, B1⟩
  have hso := sortItem_calls R1 (by omega)
  obtain ⟨A1, c1, rfl, hc1⟩ := R1.slice
  have B1 := Aside0.mk B1
  have RR1 := Aside0.mk R1
  clear R1
  go_wp2_with fail
  refine hso.mono ?_
  rintro e w2 ⟨rfl, its, hp, hs, R2, E2⟩
  have hlen : its.length = items.length := hp.length_eq
  have B2 : Aside0 (Below w.heap.size w w2) := ⟨E2.below B1.out (fun k hk => own_base RR1.out k hk)⟩
  have hcl2 := Clone_calls A1 c1 its w2 (cel_of_Rw R2 rfl) (by omega)
  rw [hlen] at hcl2
  have HP := Aside0.mk hp
  have HS := Aside0.mk hs
  have R2 := Aside0.mk R2
  clear hp hs E2 hso RR1
  go_wp2_with fail
  refine hcl2.mono ?_
  rintro e w3 ⟨v3, rfl, R3, B3⟩
  have hco := Compact_calls R3 (by omega)
  have R3 := Aside0.mk R3
  have B3 := Aside0.mk B3
  clear hcl2
  go_wp2_with fail
  refine hco.mono ?_
  rintro e w4 ⟨A4, n4, c4, rfl, h4, hap, E4⟩
  have E24 : Eff w2 w4 (fun _ => False) := Eff.step (Eff.of_below B3.out) E4 (fun k hk => .inr (own_base R3.out k hk))
  have B4 : Aside0 (Below w.heap.size w w4) := ⟨E24.below B2.out (fun _ hk => hk.elim)⟩
  have R4 : Aside0 (Rw encI w4 w.heap.size 35 (.slice A1 items.length c1) its) := ⟨R2.out.eff E24 (fun _ _ => id)⟩
  have hnd : (n4 = items.length) ↔ (items.map (·.f0)).Nodup := by
    rw [← hlen, hap, apart_nodup HS.out]
    exact (HP.out.map _).nodup_iff
  have HL := Aside0.mk hlen
  clear hco R3 B3 E4 E24 hap B2 R2 B1 hlen
  have hmy := fun W => tree_May.calls h _ W (B.may_any h)
  obtain ⟨b1, hb1⟩ : ∃ b, b = decide (0 ≤ h ∧ h ≤ 6) := ⟨_, rfl⟩
  obtain ⟨b2, hb2⟩ : ∃ b, b = decide (1 ≤ z) := ⟨_, rfl⟩
  obtain ⟨b3, hb3⟩ : ∃ b, b = decide (z ≤ 4) := ⟨_, rfl⟩
  obtain ⟨b4, hb4⟩ : ∃ b, b = decide ((items.map (·.f0)).Nodup) := ⟨_, rfl⟩
  have z4 : ((n4 : Int) == (items.length : Int)) = b4 := by
    rw [hb4]
    by_cases q : n4 = items.length
    · rw [decide_eq_true (hnd.1 q), q]; simp
    · rw [decide_eq_false (fun e => q (hnd.2 e))]
      exact beq_eq_false_iff_ne.2 (by omega)
  rw [← hb1] at hmy
  obtain ⟨b0, hb0⟩ : ∃ b, b = (b1 && b2 && b3 && b4) := ⟨_, rfl⟩
  have HB0 : Aside0 (okPlan h z ls items = (b0 && ls.all (B.okb h) && items.all fun x => B.okb h x.f1)) := ⟨by unfold okPlan; rw [hb0, hb1, hb2, hb3, hb4]⟩
  clear hb1 hb4 hnd
  have z2 : decide (1 ≤ z) = b2 := hb2.symm
  have z3 : decide (z ≤ 4) = b3 := hb3.symm
  clear hb2 hb3
  go_wp2_with fail
  refine (hmy _).mono ?_
  rintro e w5 ⟨rfl, ⟨m5, rfl⟩⟩
  clear hmy
  have HZ : Aside0 (b0 = (b1 && b2 && b3 && b4)) := ⟨hb0⟩
  clear hb0
  have C5 := Kd.reads_of_C (d := (0 : Int)) C2.out
  have B5 : Aside0 (Below w.heap.size w (w4.drewN m5)) := ⟨pw_below_drewN B4.out m5⟩
  have R5 : Aside0 (Rw encI (w4.drewN m5) w.heap.size 35 (.slice A1 items.length c1) its) := ⟨R4.out⟩
  clear B4 R4 C2
  have CC : Aside0 _ := ⟨C5.2.2⟩
  clear C5
  cases b1
  · have E0 : Aside0 (b0 = false) := ⟨by rw [HZ.out]; rfl⟩
    clear HZ
    go_wp2
    generalize w4.drewN m5 = w6 at B5 R5 ⊢
    go_loopg [11, 42] ls.length (fun gg vo vi wr => ∃ (i : Nat), vo = .bool (b0 && (ls.take i).all (B.okb h)) ∧ vi = .int .i64 i ∧ i ≤ ls.length ∧ ls.length - i ≤ gg ∧ Aside0 (Below w.heap.size w wr) ∧ Aside0 (Rw encI wr w.heap.size 35 (.slice A1 items.length c1) its))
    case atStart => exact ⟨0, by rw [E0.out]; simp, by go_num, Nat.zero_le _, by omega, B5, R5⟩
    case round =>
      clear B5 R5 E0
      obtain ⟨i, rfl, rfl, hi, hg, B6, R6⟩ := hrel
      by_cases hlt : i < ls.length
      · have hltz : (i : Int) < (ls.length : Int) := by omega
        obtain ⟨ad, eA, hcell⟩ := CC.out (by omega)
        subst eA
        have c0 := hcell i hlt
        have hlv : ls.getD i 0 = ls[i] := by simp [List.getD, List.getElem?_eq_getElem hlt]
        rw [hlv] at c0
        replace c0 := (B6.out.cell (World.block_lt_of_cell? w _ c0)).trans c0
        have hstep : (b0 && (ls.take (i + 1)).all (B.okb h)) = ((b0 && (ls.take i).all (B.okb h)) && B.okb h ls[i]) := by
          rw [List.take_succ_eq_append_getElem hlt, List.all_append]
          simp [Bool.and_assoc]
        have hlf := fun W => evict_leaf.calls 20 h ls[i] _ W (B.leaf_any h ls[i] 20 (Nat.le_refl _))
        have ST := Aside0.mk hstep
        clear hstep hcell hlv
        generalize ls[i] = y at c0 hlf ST
        cases hcur : (b0 && (ls.take i).all (B.okb h)) with
        | false =>
          rw [hcur] at ST
          go_wp2
          go_roundg (ls.length - (i + 1))
          case measure => omega
          case rel => exact ⟨i + 1, by rw [ST.out]; rfl, by go_num, hlt, Nat.le_refl _, B6, R6⟩
        | true =>
          rw [hcur] at ST
          go_wp2_with fail
          refine (hlf _).mono ?_
          rintro e w7 ⟨rfl, hb7⟩
          have B7 : Aside0 (Below w.heap.size w w7) := ⟨below_trans B6.out B6.out.size hb7⟩
          have R7 : Aside0 (Rw encI w7 w.heap.size 35 (.slice A1 items.length c1) its) := ⟨R6.out.eff (Eff.of_below (S := fun _ => False) hb7) (fun _ _ => id)⟩
          clear hb7 c0
          go_wp2
          go_roundg (ls.length - (i + 1))
          case measure => omega
          case rel => exact ⟨i + 1, by rw [ST.out]; rfl, by go_num, hlt, Nat.le_refl _, B7, R7⟩
      · obtain rfl : i = ls.length := by omega
        have hltz : ¬ (ls.length : Int) < (ls.length : Int) := by omega
        rw [List.take_length]
        obtain ⟨b6, hb6⟩ : ∃ b, b = (b0 && ls.all (B.okb h)) := ⟨_, rfl⟩
        rw [← hb6]
        have H6 := Aside0.mk hb6
        clear hb6 CC
        go_wp2
        go_loopg [11, 55] items.length (fun gg vo vi wr2 => ∃ (i : Nat), vo = .bool (b6 && (its.take i).all (fun x => B.okb h x.f1)) ∧ vi = .int .i64 i ∧ i ≤ items.length ∧ items.length - i ≤ gg ∧ Aside0 (Below w.heap.size w wr2) ∧ Aside0 (Rw encI wr2 w.heap.size 35 (.slice A1 items.length c1) its))
        case atStart => exact ⟨0, by simp, by go_num, Nat.zero_le _, by omega, B6, R6⟩
        case round =>
          clear B6 R6
          obtain ⟨i, rfl, rfl, hi, hg, B6, R6⟩ := hrel
          by_cases hlt : i < items.length
          · have hltz : (i : Int) < (items.length : Int) := by omega
            have hli : i < its.length := by rw [HL.out]; exact hlt
            have R6' := R6.out
            obtain ⟨g, c', hv, _⟩ := R6'.at_ (by omega)
            rw [HL.out] at hv
            cases hv
            have hlen := HL.out
            rw [← hlen] at R6'
            have c0 : wr.cell? ⟨g, i * 2, none⟩ = some (.int .i64 its[i].f0) := (R6'.cell encI_two i hli 0 (by omega)).trans rfl
            have k1 : wr.cell? ⟨g, i * 2 + 1, none⟩ = some (.int .i64 its[i].f1) := (R6'.cell encI_two i hli 1 (by omega)).trans rfl
            have hstep : (b6 && (its.take (i + 1)).all (fun x => B.okb h x.f1)) = ((b6 && (its.take i).all (fun x => B.okb h x.f1)) && B.okb h its[i].f1) := by
              rw [List.take_succ_eq_append_getElem hli, List.all_append]
              simp [Bool.and_assoc]
            have hlf := fun W => evict_leaf.calls 20 h its[i].f1 _ W (B.leaf_any h its[i].f1 20 (Nat.le_refl _))
            have ST := Aside0.mk hstep
            clear hstep hlen R6'
            generalize its[i] = x at c0 k1 hlf ST
            cases hcur : (b6 && (its.take i).all (fun x => B.okb h x.f1)) with
            | false =>
              rw [hcur] at ST
              go_wp2_with ((with_reducible refine gate_dst (N := 15) rfl ?_); refine box_event ?hg (N := 15) ?hd (cs := #[.int .i64 0, .int .i64 0]) (t := 35) ?hr ?_; (case hd => rfl); (case hg => rfl); (case hr => first | (go_simp; done) | (go_simp; rfl)); intro gb hgb w7 hbox hb7; have z0 : w7.cell? ⟨gb, 0, none⟩ = some (.int .i64 0) := (blk_cell hbox 0).trans rfl; have z1 : w7.cell? ⟨gb, 1, none⟩ = some (.int .i64 0) := (blk_cell hbox 1).trans rfl; have y0 := blk_frozen hbox 0; have y1 := blk_frozen hbox 1; have BW : Aside0 (Below wr.heap.size wr ((w7.setCell ⟨gb, 0, none⟩ (.int .i64 x.f0)).setCell ⟨gb, 1, none⟩ (.int .i64 x.f1))) := ⟨(hb7.setCell (p := ⟨gb, 0, none⟩) (by show _ ≤ gb; rw [hgb]; exact Nat.le_refl _) _).setCell (p := ⟨gb, 1, none⟩) (by show _ ≤ gb; rw [hgb]; exact Nat.le_refl _) _⟩; clear hbox hb7 hgb)
              have B7 : Aside0 (Below w.heap.size w _) := ⟨below_trans B6.out B6.out.size BW.out⟩
              have R7 := Aside0.mk (R6.out.eff (Eff.of_below (S := fun _ => False) BW.out) (fun _ _ => id))
              go_roundg (items.length - (i + 1))
              case measure => omega
              case rel => exact ⟨i + 1, by rw [ST.out]; rfl, by go_num, hlt, Nat.le_refl _, B7, R7⟩
            | true =>
              rw [hcur] at ST
              go_wp2_with ((with_reducible refine gate_dst (N := 15) rfl ?_); refine box_event ?hg (N := 15) ?hd (cs := #[.int .i64 0, .int .i64 0]) (t := 35) ?hr ?_; (case hd => rfl); (case hg => rfl); (case hr => first | (go_simp; done) | (go_simp; rfl)); intro gb hgb w7 hbox hb7; have z0 : w7.cell? ⟨gb, 0, none⟩ = some (.int .i64 0) := (blk_cell hbox 0).trans rfl; have z1 : w7.cell? ⟨gb, 1, none⟩ = some (.int .i64 0) := (blk_cell hbox 1).trans rfl; have y0 := blk_frozen hbox 0; have y1 := blk_frozen hbox 1; have BW : Aside0 (Below wr.heap.size wr ((w7.setCell ⟨gb, 0, none⟩ (.int .i64 x.f0)).setCell ⟨gb, 1, none⟩ (.int .i64 x.f1))) := ⟨(hb7.setCell (p := ⟨gb, 0, none⟩) (by show _ ≤ gb; rw [hgb]; exact Nat.le_refl _) _).setCell (p := ⟨gb, 1, none⟩) (by show _ ≤ gb; rw [hgb]; exact Nat.le_refl _) _⟩; clear hbox hb7 hgb)
              refine (hlf _).mono ?_
              rintro e w8 ⟨rfl, hb8⟩
              have B7 : Aside0 (Below w.heap.size w w8) := ⟨below_trans (below_trans B6.out B6.out.size BW.out) (below_trans B6.out B6.out.size BW.out).size hb8⟩
              have R7 : Aside0 (Rw encI w8 w.heap.size 35 (.slice (some ⟨g, 0, none⟩) items.length c1) its) := ⟨R6.out.eff ((Eff.of_below (S := fun _ => False) BW.out).then_below hb8) (fun _ _ => id)⟩
              clear hb8 z0 z1 y0 y1 c0 k1
              go_wp2
              go_roundg (items.length - (i + 1))
              case measure => omega
              case rel => exact ⟨i + 1, by rw [ST.out]; rfl, by go_num, hlt, Nat.le_refl _, B7, R7⟩
          · obtain rfl : i = items.length := by omega
            have hltz : ¬ (items.length : Int) < (items.length : Int) := by omega
            have ht : its.take items.length = its := by rw [← HL.out]; exact List.take_length
            rw [ht]
            have hall : (its.all fun x => B.okb h x.f1) = (items.all fun x => B.okb h x.f1) := HP.out.all_eq
            rw [hall, H6.out, ← HB0.out]
            clear ht hall
            go_wp2
            go_ret2
            exact ⟨_, rfl, its, HP.out, HS.out, R6.out, B6.out⟩
  · cases b2
    · have E0 : Aside0 (b0 = false) := ⟨by rw [HZ.out]; rfl⟩
      clear HZ
      go_wp2
      generalize w4.drewN m5 = w6 at B5 R5 ⊢
      go_loopg [11, 42] ls.length (fun gg vo vi wr => ∃ (i : Nat), vo = .bool (b0 && (ls.take i).all (B.okb h)) ∧ vi = .int .i64 i ∧ i ≤ ls.length ∧ ls.length - i ≤ gg ∧ Aside0 (Below w.heap.size w wr) ∧ Aside0 (Rw encI wr w.heap.size 35 (.slice A1 items.length c1) its))
      case atStart => exact ⟨0, by rw [E0.out]; simp, by go_num, Nat.zero_le _, by omega, B5, R5⟩
      case round =>
        clear B5 R5 E0
        obtain ⟨i, rfl, rfl, hi, hg, B6, R6⟩ := hrel
        by_cases hlt : i < ls.length
        · have hltz : (i : Int) < (ls.length : Int) := by omega
          obtain ⟨ad, eA, hcell⟩ := CC.out (by omega)
          subst eA
          have c0 := hcell i hlt
          have hlv : ls.getD i 0 = ls[i] := by simp [List.getD, List.getElem?_eq_getElem hlt]
          rw [hlv] at c0
          replace c0 := (B6.out.cell (World.block_lt_of_cell? w _ c0)).trans c0
          have hstep : (b0 && (ls.take (i + 1)).all (B.okb h)) = ((b0 && (ls.take i).all (B.okb h)) && B.okb h ls[i]) := by
            rw [List.take_succ_eq_append_getElem hlt, List.all_append]
            simp [Bool.and_assoc]
          have hlf := fun W => evict_leaf.calls 20 h ls[i] _ W (B.leaf_any h ls[i] 20 (Nat.le_refl _))
          have ST := Aside0.mk hstep
          clear hstep hcell hlv
          generalize ls[i] = y at c0 hlf ST
          cases hcur : (b0 && (ls.take i).all (B.okb h)) with
          | false =>
            rw [hcur] at ST
            go_wp2
            go_roundg (ls.length - (i + 1))
            case measure => omega
            case rel => exact ⟨i + 1, by rw [ST.out]; rfl, by go_num, hlt, Nat.le_refl _, B6, R6⟩
          | true =>
            rw [hcur] at ST
            go_wp2_with fail
            refine (hlf _).mono ?_
            rintro e w7 ⟨rfl, hb7⟩
            have B7 : Aside0 (Below w.heap.size w w7) := ⟨below_trans B6.out B6.out.size hb7⟩
            have R7 : Aside0 (Rw encI w7 w.heap.size 35 (.slice A1 items.length c1) its) := ⟨R6.out.eff (Eff.of_below (S := fun _ => False) hb7) (fun _ _ => id)⟩
            clear hb7 c0
            go_wp2
            go_roundg (ls.length - (i + 1))
            case measure => omega
            case rel => exact ⟨i + 1, by rw [ST.out]; rfl, by go_num, hlt, Nat.le_refl _, B7, R7⟩
        · obtain rfl : i = ls.length := by omega
          have hltz : ¬ (ls.length : Int) < (ls.length : Int) := by omega
          rw [List.take_length]
          obtain ⟨b6, hb6⟩ : ∃ b, b = (b0 && ls.all (B.okb h)) := ⟨_, rfl⟩
          rw [← hb6]
          have H6 := Aside0.mk hb6
          clear hb6 CC
          go_wp2
          go_loopg [11, 55] items.length (fun gg vo vi wr2 => ∃ (i : Nat), vo = .bool (b6 && (its.take i).all (fun x => B.okb h x.f1)) ∧ vi = .int .i64 i ∧ i ≤ items.length ∧ items.length - i ≤ gg ∧ Aside0 (Below w.heap.size w wr2) ∧ Aside0 (Rw encI wr2 w.heap.size 35 (.slice A1 items.length c1) its))
          case atStart => exact ⟨0, by simp, by go_num, Nat.zero_le _, by omega, B6, R6⟩
          case round =>
            clear B6 R6
            obtain ⟨i, rfl, rfl, hi, hg, B6, R6⟩ := hrel
            by_cases hlt : i < items.length
            · have hltz : (i : Int) < (items.length : Int) := by omega
              have hli : i < its.length := by rw [HL.out]; exact hlt
              have R6' := R6.out
              obtain ⟨g, c', hv, _⟩ := R6'.at_ (by omega)
              rw [HL.out] at hv
              cases hv
              have hlen := HL.out
              rw [← hlen] at R6'
              have c0 : wr.cell? ⟨g, i * 2, none⟩ = some (.int .i64 its[i].f0) := (R6'.cell encI_two i hli 0 (by omega)).trans rfl
              have k1 : wr.cell? ⟨g, i * 2 + 1, none⟩ = some (.int .i64 its[i].f1) := (R6'.cell encI_two i hli 1 (by omega)).trans rfl
              have hstep : (b6 && (its.take (i + 1)).all (fun x => B.okb h x.f1)) = ((b6 && (its.take i).all (fun x => B.okb h x.f1)) && B.okb h its[i].f1) := by
                rw [List.take_succ_eq_append_getElem hli, List.all_append]
                simp [Bool.and_assoc]
              have hlf := fun W => evict_leaf.calls 20 h its[i].f1 _ W (B.leaf_any h its[i].f1 20 (Nat.le_refl _))
              have ST := Aside0.mk hstep
              clear hstep hlen R6'
              generalize its[i] = x at c0 k1 hlf ST
              cases hcur : (b6 && (its.take i).all (fun x => B.okb h x.f1)) with
              | false =>
                rw [hcur] at ST
                go_wp2_with ((with_reducible refine gate_dst (N := 15) rfl ?_); refine box_event ?hg (N := 15) ?hd (cs := #[.int .i64 0, .int .i64 0]) (t := 35) ?hr ?_; (case hd => rfl); (case hg => rfl); (case hr => first | (go_simp; done) | (go_simp; rfl)); intro gb hgb w7 hbox hb7; have z0 : w7.cell? ⟨gb, 0, none⟩ = some (.int .i64 0) := (blk_cell hbox 0).trans rfl; have z1 : w7.cell? ⟨gb, 1, none⟩ = some (.int .i64 0) := (blk_cell hbox 1).trans rfl; have y0 := blk_frozen hbox 0; have y1 := blk_frozen hbox 1; have BW : Aside0 (Below wr.heap.size wr ((w7.setCell ⟨gb, 0, none⟩ (.int .i64 x.f0)).setCell ⟨gb, 1, none⟩ (.int .i64 x.f1))) := ⟨(hb7.setCell (p := ⟨gb, 0, none⟩) (by show _ ≤ gb; rw [hgb]; exact Nat.le_refl _) _).setCell (p := ⟨gb, 1, none⟩) (by show _ ≤ gb; rw [hgb]; exact Nat.le_refl _) _⟩; clear hbox hb7 hgb)
                have B7 : Aside0 (Below w.heap.size w _) := ⟨below_trans B6.out B6.out.size BW.out⟩
                have R7 := Aside0.mk (R6.out.eff (Eff.of_below (S := fun _ => False) BW.out) (fun _ _ => id))
                go_roundg (items.length - (i + 1))
                case measure => omega
                case rel => exact ⟨i + 1, by rw [ST.out]; rfl, by go_num, hlt, Nat.le_refl _, B7, R7⟩
              | true =>
                rw [hcur] at ST
                go_wp2_with ((with_reducible refine gate_dst (N := 15) rfl ?_); refine box_event ?hg (N := 15) ?hd (cs := #[.int .i64 0, .int .i64 0]) (t := 35) ?hr ?_; (case hd => rfl); (case hg => rfl); (case hr => first | (go_simp; done) | (go_simp; rfl)); intro gb hgb w7 hbox hb7; have z0 : w7.cell? ⟨gb, 0, none⟩ = some (.int .i64 0) := (blk_cell hbox 0).trans rfl; have z1 : w7.cell? ⟨gb, 1, none⟩ = some (.int .i64 0) := (blk_cell hbox 1).trans rfl; have y0 := blk_frozen hbox 0; have y1 := blk_frozen hbox 1; have BW : Aside0 (Below wr.heap.size wr ((w7.setCell ⟨gb, 0, none⟩ (.int .i64 x.f0)).setCell ⟨gb, 1, none⟩ (.int .i64 x.f1))) := ⟨(hb7.setCell (p := ⟨gb, 0, none⟩) (by show _ ≤ gb; rw [hgb]; exact Nat.le_refl _) _).setCell (p := ⟨gb, 1, none⟩) (by show _ ≤ gb; rw [hgb]; exact Nat.le_refl _) _⟩; clear hbox hb7 hgb)
                refine (hlf _).mono ?_
                rintro e w8 ⟨rfl, hb8⟩
                have B7 : Aside0 (Below w.heap.size w w8) := ⟨below_trans (below_trans B6.out B6.out.size BW.out) (below_trans B6.out B6.out.size BW.out).size hb8⟩
                have R7 : Aside0 (Rw encI w8 w.heap.size 35 (.slice (some ⟨g, 0, none⟩) items.length c1) its) := ⟨R6.out.eff ((Eff.of_below (S := fun _ => False) BW.out).then_below hb8) (fun _ _ => id)⟩
                clear hb8 z0 z1 y0 y1 c0 k1
                go_wp2
                go_roundg (items.length - (i + 1))
                case measure => omega
                case rel => exact ⟨i + 1, by rw [ST.out]; rfl, by go_num, hlt, Nat.le_refl _, B7, R7⟩
            · obtain rfl : i = items.length := by omega
              have hltz : ¬ (items.length : Int) < (items.length : Int) := by omega
              have ht : its.take items.length = its := by rw [← HL.out]; exact List.take_length
              rw [ht]
              have hall : (its.all fun x => B.okb h x.f1) = (items.all fun x => B.okb h x.f1) := HP.out.all_eq
              rw [hall, H6.out, ← HB0.out]
              clear ht hall
              go_wp2
              go_ret2
              exact ⟨_, rfl, its, HP.out, HS.out, R6.out, B6.out⟩
    · cases b3
      · have E0 : Aside0 (b0 = false) := ⟨by rw [HZ.out]; rfl⟩
        clear HZ
        go_wp2
        generalize w4.drewN m5 = w6 at B5 R5 ⊢
        go_loopg [11, 42] ls.length (fun gg vo vi wr => ∃ (i : Nat), vo = .bool (b0 && (ls.take i).all (B.okb h)) ∧ vi = .int .i64 i ∧ i ≤ ls.length ∧ ls.length - i ≤ gg ∧ Aside0 (Below w.heap.size w wr) ∧ Aside0 (Rw encI wr w.heap.size 35 (.slice A1 items.length c1) its))
        case atStart => exact ⟨0, by rw [E0.out]; simp, by go_num, Nat.zero_le _, by omega, B5, R5⟩
        case round =>
          clear B5 R5 E0
          obtain ⟨i, rfl, rfl, hi, hg, B6, R6⟩ := hrel
          by_cases hlt : i < ls.length
          · have hltz : (i : Int) < (ls.length : Int) := by omega
            obtain ⟨ad, eA, hcell⟩ := CC.out (by omega)
            subst eA
            have c0 := hcell i hlt
            have hlv : ls.getD i 0 = ls[i] := by simp [List.getD, List.getElem?_eq_getElem hlt]
            rw [hlv] at c0
            replace c0 := (B6.out.cell (World.block_lt_of_cell? w _ c0)).trans c0
            have hstep : (b0 && (ls.take (i + 1)).all (B.okb h)) = ((b0 && (ls.take i).all (B.okb h)) && B.okb h ls[i]) := by
              rw [List.take_succ_eq_append_getElem hlt, List.all_append]
              simp [Bool.and_assoc]
            have hlf := fun W => evict_leaf.calls 20 h ls[i] _ W (B.leaf_any h ls[i] 20 (Nat.le_refl _))
            have ST := Aside0.mk hstep
            clear hstep hcell hlv
            generalize ls[i] = y at c0 hlf ST
            cases hcur : (b0 && (ls.take i).all (B.okb h)) with
            | false =>
              rw [hcur] at ST
              go_wp2
              go_roundg (ls.length - (i + 1))
              case measure => omega
              case rel => exact ⟨i + 1, by rw [ST.out]; rfl, by go_num, hlt, Nat.le_refl _, B6, R6⟩
            | true =>
              rw [hcur] at ST
              go_wp2_with fail
              refine (hlf _).mono ?_
              rintro e w7 ⟨rfl, hb7⟩
              have B7 : Aside0 (Below w.heap.size w w7) := ⟨below_trans B6.out B6.out.size hb7⟩
              have R7 : Aside0 (Rw encI w7 w.heap.size 35 (.slice A1 items.length c1) its) := ⟨R6.out.eff (Eff.of_below (S := fun _ => False) hb7) (fun _ _ => id)⟩
              clear hb7 c0
              go_wp2
              go_roundg (ls.length - (i + 1))
              case measure => omega
              case rel => exact ⟨i + 1, by rw [ST.out]; rfl, by go_num, hlt, Nat.le_refl _, B7, R7⟩
          · obtain rfl : i = ls.length := by omega
            have hltz : ¬ (ls.length : Int) < (ls.length : Int) := by omega
            rw [List.take_length]
            obtain ⟨b6, hb6⟩ : ∃ b, b = (b0 && ls.all (B.okb h)) := ⟨_, rfl⟩
            rw [← hb6]
            have H6 := Aside0.mk hb6
            clear hb6 CC
            go_wp2
            go_loopg [11, 55] items.length (fun gg vo vi wr2 => ∃ (i : Nat), vo = .bool (b6 && (its.take i).all (fun x => B.okb h x.f1)) ∧ vi = .int .i64 i ∧ i ≤ items.length ∧ items.length - i ≤ gg ∧ Aside0 (Below w.heap.size w wr2) ∧ Aside0 (Rw encI wr2 w.heap.size 35 (.slice A1 items.length c1) its))
            case atStart => exact ⟨0, by simp, by go_num, Nat.zero_le _, by omega, B6, R6⟩
            case round =>
              clear B6 R6
              obtain ⟨i, rfl, rfl, hi, hg, B6, R6⟩ := hrel
              by_cases hlt : i < items.length
              · have hltz : (i : Int) < (items.length : Int) := by omega
                have hli : i < its.length := by rw [HL.out]; exact hlt
                have R6' := R6.out
                obtain ⟨g, c', hv, _⟩ := R6'.at_ (by omega)
                rw [HL.out] at hv
                cases hv
                have hlen := HL.out
                rw [← hlen] at R6'
                have c0 : wr.cell? ⟨g, i * 2, none⟩ = some (.int .i64 its[i].f0) := (R6'.cell encI_two i hli 0 (by omega)).trans rfl
                have k1 : wr.cell? ⟨g, i * 2 + 1, none⟩ = some (.int .i64 its[i].f1) := (R6'.cell encI_two i hli 1 (by omega)).trans rfl
                have hstep : (b6 && (its.take (i + 1)).all (fun x => B.okb h x.f1)) = ((b6 && (its.take i).all (fun x => B.okb h x.f1)) && B.okb h its[i].f1) := by
                  rw [List.take_succ_eq_append_getElem hli, List.all_append]
                  simp [Bool.and_assoc]
                have hlf := fun W => evict_leaf.calls 20 h its[i].f1 _ W (B.leaf_any h its[i].f1 20 (Nat.le_refl _))
                have ST := Aside0.mk hstep
                clear hstep hlen R6'
                generalize its[i] = x at c0 k1 hlf ST
                cases hcur : (b6 && (its.take i).all (fun x => B.okb h x.f1)) with
                | false =>
                  rw [hcur] at ST
                  go_wp2_with ((with_reducible refine gate_dst (N := 15) rfl ?_); refine box_event ?hg (N := 15) ?hd (cs := #[.int .i64 0, .int .i64 0]) (t := 35) ?hr ?_; (case hd => rfl); (case hg => rfl); (case hr => first | (go_simp; done) | (go_simp; rfl)); intro gb hgb w7 hbox hb7; have z0 : w7.cell? ⟨gb, 0, none⟩ = some (.int .i64 0) := (blk_cell hbox 0).trans rfl; have z1 : w7.cell? ⟨gb, 1, none⟩ = some (.int .i64 0) := (blk_cell hbox 1).trans rfl; have y0 := blk_frozen hbox 0; have y1 := blk_frozen hbox 1; have BW : Aside0 (Below wr.heap.size wr ((w7.setCell ⟨gb, 0, none⟩ (.int .i64 x.f0)).setCell ⟨gb, 1, none⟩ (.int .i64 x.f1))) := ⟨(hb7.setCell (p := ⟨gb, 0, none⟩) (by show _ ≤ gb; rw [hgb]; exact Nat.le_refl _) _).setCell (p := ⟨gb, 1, none⟩) (by show _ ≤ gb; rw [hgb]; exact Nat.le_refl _) _⟩; clear hbox hb7 hgb)
                  have B7 : Aside0 (Below w.heap.size w _) := ⟨below_trans B6.out B6.out.size BW.out⟩
                  have R7 := Aside0.mk (R6.out.eff (Eff.of_below (S := fun _ => False) BW.out) (fun _ _ => id))
                  go_roundg (items.length - (i + 1))
                  case measure => omega
                  case rel => exact ⟨i + 1, by rw [ST.out]; rfl, by go_num, hlt, Nat.le_refl _, B7, R7⟩
                | true =>
                  rw [hcur] at ST
                  go_wp2_with ((with_reducible refine gate_dst (N := 15) rfl ?_); refine box_event ?hg (N := 15) ?hd (cs := #[.int .i64 0, .int .i64 0]) (t := 35) ?hr ?_; (case hd => rfl); (case hg => rfl); (case hr => first | (go_simp; done) | (go_simp; rfl)); intro gb hgb w7 hbox hb7; have z0 : w7.cell? ⟨gb, 0, none⟩ = some (.int .i64 0) := (blk_cell hbox 0).trans rfl; have z1 : w7.cell? ⟨gb, 1, none⟩ = some (.int .i64 0) := (blk_cell hbox 1).trans rfl; have y0 := blk_frozen hbox 0; have y1 := blk_frozen hbox 1; have BW : Aside0 (Below wr.heap.size wr ((w7.setCell ⟨gb, 0, none⟩ (.int .i64 x.f0)).setCell ⟨gb, 1, none⟩ (.int .i64 x.f1))) := ⟨(hb7.setCell (p := ⟨gb, 0, none⟩) (by show _ ≤ gb; rw [hgb]; exact Nat.le_refl _) _).setCell (p := ⟨gb, 1, none⟩) (by show _ ≤ gb; rw [hgb]; exact Nat.le_refl _) _⟩; clear hbox hb7 hgb)
                  refine (hlf _).mono ?_
                  rintro e w8 ⟨rfl, hb8⟩
                  have B7 : Aside0 (Below w.heap.size w w8) := ⟨below_trans (below_trans B6.out B6.out.size BW.out) (below_trans B6.out B6.out.size BW.out).size hb8⟩
                  have R7 : Aside0 (Rw encI w8 w.heap.size 35 (.slice (some ⟨g, 0, none⟩) items.length c1) its) := ⟨R6.out.eff ((Eff.of_below (S := fun _ => False) BW.out).then_below hb8) (fun _ _ => id)⟩
                  clear hb8 z0 z1 y0 y1 c0 k1
                  go_wp2
                  go_roundg (items.length - (i + 1))
                  case measure => omega
                  case rel => exact ⟨i + 1, by rw [ST.out]; rfl, by go_num, hlt, Nat.le_refl _, B7, R7⟩
              · obtain rfl : i = items.length := by omega
                have hltz : ¬ (items.length : Int) < (items.length : Int) := by omega
                have ht : its.take items.length = its := by rw [← HL.out]; exact List.take_length
                rw [ht]
                have hall : (its.all fun x => B.okb h x.f1) = (items.all fun x => B.okb h x.f1) := HP.out.all_eq
                rw [hall, H6.out, ← HB0.out]
                clear ht hall
                go_wp2
                go_ret2
                exact ⟨_, rfl, its, HP.out, HS.out, R6.out, B6.out⟩
      · have E0 : Aside0 (b0 = b4) := ⟨by rw [HZ.out]; simp⟩
        clear HZ
        go_wp2
        generalize w4.drewN m5 = w6 at B5 R5 ⊢
        go_loopg [11, 42] ls.length (fun gg vo vi wr => ∃ (i : Nat), vo = .bool (b0 && (ls.take i).all (B.okb h)) ∧ vi = .int .i64 i ∧ i ≤ ls.length ∧ ls.length - i ≤ gg ∧ Aside0 (Below w.heap.size w wr) ∧ Aside0 (Rw encI wr w.heap.size 35 (.slice A1 items.length c1) its))
        case atStart => exact ⟨0, by rw [E0.out]; simp, by go_num, Nat.zero_le _, by omega, B5, R5⟩
        case round =>
          clear B5 R5 E0
          obtain ⟨i, rfl, rfl, hi, hg, B6, R6⟩ := hrel
          by_cases hlt : i < ls.length
          · have hltz : (i : Int) < (ls.length : Int) := by omega
            obtain ⟨ad, eA, hcell⟩ := CC.out (by omega)
            subst eA
            have c0 := hcell i hlt
            have hlv : ls.getD i 0 = ls[i] := by simp [List.getD, List.getElem?_eq_getElem hlt]
            rw [hlv] at c0
            replace c0 := (B6.out.cell (World.block_lt_of_cell? w _ c0)).trans c0
            have hstep : (b0 && (ls.take (i + 1)).all (B.okb h)) = ((b0 && (ls.take i).all (B.okb h)) && B.okb h ls[i]) := by
              rw [List.take_succ_eq_append_getElem hlt, List.all_append]
              simp [Bool.and_assoc]
            have hlf := fun W => evict_leaf.calls 20 h ls[i] _ W (B.leaf_any h ls[i] 20 (Nat.le_refl _))
            have ST := Aside0.mk hstep
            clear hstep hcell hlv
            generalize ls[i] = y at c0 hlf ST
            cases hcur : (b0 && (ls.take i).all (B.okb h)) with
            | false =>
              rw [hcur] at ST
              go_wp2
              go_roundg (ls.length - (i + 1))
              case measure => omega
              case rel => exact ⟨i + 1, by rw [ST.out]; rfl, by go_num, hlt, Nat.le_refl _, B6, R6⟩
            | true =>
              rw [hcur] at ST
              go_wp2_with fail
              refine (hlf _).mono ?_
              rintro e w7 ⟨rfl, hb7⟩
              have B7 : Aside0 (Below w.heap.size w w7) := ⟨below_trans B6.out B6.out.size hb7⟩
              have R7 : Aside0 (Rw encI w7 w.heap.size 35 (.slice A1 items.length c1) its) := ⟨R6.out.eff (Eff.of_below (S := fun _ => False) hb7) (fun _ _ => id)⟩
              clear hb7 c0
              go_wp2
              go_roundg (ls.length - (i + 1))
              case measure => omega
              case rel => exact ⟨i + 1, by rw [ST.out]; rfl, by go_num, hlt, Nat.le_refl _, B7, R7⟩
          · obtain rfl : i = ls.length := by omega
            have hltz : ¬ (ls.length : Int) < (ls.length : Int) := by omega
            rw [List.take_length]
            obtain ⟨b6, hb6⟩ : ∃ b, b = (b0 && ls.all (B.okb h)) := ⟨_, rfl⟩
            rw [← hb6]
            have H6 := Aside0.mk hb6
            clear hb6 CC
            go_wp2
            go_loopg [11, 55] items.length (fun gg vo vi wr2 => ∃ (i : Nat), vo = .bool (b6 && (its.take i).all (fun x => B.okb h x.f1)) ∧ vi = .int .i64 i ∧ i ≤ items.length ∧ items.length - i ≤ gg ∧ Aside0 (Below w.heap.size w wr2) ∧ Aside0 (Rw encI wr2 w.heap.size 35 (.slice A1 items.length c1) its))
            case atStart => exact ⟨0, by simp, by go_num, Nat.zero_le _, by omega, B6, R6⟩
            case round =>
              clear B6 R6
              obtain ⟨i, rfl, rfl, hi, hg, B6, R6⟩ := hrel
              by_cases hlt : i < items.length
              · have hltz : (i : Int) < (items.length : Int) := by omega
                have hli : i < its.length := by rw [HL.out]; exact hlt
                have R6' := R6.out
                obtain ⟨g, c', hv, _⟩ := R6'.at_ (by omega)
                rw [HL.out] at hv
                cases hv
                have hlen := HL.out
                rw [← hlen] at R6'
                have c0 : wr.cell? ⟨g, i * 2, none⟩ = some (.int .i64 its[i].f0) := (R6'.cell encI_two i hli 0 (by omega)).trans rfl
                have k1 : wr.cell? ⟨g, i * 2 + 1, none⟩ = some (.int .i64 its[i].f1) := (R6'.cell encI_two i hli 1 (by omega)).trans rfl
                have hstep : (b6 && (its.take (i + 1)).all (fun x => B.okb h x.f1)) = ((b6 && (its.take i).all (fun x => B.okb h x.f1)) && B.okb h its[i].f1) := by
                  rw [List.take_succ_eq_append_getElem hli, List.all_append]
                  simp [Bool.and_assoc]
                have hlf := fun W => evict_leaf.calls 20 h its[i].f1 _ W (B.leaf_any h its[i].f1 20 (Nat.le_refl _))
                have ST := Aside0.mk hstep
                clear hstep hlen R6'
                generalize its[i] = x at c0 k1 hlf ST
                cases hcur : (b6 && (its.take i).all (fun x => B.okb h x.f1)) with
                | false =>
                  rw [hcur] at ST
                  go_wp2_with ((with_reducible refine gate_dst (N := 15) rfl ?_); refine box_event ?hg (N := 15) ?hd (cs := #[.int .i64 0, .int .i64 0]) (t := 35) ?hr ?_; (case hd => rfl); (case hg => rfl); (case hr => first | (go_simp; done) | (go_simp; rfl)); intro gb hgb w7 hbox hb7; have z0 : w7.cell? ⟨gb, 0, none⟩ = some (.int .i64 0) := (blk_cell hbox 0).trans rfl; have z1 : w7.cell? ⟨gb, 1, none⟩ = some (.int .i64 0) := (blk_cell hbox 1).trans rfl; have y0 := blk_frozen hbox 0; have y1 := blk_frozen hbox 1; have BW : Aside0 (Below wr.heap.size wr ((w7.setCell ⟨gb, 0, none⟩ (.int .i64 x.f0)).setCell ⟨gb, 1, none⟩ (.int .i64 x.f1))) := ⟨(hb7.setCell (p := ⟨gb, 0, none⟩) (by show _ ≤ gb; rw [hgb]; exact Nat.le_refl _) _).setCell (p := ⟨gb, 1, none⟩) (by show _ ≤ gb; rw [hgb]; exact Nat.le_refl _) _⟩; clear hbox hb7 hgb)
                  have B7 : Aside0 (Below w.heap.size w _) := ⟨below_trans B6.out B6.out.size BW.out⟩
                  have R7 := Aside0.mk (R6.out.eff (Eff.of_below (S := fun _ => False) BW.out) (fun _ _ => id))
                  go_roundg (items.length - (i + 1))
                  case measure => omega
                  case rel => exact ⟨i + 1, by rw [ST.out]; rfl, by go_num, hlt, Nat.le_refl _, B7, R7⟩
                | true =>
                  rw [hcur] at ST
                  go_wp2_with ((with_reducible refine gate_dst (N := 15) rfl ?_); refine box_event ?hg (N := 15) ?hd (cs := #[.int .i64 0, .int .i64 0]) (t := 35) ?hr ?_; (case hd => rfl); (case hg => rfl); (case hr => first | (go_simp; done) | (go_simp; rfl)); intro gb hgb w7 hbox hb7; have z0 : w7.cell? ⟨gb, 0, none⟩ = some (.int .i64 0) := (blk_cell hbox 0).trans rfl; have z1 : w7.cell? ⟨gb, 1, none⟩ = some (.int .i64 0) := (blk_cell hbox 1).trans rfl; have y0 := blk_frozen hbox 0; have y1 := blk_frozen hbox 1; have BW : Aside0 (Below wr.heap.size wr ((w7.setCell ⟨gb, 0, none⟩ (.int .i64 x.f0)).setCell ⟨gb, 1, none⟩ (.int .i64 x.f1))) := ⟨(hb7.setCell (p := ⟨gb, 0, none⟩) (by show _ ≤ gb; rw [hgb]; exact Nat.le_refl _) _).setCell (p := ⟨gb, 1, none⟩) (by show _ ≤ gb; rw [hgb]; exact Nat.le_refl _) _⟩; clear hbox hb7 hgb)
                  refine (hlf _).mono ?_
                  rintro e w8 ⟨rfl, hb8⟩
                  have B7 : Aside0 (Below w.heap.size w w8) := ⟨below_trans (below_trans B6.out B6.out.size BW.out) (below_trans B6.out B6.out.size BW.out).size hb8⟩
                  have R7 : Aside0 (Rw encI w8 w.heap.size 35 (.slice (some ⟨g, 0, none⟩) items.length c1) its) := ⟨R6.out.eff ((Eff.of_below (S := fun _ => False) BW.out).then_below hb8) (fun _ _ => id)⟩
                  clear hb8 z0 z1 y0 y1 c0 k1
                  go_wp2
                  go_roundg (items.length - (i + 1))
                  case measure => omega
                  case rel => exact ⟨i + 1, by rw [ST.out]; rfl, by go_num, hlt, Nat.le_refl _, B7, R7⟩
              · obtain rfl : i = items.length := by omega
                have hltz : ¬ (items.length : Int) < (items.length : Int) := by omega
                have ht : its.take items.length = its := by rw [← HL.out]; exact List.take_length
                rw [ht]
                have hall : (its.all fun x => B.okb h x.f1) = (items.all fun x => B.okb h x.f1) := HP.out.all_eq
                rw [hall, H6.out, ← HB0.out]
                clear ht hall
                go_wp2
                go_ret2
                exact ⟨_, rfl, its, HP.out, HS.out, R6.out, B6.out⟩
end Go.Proofs.YtfliapankgdeeaaGreat.A
