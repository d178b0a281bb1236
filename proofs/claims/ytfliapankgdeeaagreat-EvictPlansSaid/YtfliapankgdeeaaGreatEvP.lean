/- evict.Plan$2: the closure that fills a bucket: what it does to its captured variable. -/
import Derived.Test.YtfliapankgdeeaaGreatEvW
namespace Go.Proofs.YtfliapankgdeeaaGreat.A
open Go.RowKit Go.Shelf Go.Lib Go.Sort Go.Proofs.YtfliapankgdeeaaGreatW.PrintWords Go.Proofs.YtfliapankgdeeaaGreatW.PrintLast Go.Proofs.YtfliapankgdeeaaGreatW.PrintMore Go.Proofs.YtfliapankgdeeaaGreat.G
set_option linter.unusedVariables false
set_option linter.unusedSimpArgs false

/-- What a call does to the world: it writes blocks of S and new ones alone. -/
structure Eff (w w' : World) (S : Nat → Prop) : Prop where
  os : w'.os = w.os
  tape : w'.tape = w.tape
  output : w'.output = w.output
  kept : Kept w w' S
theorem Eff.refl (w : World) (S : Nat → Prop) : Eff w w S := ⟨rfl, rfl, rfl, Kept.refl w S⟩
theorem Eff.of_below {w w' : World} {S : Nat → Prop} (h : Below w.heap.size w w') : Eff w w' S := ⟨h.os, h.tape, h.output, Kept.of_below h S⟩
theorem Eff.trans {w w1 w2 : World} {S : Nat → Prop} (h : Eff w w1 S) (k : Eff w1 w2 S) : Eff w w2 S := ⟨k.os.trans h.os, k.tape.trans h.tape, k.output.trans h.output, h.kept.then_ k.kept (fun _ hk => .inl hk)⟩
theorem Eff.step {w w1 w2 : World} {S S2 : Nat → Prop} (h : Eff w w1 S) (k : Eff w1 w2 S2) (hs : ∀ k, S2 k → S k ∨ w.heap.size ≤ k) : Eff w w2 S := ⟨k.os.trans h.os, k.tape.trans h.tape, k.output.trans h.output, h.kept.then_ k.kept hs⟩
theorem Eff.mono {w w1 : World} {S S' : Nat → Prop} (h : Eff w w1 S) (hs : ∀ k, S k → S' k) : Eff w w1 S' := ⟨h.os, h.tape, h.output, h.kept.mono hs⟩
theorem Eff.then_below {w w1 w2 : World} {S : Nat → Prop} (h : Eff w w1 S) (k : Below w1.heap.size w1 w2) : Eff w w2 S := h.trans (Eff.of_below k)
theorem Eff.setCell {w w1 : World} {S : Nat → Prop} (h : Eff w w1 S) {p : Addr} (hp : S p.block ∨ w.heap.size ≤ p.block) (u : Value) : Eff w (w1.setCell p u) S := ⟨h.os, h.tape, h.output, h.kept.setCell hp u⟩
theorem Eff.below {w0 w w1 : World} {S : Nat → Prop} (h : Eff w w1 S) (hb : Below w0.heap.size w0 w) (hS : ∀ k, S k → w0.heap.size ≤ k) : Below w0.heap.size w0 w1 :=
  ⟨h.os.trans hb.os, h.tape.trans hb.tape, h.output.trans hb.output, Nat.le_trans hb.size h.kept.1, fun k hk => (h.kept.2 k (by have := hb.size; omega) (fun hs => by have := hS k hs; omega)).trans (hb.block k hk)⟩
theorem Eff.blk {w w1 : World} {S : Nat → Prop} (h : Eff w w1 S) {g : Nat} {o : Obj} (hb : w.heap[g]? = some o) (hn : ¬ S g) : w1.heap[g]? = some o := blk_kept hb h.kept hn
theorem Eff.cell {w w1 : World} {S : Nat → Prop} (h : Eff w w1 S) {a : Addr} {v : Value} (hb : w.cell? a = some v) (hn : ¬ S a.block) : w1.cell? a = some v := cell_kept hb h.kept hn
theorem Eff.size {w w1 : World} {S : Nat → Prop} (h : Eff w w1 S) : w.heap.size ≤ w1.heap.size := h.kept.1
theorem Eff.grown {w w1 : World} {row : Option Nat} {S : Nat → Prop} (h : w.grownBy w1 row) (hS : ∀ k, row = some k → S k ∨ w.heap.size ≤ k) : Eff w w1 S := ⟨h.os, h.tape, h.output, Kept.of_grown h (Kept.refl w S) hS⟩

/-- The variable f in the block fb: its bucket, its ids in blocks behind. -/
def FS (fb : Nat) (b : Int) (w : World) (base : Nat) (ids : List Int) : Prop :=
  ∃ v, w.heap[fb]? = some (.cells #[.int .i64 b, v] 42 (0, 0)) ∧ Kd.R (Kd.int .i64) 3 w base (fun k => fb < k) v ids

theorem FS.kept {fb : Nat} {b : Int} {w w1 : World} {base : Nat} {ids : List Int} {S : Nat → Prop} (h : FS fb b w base ids) (k : Eff w w1 S) (hS : ∀ k, fb ≤ k → k < w.heap.size → ¬ S k) : FS fb b w1 base ids := by
  obtain ⟨v, h1, h2⟩ := h
  have hlt : fb < w.heap.size := (Array.getElem?_eq_some_iff.1 h1).1
  refine ⟨v, k.blk h1 (hS fb (Nat.le_refl _) hlt), ?_⟩
  exact Kd.R_step h2 (fun q hq hl => k.kept.2 q hl (hS q (Nat.le_of_lt hq) hl))

theorem FS.below {fb : Nat} {b : Int} {w w1 : World} {base : Nat} {ids : List Int} (h : FS fb b w base ids) (k : Below w.heap.size w w1) : FS fb b w1 base ids :=
  h.kept (Eff.of_below (S := fun _ => False) k) (fun _ _ _ => id)

/-- .. and none of them is gb. -/
def FSx (gb fb : Nat) (b : Int) (w : World) (base : Nat) (ids : List Int) : Prop :=
  ∃ v, w.heap[fb]? = some (.cells #[.int .i64 b, v] 42 (0, 0)) ∧ Kd.R (Kd.int .i64) 3 w base (fun k => fb < k ∧ k ≠ gb) v ids
theorem FSx.fs {gb fb : Nat} {b : Int} {w : World} {base : Nat} {ids : List Int} (h : FSx gb fb b w base ids) : FS fb b w base ids := by
  obtain ⟨v, h1, h2⟩ := h
  exact ⟨v, h1, Kd.R_mono h2 (fun q hq => hq.1)⟩
theorem FS.x {gb fb : Nat} {b : Int} {w w1 : World} {base : Nat} {ids : List Int} (h : FS fb b w base ids) (hb : Below w.heap.size w w1) (hg : w.heap.size ≤ gb) : FSx gb fb b w1 base ids := by
  obtain ⟨v, h1, h2⟩ := h
  exact ⟨v, (hb.block fb (Array.getElem?_eq_some_iff.1 h1).1).trans h1, Kd.R_below (Kd.R_mono (Kd.R_bound h2) (fun q hq => ⟨hq.1, by have := hq.2.2.1; omega⟩)) hb⟩
theorem FS.self {fb : Nat} {b : Int} {w : World} {base : Nat} {ids : List Int} (h : FS fb b w base ids) : FSx fb fb b w base ids := by
  obtain ⟨v, h1, h2⟩ := h
  exact ⟨v, h1, Kd.R_mono h2 (fun q hq => ⟨hq, by omega⟩)⟩
theorem FSx.below {gb fb : Nat} {b : Int} {w w1 : World} {base : Nat} {ids : List Int} (h : FSx gb fb b w base ids) (k : Below w.heap.size w w1) : FSx gb fb b w1 base ids := by
  obtain ⟨v, h1, h2⟩ := h
  exact ⟨v, (k.block fb (Array.getElem?_eq_some_iff.1 h1).1).trans h1, Kd.R_below h2 k⟩

set_option maxHeartbeats 4000000 in
set_option maxRecDepth 100000 in
theorem Plan2_calls (gb fb zb hb bb : Nat) (b z h x0 x1 : Int) (w : World) (base : Nat) (ids : List Int) (on : Bool) (k : Nat) (st : FSx gb fb b w base ids) (hgb : gb < w.heap.size) (hbase : base ≤ w.heap.size) (hl : ids.length < 1000)
    (cz : w.cell? ⟨zb, 0, none⟩ = some (.int .i64 z)) (ch : w.cell? ⟨hb, 0, none⟩ = some (.int .i64 h)) (cb : w.cell? ⟨bb, 0, none⟩ = some (.int .i64 b)) (hon : tree_On.f k h b x1 = some on) :
    Calls Tryz.prog 22 #[.agg #[.int .i64 x0, .int .i64 x1], .pointer (some ⟨fb, 0, none⟩), .pointer (some ⟨zb, 0, none⟩), .pointer (some ⟨hb, 0, none⟩), .pointer (some ⟨bb, 0, none⟩)] w fun e w' =>
      e = .returned (.bool (decide ((ids.length : Int) < z) && on)) ∧ FSx gb fb b w' base (if (decide ((ids.length : Int) < z) && on) = true then ids ++ [x0] else ids) ∧ Eff w w' (fun k => fb ≤ k ∧ (k = fb ∨ k ≠ gb)) := by
  obtain ⟨v, h1, h2⟩ := st
  obtain ⟨A, c, rfl⟩ := Kd.R_slice h2
  have hfb : fb < w.heap.size := (Array.getElem?_eq_some_iff.1 h1).1
  have ST : Aside (FSx gb fb b w base ids) := ⟨_, h1, h2⟩
  have H1 : Aside (w.heap[fb]? = some (.cells #[.int .i64 b, .slice A ids.length c] 42 (0, 0))) := h1
  have H2 : Aside (Kd.R (Kd.int .i64) 3 w base (fun k => fb < k ∧ k ≠ gb) (.slice A ids.length c) ids) := h2
  have CZ : Aside (w.cell? ⟨zb, 0, none⟩ = some (.int .i64 z)) := cz
  have CH : Aside (w.cell? ⟨hb, 0, none⟩ = some (.int .i64 h)) := ch
  have CB : Aside (w.cell? ⟨bb, 0, none⟩ = some (.int .i64 b)) := cb
  have ON := hon
  clear h1 h2 cz ch cb hon
  by_cases hz : z ≤ (ids.length : Int)
  · have hd1 : decide (z ≤ (ids.length : Int)) = true := decide_eq_true hz
    have hd2 : decide ((ids.length : Int) < z) = false := decide_eq_false (by omega)
    rw [hd2]
    clear hd2
    go_enter Tryz.func22, Tryz.ntmps22
    go_wp2_with ((with_reducible refine gate_dst (N := 5) rfl ?_); refine box_event ?hg (N := 5) ?hd (cs := #[.int .i64 x0, .int .i64 x1]) (t := 35) ?hr ?_; (case hd => rfl); (case hg => rfl); (case hr => first | (go_simp; done) | (go_simp; rfl)); intro pb hpb w1 hbox hb1; have HBX := Aside0.mk hbox; have HB1 := Aside0.mk hb1; have HPB := Aside0.mk hpb; clear hbox hb1 hpb; have q1 : w1.heap[fb]? = some (.cells #[.int .i64 b, .slice A ids.length c] 42 (0, 0)) := (HB1.out.block fb hfb).trans H1.out; have q1c0 : w1.cell? ⟨fb, 0, none⟩ = some (.int .i64 b) := (blk_cell q1 0).trans rfl; have q1c1 : w1.cell? ⟨fb, 1, none⟩ = some (.slice A ids.length c) := (blk_cell q1 1).trans rfl; have q1z : w1.cell? ⟨zb, 0, none⟩ = some (.int .i64 z) := (HB1.out.cell (World.block_lt_of_cell? w _ CZ.out)).trans CZ.out; have Q1 := Aside0.mk q1; clear q1; have q1h : w1.cell? ⟨hb, 0, none⟩ = some (.int .i64 h) := (HB1.out.cell (World.block_lt_of_cell? w _ CH.out)).trans CH.out; have q1b : w1.cell? ⟨bb, 0, none⟩ = some (.int .i64 b) := (HB1.out.cell (World.block_lt_of_cell? w _ CB.out)).trans CB.out; have q1x0 : w1.cell? ⟨pb, 0, none⟩ = some (.int .i64 x0) := (blk_cell HBX.out 0).trans rfl; have q1x1 : w1.cell? ⟨pb, 1, none⟩ = some (.int .i64 x1) := (blk_cell HBX.out 1).trans rfl)
    go_ret
    exact ⟨rfl, by simpa using ST.out.below HB1.out, Eff.of_below HB1.out⟩
  · have hd1 : decide (z ≤ (ids.length : Int)) = false := decide_eq_false hz
    have hd2 : decide ((ids.length : Int) < z) = true := decide_eq_true (by omega)
    rw [hd2, Bool.true_and]
    clear hd2
    have hc := fun W => tree_On.calls k h b x1 on W ON
    cases on with
    | false =>
      go_enter Tryz.func22, Tryz.ntmps22
      go_wp2_with ((with_reducible refine gate_dst (N := 5) rfl ?_); refine box_event ?hg (N := 5) ?hd (cs := #[.int .i64 x0, .int .i64 x1]) (t := 35) ?hr ?_; (case hd => rfl); (case hg => rfl); (case hr => first | (go_simp; done) | (go_simp; rfl)); intro pb hpb w1 hbox hb1; have HBX := Aside0.mk hbox; have HB1 := Aside0.mk hb1; have HPB := Aside0.mk hpb; clear hbox hb1 hpb; have q1 : w1.heap[fb]? = some (.cells #[.int .i64 b, .slice A ids.length c] 42 (0, 0)) := (HB1.out.block fb hfb).trans H1.out; have q1c0 : w1.cell? ⟨fb, 0, none⟩ = some (.int .i64 b) := (blk_cell q1 0).trans rfl; have q1c1 : w1.cell? ⟨fb, 1, none⟩ = some (.slice A ids.length c) := (blk_cell q1 1).trans rfl; have q1z : w1.cell? ⟨zb, 0, none⟩ = some (.int .i64 z) := (HB1.out.cell (World.block_lt_of_cell? w _ CZ.out)).trans CZ.out; have Q1 := Aside0.mk q1; clear q1; have q1h : w1.cell? ⟨hb, 0, none⟩ = some (.int .i64 h) := (HB1.out.cell (World.block_lt_of_cell? w _ CH.out)).trans CH.out; have q1b : w1.cell? ⟨bb, 0, none⟩ = some (.int .i64 b) := (HB1.out.cell (World.block_lt_of_cell? w _ CB.out)).trans CB.out; have q1x0 : w1.cell? ⟨pb, 0, none⟩ = some (.int .i64 x0) := (blk_cell HBX.out 0).trans rfl; have q1x1 : w1.cell? ⟨pb, 1, none⟩ = some (.int .i64 x1) := (blk_cell HBX.out 1).trans rfl)
      refine (hc _).mono ?_
      rintro e w2 ⟨rfl, hb2⟩
      have HB2 := Aside0.mk hb2
      clear hb2
      go_wp2
      go_ret
      exact ⟨rfl, by simpa using (ST.out.below HB1.out).below HB2.out, (Eff.of_below HB1.out).then_below HB2.out⟩
    | true =>
      go_enter Tryz.func22, Tryz.ntmps22
      go_wp2_with ((with_reducible refine gate_dst (N := 5) rfl ?_); refine box_event ?hg (N := 5) ?hd (cs := #[.int .i64 x0, .int .i64 x1]) (t := 35) ?hr ?_; (case hd => rfl); (case hg => rfl); (case hr => first | (go_simp; done) | (go_simp; rfl)); intro pb hpb w1 hbox hb1; have HBX := Aside0.mk hbox; have HB1 := Aside0.mk hb1; have HPB := Aside0.mk hpb; clear hbox hb1 hpb; have q1 : w1.heap[fb]? = some (.cells #[.int .i64 b, .slice A ids.length c] 42 (0, 0)) := (HB1.out.block fb hfb).trans H1.out; have q1c0 : w1.cell? ⟨fb, 0, none⟩ = some (.int .i64 b) := (blk_cell q1 0).trans rfl; have q1c1 : w1.cell? ⟨fb, 1, none⟩ = some (.slice A ids.length c) := (blk_cell q1 1).trans rfl; have q1z : w1.cell? ⟨zb, 0, none⟩ = some (.int .i64 z) := (HB1.out.cell (World.block_lt_of_cell? w _ CZ.out)).trans CZ.out; have Q1 := Aside0.mk q1; clear q1; have q1h : w1.cell? ⟨hb, 0, none⟩ = some (.int .i64 h) := (HB1.out.cell (World.block_lt_of_cell? w _ CH.out)).trans CH.out; have q1b : w1.cell? ⟨bb, 0, none⟩ = some (.int .i64 b) := (HB1.out.cell (World.block_lt_of_cell? w _ CB.out)).trans CB.out; have q1x0 : w1.cell? ⟨pb, 0, none⟩ = some (.int .i64 x0) := (blk_cell HBX.out 0).trans rfl; have q1x1 : w1.cell? ⟨pb, 1, none⟩ = some (.int .i64 x1) := (blk_cell HBX.out 1).trans rfl)
      refine (hc _).mono ?_
      rintro e w2 ⟨rfl, hb2⟩
      have HB2 := Aside0.mk hb2
      have q2 : w2.heap[fb]? = some (.cells #[.int .i64 b, .slice A ids.length c] 42 (0, 0)) := (hb2.block fb (Array.getElem?_eq_some_iff.1 Q1.out).1).trans Q1.out
      have q2x : w2.heap[pb]? = some (.cells #[.int .i64 x0, .int .i64 x1] 35 (0, 0)) := (hb2.block pb (Array.getElem?_eq_some_iff.1 HBX.out).1).trans HBX.out
      have q2c1 : w2.cell? ⟨fb, 1, none⟩ = some (.slice A ids.length c) := (blk_cell q2 1).trans rfl
      have q2x0 : w2.cell? ⟨pb, 0, none⟩ = some (.int .i64 x0) := (blk_cell q2x 0).trans rfl
      have HO2 := Aside0.mk (Kd.R_below (Kd.R_below H2.out HB1.out) hb2)
      have Q2 := Aside0.mk q2
      have hb12 : w.heap.size ≤ w2.heap.size := Nat.le_trans HB1.out.size hb2.size
      have HBS := Aside0.mk hb12
      clear hb2 q2 q2x q1c0 q1c1 q1z q1h q1b q1x0 q1x1 hb12
      go_wp2_with (first | ((with_reducible refine gate_builtin (b := .append) (xs := #[.tmp 21, .tmp 24]) rfl ?_); at_builtin; refine Kd.R_append (Kd.int .i64) (w0 := w2) base rfl (.tmp 21) (.tmp 24) 22 3 (.int .i64 0) 8 rfl Tryz.underlying22 info3 rfl (by decide) (by omega) (.slice A ids.length c) ids x0 [.int .i64 x0] (fun k => fb < k ∧ k ≠ gb) (fun _ => False) rfl rfl ?aP (fun _ hk => hk.elim) ?aF ?aO ?aB ?aS ?aL ?_; (case aP => exact rfl); (case aB => exact Below.refl _ _); (case aF => exact (fun q hq => by have := (Array.getElem?_eq_some_iff.1 Q2.out).1; have := HBS.out; exact ⟨by omega, by omega⟩)); (case aO => exact HO2.out); (case aS => have := HBS.out; omega); (case aL => omega); intro v3 w3 ho hb3 hg hat; obtain ⟨A3, c3, rfl⟩ := Kd.R_slice ho; have q3 : w3.heap[fb]? = some (.cells #[.int .i64 b, .slice A ids.length c] 42 (0, 0)) := (hg.block fb (Array.getElem?_eq_some_iff.1 Q2.out).1 (fun e => by have := (HO2.out.1 fb e.symm).1; omega)).trans Q2.out; have q3c : w3.cell? ⟨fb, 1, none⟩ = some (.slice A ids.length c) := (blk_cell q3 1).trans rfl; have q3f : w3.frozen? ⟨fb, 1, none⟩ = false := blk_frozen q3 1; simp only [List.length_append, List.length_cons, List.length_nil, Nat.zero_add] at ho; have HO3 := Aside0.mk ho; have Q3 := Aside0.mk q3; have HG := Aside0.mk hg; clear ho hb3 hg hat q3))
      go_ret
      refine ⟨rfl, ⟨_, blk_put Q3.out 1 _ rfl, Kd.R_far (p := ⟨fb, 1, none⟩) HO3.out (fun q hq => by have := hq.1; show q ≠ fb; omega) _⟩, ?_⟩
      exact Eff.setCell (((Eff.of_below HB1.out).then_below HB2.out).step (Eff.grown (S := fun k => fb ≤ k ∧ (k = fb ∨ k ≠ gb)) HG.out (fun q hq => .inl ⟨Nat.le_of_lt (HO2.out.1 q hq).1, .inr (HO2.out.1 q hq).2⟩)) (fun _ hk => .inl hk)) (.inl ⟨Nat.le_refl _, .inl rfl⟩) _
end Go.Proofs.YtfliapankgdeeaaGreat.A
