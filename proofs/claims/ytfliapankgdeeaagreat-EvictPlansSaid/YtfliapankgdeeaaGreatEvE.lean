/- slices.DeleteFunc at []Item under the closure that fills a bucket. -/
import Derived.Test.YtfliapankgdeeaaGreatEvD
namespace Go.Proofs.YtfliapankgdeeaaGreat.A
open Go.RowKit Go.Shelf Go.Lib Go.Sort Go.Proofs.YtfliapankgdeeaaGreatW.PrintWords Go.Proofs.YtfliapankgdeeaaGreatW.PrintLast Go.Proofs.YtfliapankgdeeaaGreatW.PrintMore Go.Proofs.YtfliapankgdeeaaGreat.G
set_option linter.unusedVariables false
set_option linter.unusedSimpArgs false

variable {fb zb hb bb base base1 g cap k : Nat} {z h b : Int} {w : World} {ids : List Int} {l : List It} {p : It → Bool}

theorem run_clear2 (w : World) (g o n c : Nat) (ty : TypeId) (hn : 0 < n) (hc : ∀ j, j < n * 2 → (w.cell? ⟨g, o + j, none⟩).isSome = true) (hf : ∀ j, j < n * 2 → w.frozen? ⟨g, o + j, none⟩ = false) :
    (Builtin.clear_ #[23] ty #[.slice (some ⟨g, o, none⟩) n c]).run Tryz.prog w = .ok (.tuple #[]) (w.setCells g o (List.replicate (n * 2) (.int .i64 0))) := by
  have hv : ∀ w, (zeroValue 35).run Tryz.prog w = .ok (.agg #[.int .i64 0, .int .i64 0]) w := fun w => by go_simp
  have hzc : (Builtin.zeroCells (Value.cells (.agg #[.int .i64 0, .int .i64 0])) n).toList = List.replicate (n * 2) (.int .i64 0) := by
    apply List.ext_getElem
    · simp [Builtin.zeroCells, Value.cells]
    · intro i h1 h2
      have : i % 2 = 0 ∨ i % 2 = 1 := by omega
      rcases this with e | e <;> simp [Builtin.zeroCells, Value.cells, e]
  have hst := run_storeCells_cells (P := Tryz.prog) g o (List.replicate (n * 2) (.int .i64 0)) 0 w (by simpa using hc) (by simpa using hf) (by intro v hv'; rw [List.eq_of_mem_replicate hv']; rfl)
  simp only [Nat.add_zero] at hst
  obtain ⟨m, rfl⟩ : ∃ m, n = m + 1 := ⟨n - 1, by omega⟩
  simp [Builtin.clear_, run_underlying Tryz.underlying23, hv, hzc, hst]

theorem own_g {g n c : Nat} {q : Nat} (h : (Value.slice (some ⟨g, 0, none⟩) n c).ownBlock = some q) : g = q := by simpa [Value.ownBlock] using h

set_option maxHeartbeats 8000000 in
set_option maxRecDepth 100000 in
theorem DeleteFunc_calls (hR : Rw encI w base1 35 (.slice (some ⟨g, 0, none⟩) l.length cap) l) (hgf : g < fb) (hgz : g ≠ zb ∧ g ≠ hb ∧ g ≠ bb) (st : FS fb b w base ids) (hbase : base ≤ w.heap.size) (hl : ids.length + l.length < 1000) (E : Env fb zb hb bb z h b w) (hon : ∀ x : It, tree_On.f k h b x.f1 = some (p x)) (hcap : l.length ≤ cap) (hfw : fb < w.heap.size) :
    Calls Tryz.prog 21 #[.slice (some ⟨g, 0, none⟩) l.length cap, .func (.func 22) #[] #[.pointer (some ⟨fb, 0, none⟩), .pointer (some ⟨zb, 0, none⟩), .pointer (some ⟨hb, 0, none⟩), .pointer (some ⟨bb, 0, none⟩)]] w fun e w' =>
      e = .returned (.slice (some ⟨g, 0, none⟩) (tk z p ids l).2.length cap) ∧ Rw encI w' base1 35 (.slice (some ⟨g, 0, none⟩) (tk z p ids l).2.length cap) (tk z p ids l).2 ∧ FS fb b w' base (tk z p ids l).1 ∧ Eff w w' (fun k => k = g ∨ fb ≤ k) := by
  have eg : ∀ args w, (callFunc 22 args).run Tryz.prog w = .ok (.enter 22 args) w := enters_of Tryz.func22 (by kernel_rfl) rfl
  have hix := IndexFunc_calls hR hgf st hbase (by omega) E hon (by omega)
  have HR : Aside (Rw encI w base1 35 (.slice (some ⟨g, 0, none⟩) l.length cap) l) := hR
  have EN : Aside (Env fb zb hb bb z h b w) := E
  have ON : Aside (∀ x : It, tree_On.f k h b x.f1 = some (p x)) := hon
  have HZ : Aside (g ≠ zb ∧ g ≠ hb ∧ g ≠ bb) := hgz
  have HL : Aside (ids.length + l.length < 1000) := hl
  have hn : l.length < 1000 := by omega
  clear hR st E hon hgz hl
  go_enter Tryz.func21, Tryz.ntmps21
  go_wp2_with fail
  refine hix.mono ?_
  rintro e w1 ⟨r, rfl, F1, hr⟩
  rcases hr with ⟨rfl, hno, S1⟩ | ⟨j0, hj0, rfl, hno, hyes, S1⟩
  · have e1 : tk z p ids l = (ids, l) := by
      have := tk_skip l [] hno
      rw [List.append_nil] at this
      rw [this]
      simp [tk]
    have E1 := Aside0.mk e1
    have S1 : Aside (FS fb b w1 base ids) := S1
    have F1 : Aside (Eff w w1 (fun k => fb ≤ k)) := F1
    clear hno e1
    go_wp2
    go_ret
    rw [E1.out]
    exact ⟨rfl, HR.out.eff F1.out (fun q hq => by have := own_g hq; omega), S1.out, F1.out.mono (fun _ hk => .inr hk)⟩
  · have e1 : tk z p ids l = ((tk z p (ids ++ [l[j0].f0]) (l.drop (j0 + 1))).1, l.take j0 ++ (tk z p (ids ++ [l[j0].f0]) (l.drop (j0 + 1))).2) := by
      conv => lhs; rw [← List.take_append_drop j0 l, tk_skip _ _ hno, List.drop_eq_getElem_cons hj0, tk, if_pos hyes]
    have hne : ((j0 : Int) == -1) = false := beq_eq_false_iff_ne.2 (by omega)
    have R1 : Aside (Rw encI w1 base1 35 (.slice (some ⟨g, 0, none⟩) l.length cap) l) := HR.out.eff F1 (fun q hq => by have := own_g hq; omega)
    have S1 : Aside (FS fb b w1 base (ids ++ [l[j0].f0])) := S1
    have F1 : Aside (Eff w w1 (fun k => k = g ∨ fb ≤ k)) := F1.mono (fun _ hk => .inr hk)
    have E1 : Aside (tk z p ids l = ((tk z p (ids ++ [l[j0].f0]) (l.drop (j0 + 1))).1, l.take j0 ++ (tk z p (ids ++ [l[j0].f0]) (l.drop (j0 + 1))).2)) := e1
    clear hno hyes e1
    go_wp2
    go_loopg [5, 6] l.length (fun gg vi vj wr => ∃ (i j : Nat) (dk : List It) (ik : List Int), vi = .int .i64 i ∧ vj = .int .i64 j ∧ i < j ∧ j ≤ l.length ∧ l.length - j ≤ gg ∧ dk.length = l.length ∧ ik.length ≤ ids.length + j ∧ Aside (dk.drop j = l.drop j) ∧ Aside (Rw encI wr base1 35 (.slice (some ⟨g, 0, none⟩) dk.length cap) dk) ∧ Aside (FS fb b wr base ik) ∧ Aside (Eff w wr (fun k => k = g ∨ fb ≤ k)) ∧ Aside (tk z p ids l = ((tk z p ik (l.drop j)).1, dk.take i ++ (tk z p ik (l.drop j)).2)))
    case atStart => exact ⟨j0, j0 + 1, l, ids ++ [l[j0].f0], rfl, by go_num, by omega, hj0, by omega, rfl, by simp only [List.length_append, List.length_singleton]; omega, rfl, R1, S1, F1, E1⟩
    case round =>
      clear R1 S1 F1 E1
      obtain ⟨i, j, dk, ik, rfl, rfl, hij, hj, hg, hdk, hik, D1, R1, S1, F1, E1⟩ := hrel
      by_cases hlt : j < l.length
      · have hltz : (j : Int) < (l.length : Int) := by omega
        have hjd : j < dk.length := by omega
        obtain ⟨x, hx⟩ : ∃ x, x = l[j] := ⟨_, rfl⟩
        have hxd : dk[j] = x := by
          have a1 : (dk.drop j)[0]? = (l.drop j)[0]? := by rw [D1.out]
          rw [List.getElem?_drop, List.getElem?_drop] at a1
          simp only [Nat.add_zero] at a1
          rw [List.getElem?_eq_getElem hjd, List.getElem?_eq_getElem hlt] at a1
          rw [hx]; exact Option.some.inj a1
        have c0 : wr.cell? ⟨g, j * 2, none⟩ = some (.int .i64 x.f0) := by rw [← hxd]; exact (R1.out.cell encI_two j hjd 0 (by omega)).trans rfl
        have c1 : wr.cell? ⟨g, j * 2 + 1, none⟩ = some (.int .i64 x.f1) := by rw [← hxd]; exact (R1.out.cell encI_two j hjd 1 (by omega)).trans rfl
        have X := Aside0.mk hx
        have hdj : l.drop j = x :: l.drop (j + 1) := by rw [List.drop_eq_getElem_cons hlt, ← hx]
        have DJ := Aside0.mk hdj
        have HIK : Aside (ik.length ≤ ids.length + j) := hik
        have HDK := Aside0.mk hdk
        have HXD := Aside0.mk hxd
        have HIJ := Aside0.mk hij
        clear hx hxd hdj hik hdk hij
        go_wp2_with ((with_reducible refine gate_dst (N := 7) rfl ?_); refine box_event ?hg (N := 7) ?hd (cs := #[.int .i64 0, .int .i64 0]) (t := 35) ?hr ?_; (case hd => rfl); (case hg => rfl); (case hr => first | (go_simp; done) | (go_simp; rfl)); intro gb hgb w2 hbox hb2; have HBX := Aside0.mk hbox; have HB2 := Aside0.mk hb2; have HGB := Aside0.mk hgb; have z0 : w2.cell? ⟨gb, 0, none⟩ = some (.int .i64 0) := (blk_cell hbox 0).trans rfl; have z1 : w2.cell? ⟨gb, 1, none⟩ = some (.int .i64 0) := (blk_cell hbox 1).trans rfl; have y0 := blk_frozen hbox 0; have y1 := blk_frozen hbox 1; clear hbox hb2 hgb)
        have BW : Aside (Below wr.heap.size wr ((w2.setCell ⟨gb, 0, none⟩ (.int .i64 x.f0)).setCell ⟨gb, 1, none⟩ (.int .i64 x.f1))) := (HB2.out.setCell (p := ⟨gb, 0, none⟩) (by show _ ≤ gb; rw [HGB.out]; exact Nat.le_refl _) _).setCell (p := ⟨gb, 1, none⟩) (by show _ ≤ gb; rw [HGB.out]; exact Nat.le_refl _) _
        have BB := blk_put (blk_put HBX.out 0 (.int .i64 x.f0) rfl) 1 (.int .i64 x.f1) rfl
        have hc := delx_calls gb x (S1.out.x BW.out (by rw [HGB.out]; exact Nat.le_refl _)) (Array.getElem?_eq_some_iff.1 BB).1 (Nat.le_trans hbase (Nat.le_trans F1.out.size BW.out.size)) (by have := HIK.out; have := HL.out; omega) (EN.out.eff (F1.out.then_below BW.out) (by have := HZ.out; have := EN.out.lz; omega) (by have := HZ.out; have := EN.out.lh; omega) (by have := HZ.out; have := EN.out.lb; omega)) ON.out
        have BB := Aside0.mk BB
        cases ht : takes z p ik x with
        | false =>
          rw [ht] at hc
          have HT := Aside0.mk ht
          clear ht
          refine hc.mono ?_
          rintro e w3 ⟨rfl, hs, hf⟩
          have F2 : Aside (Eff wr w3 (fun k => fb ≤ k ∧ (k = fb ∨ k ≠ gb))) := (Eff.of_below BW.out).trans hf
          have S2 : Aside (FS fb b w3 base ik) := hs
          have hfg : fb < gb := by rw [HGB.out]; exact Nat.lt_of_lt_of_le hfw F1.out.size
          have b3 := hf.blk BB.out (by omega)
          have b30 : w3.cell? ⟨gb, 0, none⟩ = some (.int .i64 x.f0) := (blk_cell b3 0).trans rfl
          have b31 : w3.cell? ⟨gb, 1, none⟩ = some (.int .i64 x.f1) := (blk_cell b3 1).trans rfl
          have R2 := R1.out.eff F2.out (fun q hq => by have := own_g hq; omega)
          have hid : i < dk.length := by have := HIJ.out; have := HDK.out; omega
          have c2 : w3.cell? ⟨g, i * 2, none⟩ = some (.int .i64 dk[i].f0) := (R2.cell encI_two i hid 0 (by omega)).trans rfl
          have c3 : w3.cell? ⟨g, i * 2 + 1, none⟩ = some (.int .i64 dk[i].f1) := (R2.cell encI_two i hid 1 (by omega)).trans rfl
          have c4 : (w3.setCell ⟨g, i * 2, none⟩ (.int .i64 x.f0)).cell? ⟨g, i * 2 + 1, none⟩ = some (.int .i64 dk[i].f1) := (World.cell?_setCell_other _ _ _ _ (by intro e; simp only [Addr.mk.injEq] at e; omega)).trans c3
          have f2 := R2.frozen (i * 2)
          have f3 := R2.frozen (i * 2 + 1)
          generalize dk[i].f0 = u0 at c2
          generalize dk[i].f1 = u1 at c3 c4
          have R3 : Aside (Rw encI ((w3.setCell ⟨g, i * 2, none⟩ (.int .i64 x.f0)).setCell ⟨g, i * 2 + 1, none⟩ (.int .i64 x.f1)) base1 35 (.slice (some ⟨g, 0, none⟩) dk.length cap) (dk.set i x)) := R2.set encI_two i hid rfl
          have hil : (i : Int) < (l.length : Int) := by have := HDK.out; omega
          clear hs hf hfg b3 R2 z0 z1 y0 y1 c0 c1 c3
          go_wp2
          go_roundg (l.length - (j + 1))
          case measure => omega
          case rel =>
            have hij := HIJ.out
            have hdk := HDK.out
            have hik := HIK.out
            refine ⟨i + 1, j + 1, dk.set i x, ik, by go_num, by go_num, by omega, by omega, Nat.le_refl _, by rw [List.length_set]; exact hdk, by omega, (show Aside _ from ?_), ?_, ?_, ?_, (show Aside _ from ?_)⟩
            · show _ = _
              rw [List.drop_set_of_lt (by omega), show dk.drop (j + 1) = (dk.drop j).drop 1 by rw [List.drop_drop], D1.out, List.drop_drop]
            · rw [List.length_set]; exact R3
            · exact S2.out.kept (((Eff.refl w3 (fun k => k = g)).setCell (p := ⟨g, i * 2, none⟩) (.inl rfl) _).setCell (p := ⟨g, i * 2 + 1, none⟩) (.inl rfl) _) (fun q hq _ => by omega)
            · exact ((F1.out.trans (F2.out.mono (fun q hq => .inr hq.1))).setCell (p := ⟨g, i * 2, none⟩) (.inl (.inl rfl)) _).setCell (p := ⟨g, i * 2 + 1, none⟩) (.inl (.inl rfl)) _
            · show _ = _
              rw [E1.out, DJ.out, tk, if_neg (by rw [HT.out]; decide), List.take_succ_eq_append_getElem (by rw [List.length_set]; omega), List.take_set_of_le (Nat.le_refl _), List.getElem_set_self, List.append_assoc]
              rfl
        | true =>
          rw [ht] at hc
          have HT := Aside0.mk ht
          clear ht
          refine hc.mono ?_
          rintro e w3 ⟨rfl, hs, hf⟩
          have F2 : Aside (Eff wr w3 (fun k => fb ≤ k ∧ (k = fb ∨ k ≠ gb))) := (Eff.of_below BW.out).trans hf
          have S2 : Aside (FS fb b w3 base (ik ++ [x.f0])) := hs
          clear hs hf z0 z1 y0 y1 c0 c1
          go_wp2
          go_roundg (l.length - (j + 1))
          case measure => omega
          case rel =>
            have hij := HIJ.out
            have hdk := HDK.out
            have hik := HIK.out
            refine ⟨i, j + 1, dk, ik ++ [x.f0], rfl, by go_num, by omega, by omega, Nat.le_refl _, hdk, by simp only [List.length_append, List.length_singleton]; omega, (show Aside _ from ?_), R1.out.eff F2.out (fun q hq => by have := own_g hq; omega), S2, F1.out.trans (F2.out.mono (fun q hq => .inr hq.1)), (show Aside _ from ?_)⟩
            · show _ = _
              rw [show dk.drop (j + 1) = (dk.drop j).drop 1 by rw [List.drop_drop], D1.out, List.drop_drop]
            · show _ = _
              rw [E1.out, DJ.out, tk, if_pos HT.out]
      · obtain rfl : j = l.length := by omega
        have hltz : ¬ (l.length : Int) < (l.length : Int) := by omega
        have hil : i < l.length := hij
        have hcl : ∀ ty, (Builtin.clear_ #[23] ty #[.slice (some ⟨g, i * 2, none⟩) (l.length - i) (cap - i)]).run Tryz.prog wr = .ok (.tuple #[]) (wr.setCells g (i * 2) (List.replicate ((l.length - i) * 2) (.int .i64 0))) := fun ty =>
          run_clear2 wr g (i * 2) (l.length - i) (cap - i) ty (by omega) (fun t ht => by
            obtain ⟨q, c, hq, hc, rfl⟩ : ∃ q c, q < l.length - i ∧ c < 2 ∧ t = q * 2 + c := ⟨t / 2, t % 2, by omega, by omega, by omega⟩
            rw [show i * 2 + (q * 2 + c) = (i + q) * 2 + c by omega, R1.out.cell encI_two (i + q) (by omega) c hc]
            have : c = 0 ∨ c = 1 := by omega
            rcases this with rfl | rfl <;> rfl) (fun t ht => R1.out.frozen _)
        have E2 : Aside (tk z p ids l = (ik, dk.take i)) := by
          show _ = _
          rw [E1.out, List.drop_length]
          simp [tk]
        have HDK := Aside0.mk hdk
        clear hdk hik hij
        go_wp2
        go_ret
        have hdk := HDK.out
        have hti : (dk.take i).length = i := by rw [List.length_take]; omega
        rw [E2.out]
        refine ⟨by show _ = Ending.returned (Value.slice _ (dk.take i).length cap); rw [hti]; rfl, ?_, S1.out.kept (eff_sets (S := fun k => k = g) rfl _ _ _ _ (Eff.refl _ _)) (fun q hq _ => by omega), eff_sets (S := fun k => k = g ∨ fb ≤ k) (.inl rfl) _ _ _ _ F1.out⟩
        rw [hti]
        exact R1.out.wiped encI_two i (by omega) _
end Go.Proofs.YtfliapankgdeeaaGreat.A
